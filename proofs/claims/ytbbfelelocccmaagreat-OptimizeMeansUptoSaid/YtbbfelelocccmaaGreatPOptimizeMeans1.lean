/-
  NO PACKAGE VARIABLES ARE LOOKED INTO: own work, over no program.
-/
import Derived.Calls
import Derived.Orders
import Derived.Laws.Sem
import Derived.Laws.World
import Derived.Laws.Cells
import Derived.Laws.Rows
import Derived.Laws.AppendOwn
import Derived.Laws.MakeOwn
import Derived.Laws.Slices
import Derived.Laws.Small
import Derived.Laws.Strings
import Derived.Laws.StructEq
import Derived.WalkKit
set_option linter.unusedVariables false
set_option linter.unusedSimpArgs false
set_option maxRecDepth 100000
set_option maxHeartbeats 2000000
namespace Go.Proofs.YtbbfelelocccmaaGreat.Sv
open Go
theorem tP{p:Prop}(h:p:=by repeat(first | exact trivial | refine⟨(by first | exact Na _ _ | exact(show A7 Do [2] [2]from AB (by decide)) | exact(show A7 Do [3] [3]from AB (by decide)) | exact(show A7 Do [4] [4]from AB (by decide)) | exact(show A7 Do [5] [5]from AB (by decide)) | exact(show A7 Do [6] [6]from AB (by decide)) | exact(show A7 Do [7] [7]from AB (by decide)) | exact(show A7 Do [8] [8]from AB (by decide)) | exact(show A7 Do [9] [9]from AB (by decide)) | exact(show A7 Do [10] [10]from AB (by decide)) | exact(show A7 Do [11] [11]from AB (by decide)) | exact(show A7 Do [12] [12]from AB (by decide)) | exact(show A7 Do [13] [13]from AB (by decide)) | exact(show A7 Do [14] [14]from AB (by decide)) | exact(show A7 Do [15] [15]from AB (by decide)) | exact AB (by decide) | exact M9 (by decide) (by decide) | exact AB (by first | rw[eK];decide | rw[eJ];decide | rw[eI];decide | rw[eH];decide)),(by first | exact Na _ _ | exact(show A7 Do [2] [2]from AB (by decide)) | exact(show A7 Do [3] [3]from AB (by decide)) | exact(show A7 Do [4] [4]from AB (by decide)) | exact(show A7 Do [5] [5]from AB (by decide)) | exact(show A7 Do [6] [6]from AB (by decide)) | exact(show A7 Do [7] [7]from AB (by decide)) | exact(show A7 Do [8] [8]from AB (by decide)) | exact(show A7 Do [9] [9]from AB (by decide)) | exact(show A7 Do [10] [10]from AB (by decide)) | exact(show A7 Do [11] [11]from AB (by decide)) | exact(show A7 Do [12] [12]from AB (by decide)) | exact(show A7 Do [13] [13]from AB (by decide)) | exact(show A7 Do [14] [14]from AB (by decide)) | exact(show A7 Do [15] [15]from AB (by decide)) | exact AB (by decide) | exact M9 (by decide) (by decide) | exact AB (by first | rw[eK];decide | rw[eJ];decide | rw[eI];decide | rw[eH];decide)),?_⟩)):p:=h
theorem nf{p:Prop}(h:p:=by repeat(first | exact trivial | refine⟨(by first | exact Na _ _ | exact(show A7 Dj [2] [2]from AB (by decide)) | exact(show A7 Dj [3] [3]from AB (by decide)) | exact(show A7 Dj [4] [4]from AB (by decide)) | exact(show A7 Dj [5] [5]from AB (by decide)) | exact(show A7 Dj [6] [6]from AB (by decide)) | exact(show A7 Dj [7] [7]from AB (by decide)) | exact(show A7 Dj [8] [8]from AB (by decide)) | exact(show A7 Dj [9] [9]from AB (by decide)) | exact(show A7 Dj [10] [10]from AB (by decide)) | exact(show A7 Dj [11] [11]from AB (by decide)) | exact(show A7 Dj [12] [12]from AB (by decide)) | exact(show A7 Dj [13] [13]from AB (by decide)) | exact(show A7 Dj [14] [14]from AB (by decide)) | exact(show A7 Dj [15] [15]from AB (by decide)) | exact AB (by decide) | exact M9 (by decide) (by decide) | exact AB (by first | rw[eN];decide | rw[eM];decide | rw[eL];decide)),(by first | exact Na _ _ | exact(show A7 Dj [2] [2]from AB (by decide)) | exact(show A7 Dj [3] [3]from AB (by decide)) | exact(show A7 Dj [4] [4]from AB (by decide)) | exact(show A7 Dj [5] [5]from AB (by decide)) | exact(show A7 Dj [6] [6]from AB (by decide)) | exact(show A7 Dj [7] [7]from AB (by decide)) | exact(show A7 Dj [8] [8]from AB (by decide)) | exact(show A7 Dj [9] [9]from AB (by decide)) | exact(show A7 Dj [10] [10]from AB (by decide)) | exact(show A7 Dj [11] [11]from AB (by decide)) | exact(show A7 Dj [12] [12]from AB (by decide)) | exact(show A7 Dj [13] [13]from AB (by decide)) | exact(show A7 Dj [14] [14]from AB (by decide)) | exact(show A7 Dj [15] [15]from AB (by decide)) | exact AB (by decide) | exact M9 (by decide) (by decide) | exact AB (by first | rw[eN];decide | rw[eM];decide | rw[eL];decide)),?_⟩)):p:=h
theorem tO{p:Prop}(h:p:=by repeat(first | exact trivial | refine⟨⟨by first | rfl | exact BQ rfl | exact congrArg (fun es=>some (AObj.row true 1 es)) (kR hgi hfg) | exact congrArg (fun es=>some (AObj.row true 1 es)) (kQ hgi hfg) | exact congrArg (fun w=>some (AObj.row true 1 (iC _ w))) (lB hgi hfg) | exact congrArg (fun es=>some (AObj.row true 1 es)) ((H5 true).trans (congrArg (bC _) (dw hgi hfg))) | exact congrArg (fun w=>some (AObj.row true 1 (bC _ w))) (dy hgi (by omega)),by first | rfl | exact Ad (fun _ _=>Bd (As _) _ _) | exact Ad (fun _ _=>A4 (As _) _ _ _ _) | exact Ad (fun _ _=>BX (As _) _ _) | exact EE _⟩,?_⟩)):p:=h
theorem tM{p:Prop}(h:p:=by repeat(first | exact trivial | refine⟨⟨by first | rfl | exact congrArg (fun es=>some (AObj.row true 1 es)) (H5 true) |((try simp only[hputs]);repeat(first | rfl | exact Aq _ _ _ | refine Az (by exact Af (by omega)) ?_ | refine hrm_skip (by omega) ?_ | refine(CD _ (fun i_ _=>by first | omega |(dsimp only;omega))).trans ?_)),by first | rfl | exact Ad (fun _ _=>Bd (As _) _ _) | exact Ad (fun _ _=>A4 (As _) _ _ _ _) | exact Ad (fun _ _=>BX (As _) _ _) | exact EE _⟩,?_⟩)):p:=h
theorem tL{p:Prop}(h:p:=by repeat(first | exact trivial | refine⟨⟨by first | rfl | exact BQ rfl |(rw[hnx2];first | rfl | exact BQ rfl |((try simp only[hputs]);repeat(first | rfl | exact Aq _ _ _ | refine Az (by exact Af (by omega)) ?_ | refine hrm_skip (by omega) ?_ | refine(CD _ (fun i_ _=>by first | omega |(dsimp only;omega))).trans ?_))),by first | rfl | exact Ad (fun _ _=>Bd (As _) _ _) | exact Ad (fun _ _=>A4 (As _) _ _ _ _) | exact Ad (fun _ _=>BX (As _) _ _) | exact EE _⟩,?_⟩)):p:=h
theorem tK{p:Prop}(h:p:=by repeat(first | exact trivial | refine⟨⟨by first | rfl | exact BQ rfl |((try simp only[hputs]);repeat(first | rfl | exact Aq _ _ _ | refine Az (by exact Af (by omega)) ?_ | refine hrm_skip (by omega) ?_ | refine(CD _ (fun i_ _=>by first | omega |(dsimp only;omega))).trans ?_)),by first | rfl | exact Ad (fun _ _=>Bd (As _) _ _) | exact Ad (fun _ _=>A4 (As _) _ _ _ _) | exact Ad (fun _ _=>BX (As _) _ _) | exact EE _⟩,?_⟩)):p:=h
theorem ri{p:Prop}(h:p:=by repeat(first | exact trivial | refine⟨⟨by first | rfl |((try simp only[hputs]);repeat(first | rfl | exact Aq _ _ _ | refine Az (by exact Af (by omega)) ?_ | refine hrm_skip (by omega) ?_ | refine(CD _ (fun i_ _=>by first | omega |(dsimp only;omega))).trans ?_)),by first | rfl | exact Ad (fun _ _=>Bd (As _) _ _) | exact Ad (fun _ _=>A4 (As _) _ _ _ _) | exact Ad (fun _ _=>BX (As _) _ _) | exact EE _⟩,?_⟩)):p:=h
theorem tJ{p:Prop}(h:p:=by repeat(first | exact EDropK.new _ _ | refine EDropK.put ?_ (by first | rfl | exact congrArg (fun m=>some (AV.ref 8 _ 0 m)) (by rw[<-No hgi hfg,List.length_append];rfl) | exact congrArg (fun l:List Nat=>some (AV.ref 8 _ 0 l.length)) (Np hgi (by omega)) | exact congrArg (fun(n:Nat)=>some (AV.int .i64 (n:Int))) (by simp)) (by first | rfl | exact A4 (As _) _ _ _ _))):p:=h
theorem tH{p:Prop}(h:p:=by repeat(first | exact HSub.refl _ | exact HSub.none _ | exact AG _ | exact AE (by first | decide | omega |(dsimp only;omega)) | refine HSub.put ?_ (by first | rfl | exact congrArg (fun es=>some (AObj.row true 1 es)) (RB _)) | refine AF ?_ (by first | decide | omega |(dsimp only;omega)) | refine Bq ?_ (by decide))):p:=h
theorem fE{p:Prop}(h:p:=by intro c h1 h2;rcases(by omega:c=8\/c=9\/c=10\/c=11\/c=12\/c=13\/c=14\/c=15)with rfl | rfl | rfl | rfl | rfl | rfl | rfl | rfl<;>first | rfl |(try simp only[hputs];repeat(first | rfl | refine Az (by exact Af (by omega)) ?_ | refine hrm_skip (by omega) ?_))):p:=h
theorem X9{p:Prop}(h:p:=by intro c h1 h2;rcases(by omega:c=9\/c=10\/c=11\/c=12\/c=13\/c=14\/c=15)with rfl | rfl | rfl | rfl | rfl | rfl | rfl<;>first | rfl |(try simp only[hputs];repeat(first | rfl | refine Az (by exact Af (by omega)) ?_ | refine hrm_skip (by omega) ?_))):p:=h
theorem Fz{p:Prop}(h:p:=by repeat(first | exact HSub.refl _ | exact HSub.none _ | exact AG _ | exact AE (by first | decide | omega |(dsimp only;omega)) | refine HSub.put ?_ (by rfl) | refine AF ?_ (by first | decide | omega |(dsimp only;omega)) | refine Bq ?_ (by decide))):p:=h
theorem nj{p:Prop}(h:p:=by intro x_;rw[hnx2];(try simp only[hputs]);(try dsimp only);first | exact(EA _ _ x_).trans (Ao _ _ _) | exact Ao _ _ _ |((repeat(first | refine Az (by exact Af (by omega)) ?_ | refine hrm_skip (by omega) ?_));exact(EA _ _ x_).trans (Ao _ _ _))):p:=h
theorem ni{p:Prop}(h:p:=by repeat(first | exact EDropK.new _ _ | refine EDropK.put ?_ (by first | rfl | exact congrArg (fun m=>some (AV.ref 8 _ 0 m)) (by rw[List.length_append];rfl) | exact congrArg (fun(n:Nat)=>some (AV.int .i64 (n:Int))) (by simp)) (by first | rfl | exact Bd (As _) _ _))):p:=h
theorem Kk{p:Prop}(h:p:=by intro c h1 h2;rcases(by omega:c=10\/c=11\/c=12\/c=13\/c=14\/c=15)with rfl | rfl | rfl | rfl | rfl | rfl<;>first | rfl |(try simp only[hputs];repeat(first | rfl | refine Az (by exact Af (by omega)) ?_ | refine hrm_skip (by omega) ?_))):p:=h
theorem nh{p:Prop}(h:p:=by repeat(first | exact trivial | refine⟨⟨by first | rfl | exact BQ rfl,by first | rfl | exact Ad (fun _ _=>Bd (As _) _ _) | exact Ad (fun _ _=>A4 (As _) _ _ _ _) | exact Ad (fun _ _=>BX (As _) _ _)⟩,?_⟩)):p:=h
theorem j5{p:Prop}(h:p:=by repeat(first | exact trivial | refine⟨⟨by rfl,by first | rfl | exact Ad (fun _ _=>Bd (As _) _ _) | exact Ad (fun _ _=>A4 (As _) _ _ _ _) | exact Ad (fun _ _=>BX (As _) _ _) | exact EE _⟩,?_⟩)):p:=h
theorem fS{p:Prop}(h:p:=by intro x_;(try simp only[hputs]);(try dsimp only);first | exact Ao _ _ _ | exact(Kz _ _ x_).trans (Ao _ _ _) |((repeat(first | refine Az (by exact Af (by omega)) ?_ | refine hrm_skip (by omega) ?_));exact Ao _ _ _)):p:=h
theorem GY{p:Prop}(h:p:=by intro x_;(try simp only[hputs]);(try dsimp only);first | exact Ao _ _ _ | exact(EA _ _ x_).trans (Ao _ _ _) |((repeat(first | refine Az (by exact Af (by omega)) ?_ | refine hrm_skip (by omega) ?_));exact Ao _ _ _)):p:=h
theorem ng{p:Prop}(h:p:=by rcases(by omega:a/2^k%2=0\/a/2^k%2=1)with h1 | h1<;>rcases(by omega:b/2^k%2=0\/b/2^k%2=1)with h2 | h2<;>(try simp_all[Z4])<;>first |(rw[bne_iff_ne.2 ‹¬op=11›];rfl) |(rw[bne_iff_ne.2 ‹¬op=9›];rfl)):p:=h
theorem na{p:Prop}(h:p:=by repeat(first | exact ESub.new _ | refine ESub.put ?_ (by first | rfl | exact congrArg (fun m:Nat=>some (AV.int .i64 (m:Int))) ((List.length_map _).trans (AJ f)) | exact congrArg (fun(n:Nat)=>some (AV.int .i64 (n:Int))) (by simp)))):p:=h
theorem m9{p:Prop}(h:p:=by repeat(first | exact EDropK.new _ _ | refine EDropK.put ?_ (by first | rfl | exact congrArg (fun z=>some (AV.bool z)) (by rw[hnx2];first | done | rfl |(simp[hss,hr];done) | simp[hss,hr])) (by first | rfl | exact A4 (As _) _ _ _ _))):p:=h
theorem BA{p:Prop}(h:p:=by(try simp only[hputs]);repeat(first | rfl | exact Aq _ _ _ | refine Az (by exact Af (by omega)) ?_ | refine hrm_skip (by omega) ?_ | refine(CD _ (fun i_ _=>by first | omega |(dsimp only;omega))).trans ?_)):p:=h
theorem jZ{p:Prop}(h:p:=by repeat(first | exact trivial | refine⟨⟨by rfl,by first | rfl | exact Ad (fun _ _=>Bd (As _) _ _) | exact Ad (fun _ _=>A4 (As _) _ _ _ _) | exact Ad (fun _ _=>DU (As _) _ _ _)⟩,?_⟩)):p:=h
theorem jY{p:Prop}(h:p:=by repeat(first | exact trivial | refine⟨⟨by rfl,by first | rfl | exact Ad (fun _ _=>Bd (As _) _ _) | exact Ad (fun _ _=>A4 (As _) _ _ _ _) | exact Ad (fun _ _=>BX (As _) _ _)⟩,?_⟩)):p:=h
theorem m8{p:Prop}(h:p:=by repeat(first | exact EDropK.new _ _ | refine EDropK.put ?_ (by first | rfl | exact congrArg (fun z=>some (AV.bool z)) (iI hne) | exact congrArg (fun z=>some (AV.bool z)) (lL heq)) (by first | rfl | exact CM _ _ _ _))):p:=h
theorem m7{p:Prop}(h:p:=by intro c h1 h2;rcases(by omega:c=13\/c=14\/c=15)with rfl | rfl | rfl<;>first | rfl |(try simp only[hputs];repeat(first | rfl | refine Az (by exact Af (by omega)) ?_ | refine hrm_skip (by omega) ?_))):p:=h
theorem Re{p:Prop}(h:p:=by repeat(first | exact HDrop.none _ _ | exact HDrop.tail _ _ | refine HDrop.put ?_ (by rfl) rfl (by first | rfl | exact Dr _ _ | exact Yq _ | exact Yz _ _ rfl rfl | exact Ye _ _ _ rfl rfl rfl))):p:=h
theorem jX{p:Prop}(h:p:=by repeat(first | exact EDropK.new _ _ | refine EDropK.put ?_ (by first | rfl | exact congrArg (fun x=>some (AV.int .i64 x)) (Jb hil (by simp only[maxLen];omega))) (by first | rfl | exact Ui _ _))):p:=h
theorem aG{p:Prop}(h:p:=by repeat(first | exact trivial | refine⟨⟨by first | rfl | exact Hi rfl,by first | rfl | exact Ad (fun _ _=>CM _ _ _ _) | exact Ad (fun _ _=>CJ _ _ _)⟩,?_⟩)):p:=h
theorem fR{p:Prop}(h:p:=by(try simp only[hputs]);(repeat(first | refine Az (by exact Af (by omega)) ?_ | refine hrm_skip (by omega) ?_));exact(Ao _ _ _).trans (congrArg some (VC hb hx))):p:=h
theorem Rd{p:Prop}(h:p:=by repeat(first | exact trivial | refine⟨⟨by rfl,by first | rfl | exact Ad (fun _ _=>CM _ _ _ _) | exact Ad (fun _ _=>CJ _ _ _)⟩,?_⟩)):p:=h
theorem FO{p:Prop}(h:p:=by intro x_;(try simp only[hputs]);repeat(first | exact Ao _ _ _ | refine Az (by exact Af (by omega)) ?_ | refine hrm_skip (by omega) ?_)):p:=h
theorem aF{p:Prop}(h:p:=by intro y_;(try simp only[hputs]);repeat(first | exact Ao _ _ _ | refine Az (by exact Af (by omega)) ?_ | refine hrm_skip (by omega) ?_)):p:=h
theorem Rc{p:Prop}(h:p:=by repeat(first | exact HSub.none _ | exact AG _ | exact AE (by decide) | refine HSub.put ?_ (by rfl) | refine AF ?_ (by decide))):p:=h
theorem jW{p:Prop}(h:p:=by first | rfl | exact congrArg (fun es=>some (AObj.row true 1 es)) (PV _ _ _) | exact congrArg (fun es=>some (AObj.row true 1 es)) (Vy _ _ _ _)):p:=h
theorem Et{p:Prop}(h:p:=by repeat(first | exact ESub.new _ | refine ESub.put ?_ (by first | rfl | exact congrArg (fun(n:Nat)=>some (AV.int .i64 (n:Int))) (by simp)))):p:=h
theorem jV{p:Prop}(h:p:=by have:=Sf (SB f) f.blocks.length v;have e:M2 (SB f) f.blocks.length v=Fy f v:=rfl;rw[e]at this;simp only[maxLen];omega):p:=h
theorem SR{p:Prop}(h:p:=by repeat(first | exact EDrop.new _ _ | refine EDrop.put ?_ (by rfl) (by first | rfl | exact B9 _ rfl | exact Hc _ rfl))):p:=h
theorem jU{p:Prop}(h:p:=by intro e w4 he;cases e<;>first | exact he | exact hpost _ _ _ he |(obtain⟨a3,w5,hp3⟩:=he;exact⟨a3,w5,hpost _ _ _ hp3⟩)):p:=h
theorem jT{p:Prop}(h:p:=by rw[show w2.heap.size=w.heap.size by show(w1.heap.setIfInBounds rb _).size=_;rw[hw1h.1];simp];exact hmlt):p:=h
theorem fQ{p:Prop}(h:p:=by repeat(first | exact NoMap.none | exact NoMap.new | refine NoMap.put ?_ _ rfl | refine ft ?_ _)):p:=h
theorem Ik{p:Prop}(h:p:=by repeat(first | exact EDropK.new _ _ | refine EDropK.put ?_ (by rfl) (by first | rfl))):p:=h
theorem Rb{p:Prop}(h:p:=by repeat(first | exact trivial | refine⟨by first | rfl | exact BQ rfl,?_⟩)):p:=h
theorem Ra{p:Prop}(h:p:=by repeat(first | exact EDrop.new _ _ | refine EDrop.put ?_ (by rfl) rfl)):p:=h
theorem Cf{p:Prop}(h:p:=by repeat(first | exact ESub.new _ | refine ESub.put ?_ (by rfl))):p:=h
theorem Lh{p:Prop}(h:p:=by rw[Nat.zero_add,Int.toNat_natCast];exact BT hb):p:=h
theorem X8{p:Prop}(h:p:=by rw[Nat.zero_add,Int.toNat_natCast];exact BT hv):p:=h
theorem SQ{p:Prop}(h:p:=by repeat(first | exact trivial | refine⟨by rfl,?_⟩)):p:=h
theorem Pt{p:Prop}(h:p:=by rw[Nat.zero_add,Int.toNat_natCast];exact ck):p:=h
theorem X7{p:Prop}(h:p:=by rw[Bk];exact(BV f _).symm):p:=h
theorem Dy{p:Prop}(h:p:=by first | exact fun _=>rfl |(intro h;cases h)):p:=h
theorem Ps{p:Prop}(h:p:=by intro i_ _;first | omega |(dsimp only;omega)):p:=h
theorem GK{p:Prop}(h:p:=by first | decide | omega |(dsimp only;omega)):p:=h
theorem Ij{p:Prop}(h:p:=by rw[ho];simp[Op.operands,Call.operands]):p:=h
theorem MD{p:Prop}(h:p:=by rw[List.length_append,Es];rfl):p:=h
theorem rf{p:Prop}(h:p:=by
 refine aq 115 (Ab Ag rfl rfl rfl rfl rfl rfl rfl (AC (by simp:(f.tpaths.map f.newBlock).length=f.tpaths.length) (Nat.le_of_lt hkl)) rfl (Int.natCast_nonneg _) (by omega)) ?_;refine AOps.w rfl rfl (o_store Ag rfl rfl rfl rfl rfl rfl (AC (by simp:(f.tpaths.map f.newBlock).length=f.tpaths.length) (Nat.le_of_lt hkl)) (fill_get (by simp:(f.tpaths.map f.newBlock).length=f.tpaths.length) hkl) rfl (by decide) rfl Dy) ?_;refine wk 2 ?_;refine aq 116 (Bj rfl rfl hkl (by simp only[maxLen];omega)) ?_;refine wk 2 ?_;exact⟨k+1,Drop.mk' Ra (by repeat(first | exact HDrop.none _ _ | exact HDrop.tail _ _ | refine HDrop.put ?_ (by first | rfl | exact absurd (show((f.blockAt (AO p)).fin==2)=true from ‹_›) (by rw[show((f.blockAt (AO p)).fin==2)=false from ‹_›];decide) | exact congrArg (fun es=>some (AObj.row true 5 es)) (BR (f:=Block.cells) (x:=⟨f.joined p,(f.blockAt (AO p)).fin,(f.blockAt (AO p)).v,(f.blockAt (AO p)).to,(f.blockAt (AO p)).els⟩) (by simp:(f.tpaths.map f.newBlock).length=f.tpaths.length) (by rw[hnb];simp[BFunc.newBlock, *])) | exact congrArg (fun es=>some (AObj.row true 5 es)) (BR (f:=Block.cells) (x:=⟨f.joined p,(f.blockAt (AO p)).fin,(f.blockAt (AO p)).v,(f.blockAt (AO p)).to,(iget f.nums (f.blockAt (AO p)).els)⟩) (by simp:(f.tpaths.map f.newBlock).length=f.tpaths.length) (by rw[hnb];simp[BFunc.newBlock, *])) | exact congrArg (fun es=>some (AObj.row true 5 es)) (BR (f:=Block.cells) (x:=⟨f.joined p,(f.blockAt (AO p)).fin,(f.blockAt (AO p)).v,(iget f.nums (f.blockAt (AO p)).to),(f.blockAt (AO p)).els⟩) (by simp:(f.tpaths.map f.newBlock).length=f.tpaths.length) (by rw[hnb];simp[BFunc.newBlock, *])) | exact congrArg (fun es=>some (AObj.row true 5 es)) (BR (f:=Block.cells) (x:=⟨f.joined p,(f.blockAt (AO p)).fin,(f.blockAt (AO p)).v,(iget f.nums (f.blockAt (AO p)).to),(iget f.nums (f.blockAt (AO p)).els)⟩) (by simp:(f.tpaths.map f.newBlock).length=f.tpaths.length) (by rw[hnb];simp[BFunc.newBlock, *]))) rfl rfl)),hkl,by omega⟩):p:=h
theorem rh{p:Prop}(h:p:=by
 refine aq 65 (AU (r:=.int .i64 ((((Hg f v i).length-(m+1):Nat):Int)-1)) rfl rfl rfl (ja hkk (by have:=MO hx (v:=v);have:=hi x hxm;omega))) ?_;refine wk 2 ?_;exact⟨m+1,DropK.mk' m9 (Bl (k0:=9) rfl tL nj (Bc (As _) f R _ _)),⟨by omega,by rw[hnx2];exact hF.2⟩,(by omega)⟩):p:=h
theorem mX{p:Prop}(h:p:=by
 refine aq 18 (Bj rfl rfl hkl (show 32<=maxLen by decide)) ?_;refine wk 2 ?_;exact⟨k+1,Sub.mk' Cf (by repeat(first | exact HSub.refl _ | exact HSub.none _ | exact AG _ | exact AE GK | refine HSub.put ?_ (by first | rfl | exact congrArg (fun es=>some (AObj.row true 1 es)) (Z3 (c:=[]) hkl ng) | exact congrArg (fun es=>some (AObj.row true 1 es)) (Z2 hkl ng)) | refine AF ?_ GK | refine Bq ?_ (by decide))),hkl,by omega⟩):p:=h
theorem re{p:Prop}(h:p:=by
 refine wk 5 ?_;refine aq 76 (At Ag rfl rfl rfl (.ptr _ _ _ _ false 2 (Cp R S v i++[JA R v i (S i v)]) (JA R v i (S i v)) ((Ao _ _ _).trans (congrArg some (FD))) MD Pt) rfl) ?_;refine wk 2 ?_;refine ax 79 (Cn Ag rfl rfl rfl rfl rfl rfl (by decide) rfl rfl rfl rfl rfl rfl) ?_;refine ax 80 (o_append1J Ag (b:=(4*(v+R*i)+3+16)) (es:=(S i v).map G1) rfl rfl rfl rfl rfl rfl rfl rfl ((Ao _ _ _).trans (congrArg some (PX hv))) rfl rfl (Nat.zero_lt_succ _) (kE _) (Gq fun _=>rfl) rfl rfl (by rw[List.length_map];show(_+1)*16<=_;omega) (by rw[List.length_map];simp only[maxLen];omega)) ?_;refine wk 2 ?_;refine AOps.w rfl rfl (o_store1 Ag (p:=false) (sz:=2) (es:=(Cp R S v i++[JA R v i (S i v)])) (cs:=JA R v i (S i v)) rfl rfl rfl rfl rfl rfl (by(try simp only[hputs]);(try dsimp only);(repeat(first | refine Az (by exact Af (by omega)) ?_ | refine hrm_skip (by omega) ?_));exact(Ao _ _ _).trans (congrArg some (FD))) MD Pt (Ds _ _) (by decide) (Dt _ _) (by intro h;cases h)) ?_
 refine an ?_;exact⟨(),Sub.mk' Cf (M7 rfl rfl rfl SQ (fun x_=>by(try simp only[hputs]);rw[hnl];refine(DG (F:=F4 r0 r1 (PY n R S v i (S i v)) (YR R S v i (S i v++[⟨p,false,false⟩]))) (fun y_=>?_) _ _ x_).trans (congrArg some ?_);exact(DG (F:=F4 r0 r1 (PY n R S v i (S i v)) (MG R S)) (fun z_=>Ao _ _ _) _ _ y_).trans (congrArg some (bL (l:=S i v) (s:=⟨p,false,false⟩) y_).symm);exact(bP (l:=S i v) (dM (s:=⟨p,false,false⟩)) x_).symm) fE),trivial⟩):p:=h
theorem rd{p:Prop}(h:p:=by
 intro _ _;refine wk 5 ?_;refine dq 86 (At Ag rfl rfl rfl (.ptr _ _ _ _ false 2 (Cp R S v i++[JA R v i (A6 (S i v) p)]) (JA R v i (A6 (S i v) p)) ((Ao _ _ _).trans (congrArg some (FD))) MD Pt) rfl) ?_;refine wk 3 ?_;refine dq 90 (At Ag rfl rfl rfl (.ptr _ _ _ _ false 2 (Cp R S v i++[JA R v i (A6 (S i v) p)]) (JA R v i (A6 (S i v) p)) ((Ao _ _ _).trans (congrArg some (FD))) MD Pt) rfl) ?_;refine dq 91 (FE Ag rfl rfl rfl rfl) ?_;refine dq 92 (AU (r:=.int .i64 (((A6 (S i v) p).length-1:Nat):Int)) rfl rfl rfl (by rw[List.length_map];exact PO (Cv _ _) (by have:=Y7 (S i v) p;omega))) ?_;refine dq 93 (IA Ag (b:=(4*(v+R*i)+3+16)) (es:=(A6 (S i v) p).map G1) rfl rfl rfl rfl rfl rfl ((Ao _ _ _).trans (congrArg some (kU))) rfl (Int.natCast_nonneg _) (by rw[List.length_map];have:=Cv (S i v) p;omega)) ?_;refine wk 3 ?_;refine⟨[_],⟨rfl,trivial⟩,?_,?_⟩
 . show AV.ptr _ _ _ _=AV.ptr _ _ _ _;rw[List.length_map,Int.toNat_natCast]
 . rw[<-jd hi0 hlast (Cv _ _),<-bR hv hi0 hlast (Cv _ _),<-RF hv];exact L1 rfl SQ (fun x_=>by dsimp only;exact Ao _ _ _)):p:=h
theorem ra{p:Prop}(h:p:=by
 refine wk 2 ?_;refine aq 101 (Bj rfl rfl hkl (by simp only[maxLen];omega)) ?_;refine wk 2 ?_;exact⟨k+1,Drop.mk' Ra (by repeat(first | exact HDrop.none _ _ | exact HDrop.tail _ _ | refine HDrop.put ?_ (by first | rfl | exact congrArg (fun es=>some (AObj.row true 1 es)) (BR (f:=Sd) (x:= -1) (AP f reach) (by rw[htk,hno])) | exact congrArg (fun w=>some (AObj.row true 1 (List.map A5 w))) (bi hx hno) | exact congrArg (fun es=>some (AObj.row true 1 es)) (by rw[List.set_set];exact BR (f:=Sd) (x:=x.to) (AP f reach) (by rw[htk,hyes])) | exact congrArg (fun es=>some (AObj.row true 1 es)) (Yy hx hyes hto.1)) rfl rfl)),hkl,by omega⟩):p:=h
theorem iW{p:Prop}(h:p:=by
 refine aq 165 (J5 Ag false rfl rfl rfl (by kernel_rfl) rfl rfl rfl rfl rfl) ?_;refine wk 2 ?_;refine FZ ⟨[_],⟨rfl,trivial⟩,?_,rfl⟩;refine bc ?_;have hwr:1<=t.size->t.size<=4096->IntKind.i64.wrap (words-t.size)=words-t.size:=fun h1 h2=>BD (by omega) (by omega)
 rw[Zz hb1 hb2 hd hall (by simp_all[Tac.rest,baseOp,Hw]<;>omega)];subst hdd haa hbb;clear hd hj hall hwr hw hw2 hb1 hb2;first |(simp_all[Tac.same,Tac.want,baseOp,Hw,setsOp,use1,use2];done) | simp[Tac.same,Tac.want,baseOp,Hw, *]):p:=h
theorem jJ{p:Prop}(h:p:=by
 refine wk 2 ?_;exact⟨t.d,Sub.mk' Cf Fz,⟨by have h:= ‹(!AT t.d regs)=false›;simp at h;simp[h],by first |(simp[setsOp, *];done) | simp[Ex ‹_›]⟩⟩):p:=h
theorem q9{p:Prop}(h:p:=by
 intro l
 induction l with
 | nil=>exact fun a1 w1 hp=>hpost _ _ _ hp
 | cons o' l ih=>
  intro a1 w1 hp;unfold wpList at hp |-
  by_cases hw:Region.wanted o' (yielded ops a1.tmps)=true
  . rw[if_pos hw]at hp |-;rcases hp with hp |⟨hp1,a2,w2,hp2⟩
    . refine .inl ?_;have hp':=Oper.wp_mono (fun a2 w2=>ih a2 w2) hp;clear hp;unfold Oper.wp at hp' |-;generalize(execOp a1.eval o').run P w1=res at hp' |-
      cases res with
      | ok n w3=>
       cases n<;>simp only[Oper.upon]at hp' |- <;>first
        | exact hp'
        | exact Calls.mono hp' jU
      | halt x w3=>cases x<;>simp only[Oper.upon]at hp' |- <;>first | exact hpost _ _ _ hp' | exact hp'
    . exact .inr ⟨hp1,a2,w2,hpost _ _ _ hp2⟩
  . rw[if_neg hw]at hp |-;exact ih _ _ hp):p:=h
theorem tG{p:Prop}(h:p:=by
 have hoR:oR n R S v=Ed (4*v+2+16) (Cp R S v i):=by unfold oR;rw[XG hi0 hlast hS0]
 rw[hoR];refine wk 5 ?_;refine ax 35 (Cn Ag rfl rfl rfl rfl rfl rfl (by decide) rfl rfl rfl rfl rfl rfl) ?_;refine ax 36 (J7 Ag (b:=(4*v+2+16)) (es:=Cp R S v i) (x0:=[.int .i64 (i:Int),.nil]) rfl rfl rfl rfl rfl rfl rfl rfl ((Ao _ _ _).trans (congrArg some ((VB hv).trans (by rw[XG hi0 hlast hS0])))) rfl rfl (Nat.zero_lt_succ _) (.lst _ _) rfl (by rw[Es];show _*32<=_;omega) (by rw[Es];simp only[maxLen];omega)) ?_;refine wk 2 ?_;refine AGo.ghost (CE (4*v+2+16) (es':=Cp R S v i++[[.int .i64 (i:Int),Ed (4*(v+R*i)+3+16) []]]) BA (by simp) (Yg (show WkAll [AV.int .i64 (i:Int),.nil] _ from⟨Wk.refl _,Wk.nil _,trivial⟩))) ?_;refine wk 7 ?_;refine aq 43 (Ab Ag rfl rfl rfl rfl rfl rfl rfl (An _ _).symm rfl (Int.natCast_nonneg _) (by omega)) ?_;refine AOps.w rfl rfl (o_store1 Ag (p:=false) (sz:=1) (es:=Ax (oR n R S) R) (cs:=[oR n R S v]) rfl rfl rfl rfl rfl rfl BA (An _ _).symm X8 (Ds _ _) (by decide) (Dt _ _) (by intro h;cases h)) ?_
 refine an ?_;exact⟨(),Sub.mk' (by repeat(first | exact ESub.new _ | refine ESub.put ?_ (by first | rfl | exact congrArg some (cH hi0 hlast hS1) |(rw[Hf,Es];rfl)))) (M7 rfl rfl rfl (by repeat(first | exact trivial | refine⟨by first | rfl | exact congrArg (fun es=>some (AObj.row false 1 es)) (lj (Es _ _ _ _)),?_⟩)) (fun x_=>by(try simp only[hputs]);(repeat(first | refine Az (by exact Af (by omega)) ?_ | refine hrm_skip (by omega) ?_));rw[Wa];exact(DG (fun y_=>Ao _ _ _) _ _ x_).trans (congrArg some (gv hS0 x_).symm)) fE),trivial⟩):p:=h
theorem zt10{p:Prop}(h:p:=by
 have hbytes:l.length*P.bytesOf e<=reachBytes:=by
  refine Nat.le_trans (Nat.mul_le_mul_right _ ?_) w1;omega
 refine⟨l,.one ?_ rfl,hbytes,hQ⟩
 by_cases h0:len=0
 . have:l=[]:=List.length_eq_zero_iff.1 (by omega);subst this;subst h0;exact .lst0 _ _ _ _ (fun h=>by cases h) hm (fun h=>by cases h) trivial
 . obtain⟨y0,cs0,k1,k2,k3⟩:=key 0 (by omega);obtain⟨_,m1,m2⟩:=World.cells?_some k1;have hz:cs0[0]?=some cs0[0]:=List.getElem?_eq_getElem (by omega);have hcell:=m2 0 hc;rw[hz]at hcell;have ha0:(a.add (0*P.cellsOf e)).add 0=a:=by simp[Addr.add]
   rw[ha0]at hcell;obtain⟨c,hH,hspot,_⟩:=JP hcell;obtain⟨ab,ao,asp⟩:=a;simp only at hspot hH;subst hspot;have hsz: ∀(i:Nat) (xs:List AV),(l.map f)[i]?=some xs->xs.length=P.cellsOf e/\∀(j:Nat) (x:AV),xs[j]?=some x->∃v,c[ao+i*P.cellsOf e+j]?=some v/\Rel (CP W) AX x v/\x.cell1=true:=fun i xs hi=>by
    rw[List.getElem?_map,Option.map_eq_some_iff]at hi;obtain⟨y,y1,rfl⟩:=hi;obtain⟨cs',c1,c2,c3⟩:=l2 i y y1;obtain⟨_,n1,n2⟩:=World.cells?_some c1;refine⟨by rw[c2.1,n1],fun j x hj=>?_⟩;have hjlt:j<cs'.length:=by rw[<-c2.1];exact(List.getElem?_eq_some_iff.1 hj).1
    have h3:=n2 j (by omega);rw[List.getElem?_eq_getElem hjlt,EN,EN]at h3;obtain⟨c',e1,_,e3⟩:=JP h3;simp only at e1 e3;rw[hH]at e1;cases e1;obtain⟨g1,g2⟩:=c2.2 j x _ hj (List.getElem?_eq_getElem hjlt);exact⟨_,e3,g1,g2⟩
   have:=Rel.lst (H:=CP W) AX false (l.map f) ab ao cap (P.cellsOf e) c (fun i j=>(c[ao+i*P.cellsOf e+j]?).getD undef) (fun hh=>by rw[List.map_eq_nil_iff]at hh;subst hh;simp at l1;omega) hH
    (fun i xs hi=>(hsz i xs hi).1) (fun i xs j x hi hj=>by obtain⟨v,v1,_⟩:=(hsz i xs hi).2 j x hj;rw[v1];rfl)
    (fun i xs j x hi hj=>by obtain⟨v,v1,v2,_⟩:=(hsz i xs hi).2 j x hj;rw[v1];exact v2) (fun i xs j x hi hj=>by obtain⟨v,v1,v2,v3⟩:=(hsz i xs hi).2 j x hj;exact v3) (fun h=>by cases h) (by simp[l1];exact hl) hm
   rw[List.length_map,l1]at this;exact this):p:=h
theorem m6{p:Prop}(h:p:=by
 intro k hk;refine wk 6 ?_;refine asp 6 (fun hb1=>?_) fun hb1=>?_
 .
  refine act ?_;have hkl:k<32:=by have h:=hb1;simp at h;omega
  have hle:a/2^k<=a:=Nat.div_le_self _ _;refine wk 7 ?_;refine aq 11 (AU (r:=.int .u32 ((a/2^k%2:Nat):Int)) rfl rfl rfl (Fv (a:=a/2^k) (b:=2) (by decide))) ?_;refine aq 12 (Cm Ag rfl rfl rfl rfl rfl (Jc (by omega))) ?_;refine ax 13 (Cn Ag rfl rfl rfl rfl rfl rfl (by decide) rfl rfl rfl rfl rfl rfl) ?_;refine ax 14 (o_append Ag (n:=k) (m:=1) rfl rfl rfl rfl rfl rfl rfl rfl rfl (by simp[BF,Ce]) rfl rfl (Nat.zero_lt_succ _) (.lst _ _) (by intro cs h;simp[partVals]at h;subst h;rfl) (fun _ cs h=>by simp[partVals]at h;subst h;rfl) rfl (by simp[BF,Ce,partVals];show _*8<=_;omega) (by simp[BF,Ce,partVals];simp only[maxLen];omega)) ?_;refine wk 4 ?_;refine aq 16 (AU (r:=.int .u32 ((a/2^k/2:Nat):Int)) rfl rfl rfl (K4 (a:=a/2^k) (b:=2) (by decide) (Dq (by omega)))) ?_;refine wk 4 ?_;refine aq 8 (Bj rfl rfl hkl (show 32<=maxLen by decide)) ?_
  refine wk 2 ?_;exact⟨k+1,Sub.mk' (by repeat(first | exact ESub.new _ | refine ESub.put ?_ (by first | rfl | exact congrArg (fun(n:Nat)=>some (AV.int .u32 (n:Int))) (by rw[Nat.div_div_eq_div_mul,Nat.pow_succ])))) (by repeat(first | exact HSub.refl _ | exact HSub.none _ | exact AG _ | exact AE GK | refine HSub.put ?_ (by first | rfl | exact congrArg (fun es=>some (AObj.row true 1 es)) (UM a k)) | refine AF ?_ GK | refine Bq ?_ (by decide))),hkl,by omega⟩
 refine acf ?_;have hge: ¬k<32:=by have h:=hb1;simp at h;omega
 refine wk 2 ?_;obtain rfl:k=32:=by omega
 refine wk 5 ?_;refine⟨[_],⟨rfl,trivial⟩,rfl,HSub.put (HSub.none _) rfl⟩):p:=h
theorem SP{p:Prop}(h:p:=by
 refine FZ ⟨[_],⟨rfl,trivial⟩,?_,rfl⟩;refine bc ?_;have hwr:1<=t.size->t.size<=4096->IntKind.i64.wrap (words-t.size)=words-t.size:=fun h1 h2=>BD (by omega) (by omega)
 exact(QS (by simp_all[Tac.rest,baseOp,Hw]<;>omega)).symm):p:=h
theorem m5{p:Prop}(h:p:=by
 refine aq 74 (Bj rfl rfl hkl jV) ?_;refine wk 2 ?_;exact⟨(q.1+1,q.2),DropK.mk' tJ (Bl (k0:=9) rfl tO GY (Bc (As _) f R _ _)),⟨hkl,by rw[<-Np hgi (by omega)];exact hq.2⟩,(by show(Fy f v).length-(q.1+1)<(Fy f v).length-q.1;omega)⟩):p:=h
theorem jS{p:Prop}(h:p:=by
 refine aq 60 (Bj rfl rfl hkl (by simp only[maxLen];omega)) ?_;refine wk 2 ?_;exact⟨k+1,Drop.mk' (by repeat(first | exact EDrop.new _ _ | refine EDrop.put ?_ (by first | rfl | exact congrArg (fun n=>some (AV.ref 4 n 0 n)) (by rw[DN hhead];simp) | exact congrArg (fun n=>some (AV.ref 4 n 0 n)) (by rw[EZ hhead])) rfl)) (by repeat(first | exact HDrop.none _ _ | exact HDrop.tail _ _ | refine HDrop.put ?_ (by first | rfl | exact congrArg (fun es=>some (AObj.row true 1 es)) (by rw[N8 hhead];exact QF _ _ _) | exact congrArg (fun es=>some (AObj.row true 1 es)) (by rw[DN hhead,List.map_append];rfl) | exact congrArg (fun es=>some (AObj.row true 1 es)) (by rw[Qd hhead]) | exact congrArg (fun es=>some (AObj.row true 1 es)) (by rw[EZ hhead])) rfl rfl)),hkl,by omega⟩):p:=h
theorem m4{p:Prop}(h:p:=by
 refine aq 38 (Bj rfl rfl hkl (show f.blocks.length<=maxLen by simp only[maxLen];omega)) ?_;refine wk 2 ?_;exact⟨k+1,Drop.mk' Ra (by repeat(first | exact HDrop.none _ _ | exact HDrop.tail _ _ | refine HDrop.put ?_ (by first | rfl | exact congrArg (fun es=>some (AObj.row true 1 es)) (BR (f:=pathCell) (x:=[x.to]) (AJ f) (by rw[hnx];simp[Block.nexts, *])) | exact congrArg (fun es=>some (AObj.row true 1 es)) (BR (f:=pathCell) (x:=[x.to,x.els]) (AJ f) (by rw[hnx];simp[Block.nexts, *])) | exact congrArg (fun es=>some (AObj.row true 1 es)) (ZA (f:=pathCell) (x:=[]) (AJ f) (by rw[hnx];simp[Block.nexts, *]) rfl)) rfl rfl)),hkl,by omega⟩):p:=h
theorem Va{p:Prop}(h:p:=by
 exact HSub.put (HSub.put (HSub.put (HSub.put (HSub.none _) rfl) rfl) rfl) jW):p:=h
theorem m3{p:Prop}(h:p:=by
 have hb:=ht.b (by simp[use2,ho7]);refine wk 10 ?_;refine dq 132 (Ab Ag rfl rfl rfl rfl rfl rfl rfl (by rw[Ap,hlen]) rfl ha.1 (by have:=ha.2;omega)) ?_;refine dq 133 (At Ag rfl rfl rfl (.ptr _ _ _ _ _ _ _ _ rfl (by rw[Ap,hlen]) (D9 (by have:=ha;omega))) rfl) ?_;refine dq 134 (Fp Ag rfl rfl rfl rfl rfl (r:=rget regs t.a) (by exact BD (by omega) (by omega))) ?_;refine dq 135 (AU (r:=.int .i64 (t.base+rget regs t.a)) rfl rfl rfl (by simp only[AI,Bm,isShift,cond_false,if_true];rw[BD (by omega) (by omega)])) ?_;refine wk 3 ?_;refine dq 139 (Ab Ag rfl rfl rfl rfl rfl rfl rfl (by rw[Ap,hlen]) rfl hb.1 (by have:=hb.2;omega)) ?_;refine dq 140 (At Ag rfl rfl rfl (.ptr _ _ _ _ _ _ _ _ rfl (by rw[Ap,hlen]) (D9 (by have:=hb;omega))) rfl) ?_;refine dq 141 (Ab Ag rfl rfl rfl rfl rfl rfl rfl (by rw[Ap,hm.len]) rfl hidx.1 (by have:=hidx.2;omega)) ?_;refine DOps.w rfl rfl (o_store Ag rfl rfl rfl rfl rfl rfl (by rw[Ap,hm.len]) (D9 (by have:=hidx;have:=hm.len;omega)) rfl (by decide) rfl Dy) ?_
 refine wk 1 ?_;refine⟨[],trivial,rfl,?_⟩;rw[qE ho7 hsz];exact HSub.put (HSub.put (HSub.put (HSub.put (HSub.none _) rfl) jW) rfl) rfl):p:=h
theorem mZ{p:Prop}(h:p:=by
 have hfit:Builtin.nextslicecap (0+es2.length) 0*infou.bytes<=281474976710656:=growslice_fits (by omega) (by rw[f5,Nat.zero_add];exact hby);have hrun:=run_append_grow_src (P:=P) w t t' o.type u infou z e2 f1 hz1 base 0 0 [] hold vb es2.length news hsrcw (by omega) h63 hfit;have hge:=grownCap_ge w (0+es2.length) 0 u;have hcm:grownCap w (0+es2.length) 0 u<=maxLen:=grownCap_le_maxLen w _ 0 u (by omega);generalize hcc:grownCap w (0+es2.length) 0 u=nc at*;generalize hC:(([]:List Value)++news).toArray++Builtin.zeroCells z.cells (nc-(0+es2.length))=C at*;have hCs:C.size=nc*j.size:=by
  rw[<-hC,Array.size_append,size_zeroCells,hzl];simp only[List.size_toArray,List.nil_append,hnl,<-Nat.add_mul];congr 1;omega
 have hCg: ∀k,k<news.length->C[k]?=news[k]?:=fun k hk=>by
  rw[<-hC,Array.getElem?_append_left (by simp;omega)]
  simp
 refine⟨_,C,u,w.drew,rfl,rfl,rfl,?_,⟨fun i cs h=>hu2 cs (List.mem_of_getElem? h),fun i cs k y h1 h2=>?_⟩,hexec _ _ (hv▸hrun),?_⟩
 . rw[hCs];exact Nat.mul_le_mul_right _ (by omega)
 . obtain⟨v,k1,k2,k3⟩:=hnews i cs k y h1 h2;exact⟨v,by rw[hCg _ (List.getElem?_eq_some_iff.1 k1).1];exact k1,k2,k3⟩
 . have:=Rel.refL (H:=H) (DB ι b ⟨w.heap.size,j.size,es2.length,C.size⟩) b es2.length 0 es2.length nc _ (Bg _ _ _) rfl (by omega) (by omega) (by simp[hCs]) hcm;simpa using this):p:=h
theorem mY{p:Prop}(h:p:=by
 refine aq 26 (Bj rfl rfl hjl (by simp only[maxLen];omega)) ?_;refine wk 2 ?_;exact⟨j+1,DropK.mk' (by repeat(first | exact EDropK.new _ _ | refine EDropK.put ?_ (by first | rfl | exact congrArg (fun m=>some (AV.ref 9 m 0 m)) (congrArg List.length (T5 ht hg).symm) | exact congrArg (fun m=>some (AV.ref 9 m 0 m)) ((List.length_map (f:=Tac.cells)).symm.trans ((congrArg List.length (T4 ht hg).symm).trans (by simp))).symm | exact congrArg (fun(n:Nat)=>some (AV.int .i64 (n:Int))) (by simp)) (by first | rfl))) (Bl (k0:=13) rfl (by repeat(first | exact trivial | refine⟨⟨by first | rfl | exact congrArg (fun es=>some (AObj.row true 8 es)) (T4 ht hg) | exact congrArg (fun l=>some (AObj.row true 8 (l.map Tac.cells))) (T5 ht hg).symm |((try simp only[hputs]);repeat(first | rfl | exact Aq _ _ _ | refine Az (by exact Af (by omega)) ?_ | refine hrm_skip (by omega) ?_ | refine(CD _ Ps).trans ?_)),by first | rfl | exact Ad (fun _ _=>Bd (As _) _ _) | exact Ad (fun _ _=>A4 (As _) _ _ _ _) | exact Ad (fun _ _=>BX (As _) _ _)⟩,?_⟩)) FO (Bc (As _) f R _ _)),hjl,by omega⟩):p:=h
theorem zt20{p:Prop}(h:p:=by
 refine wk 2 ?_;refine aq 120 (Bj rfl rfl hjl (by have:=Ki f b;simp only[maxLen];omega)) ?_;refine wk 2 ?_;exact⟨⟨p.inn,p.todo,p.es,p.j+1⟩,DropK.mk' ni (Bl (k0:=9) rfl tM FO (Bc (As _) f R _ _)),(hP.skip ha hno),(by show(Aw f b).length-(p.j+1)<(Aw f b).length-p.j;omega)⟩):p:=h
theorem jR{p:Prop}(h:p:=by
 have hft:(k.fin==3)=false:=by simp_all
 have hnx:=hF.next hk hI hge hst hft (ZD hks.1 hft r.regs);exact⟨⟨k.next r.regs,r.regs,(AK fuel r.m).2,q.g-1⟩,Drop.mk' (by repeat(first | exact EDrop.new _ _ | refine EDrop.put ?_ (by first | rfl | exact congrArg (fun(n:Int)=>some (AV.int .i64 n)) (by simp[Block.next, *])) (by first | rfl | exact B9 _ rfl | exact Hc _ rfl))) Re,hnx.1,hnx.2⟩):p:=h
theorem U9{p:Prop}(h:p:=by
 refine wk 5 ?_;refine FZ ⟨[_],⟨rfl,trivial⟩,?_,rfl⟩;refine bc ?_;exact(lF (by first |(simp[setsOp, *];done) | exact Ex ‹_›) (by simpa using ‹(!AT t.d regs)=true›)).symm):p:=h
theorem mW{p:Prop}(h:p:=by
 have hnb:notBeen s.been b=false:=by
  rw[Bool.eq_false_iff];intro h;obtain⟨h1,h2,h3⟩:=CN h;first |(simp_all[A2];done) |(simp_all[A2];omega)
 refine fH ?_;refine⟨[],trivial,rfl,?_⟩;rw[show BL b s=_ from dinto_eq hnb,show Sc b s es=_ from dB hnb];exact HSub.put (HSub.put (HSub.put (HSub.put (HSub.put (HSub.none _) (by first | rfl | exact congrArg (fun es=>some (AObj.row true 1 es)) (UN _ _ _))) rfl) rfl) (by first | rfl | exact congrArg (fun m=>some (AObj.row false 1 [[AV.ref 4 _ 0 m]])) (by simp))) (by rfl)):p:=h
theorem mV{p:Prop}(h:p:=by
 have hd:=ht.d (by simp[setsOp,ho6]);refine wk 13 ?_;refine dq 116 (Ab Ag rfl rfl rfl rfl rfl rfl rfl (by rw[Ap,hlen]) rfl ha.1 (by have:=ha.2;omega)) ?_;refine dq 117 (At Ag rfl rfl rfl (.ptr _ _ _ _ _ _ _ _ rfl (by rw[Ap,hlen]) (D9 (by have:=ha;omega))) rfl) ?_;refine dq 118 (Fp Ag rfl rfl rfl rfl rfl (r:=rget regs t.a) (by exact BD (by omega) (by omega))) ?_;refine dq 119 (AU (r:=.int .i64 (t.base+rget regs t.a)) rfl rfl rfl (by simp only[AI,Bm,isShift,cond_false,if_true];rw[BD (by omega) (by omega)])) ?_;refine dq 120 (Ab Ag rfl rfl rfl rfl rfl rfl rfl (by rw[Ap,hm.len]) rfl hidx.1 (by have:=hidx.2;omega)) ?_;refine dq 121 (At Ag rfl rfl rfl (.ptr _ _ _ _ _ _ _ _ rfl (by rw[Ap,hm.len]) (D9 (by have:=hidx;have:=hm.len;omega))) rfl) ?_;refine dq 122 (Ab Ag rfl rfl rfl rfl rfl rfl rfl (by rw[Ap,hlen]) rfl hd.1 (by have:=hd.2;omega)) ?_;refine DOps.w rfl rfl (o_store Ag rfl rfl rfl rfl rfl rfl (by rw[Ap,hlen]) (D9 (by have:=hd;omega)) rfl (by decide) rfl Dy) ?_
 refine wk 1 ?_;refine⟨[],trivial,rfl,?_⟩;rw[qF ho6 hsz];exact Va):p:=h
theorem jQ{p:Prop}(h:p:=by
 refine aq 49 (Bj rfl rfl hkl (show l.length<=maxLen by simp only[maxLen];omega)) ?_;refine wk 2 ?_;exact⟨k+1,Drop.mk' (by repeat(first | exact EDrop.new _ _ | refine EDrop.put ?_ (by first | rfl) rfl)) (by repeat(first | exact HDrop.none _ _ | exact HDrop.tail _ _ | refine HDrop.put ?_ (by first | rfl | exact congrArg (fun es=>some (AObj.row true 8 es)) (by subst hu;exact BR (f:=Tac.cells) (BO l []) (IQ l [] hx)) | exact congrArg (fun m=>some (AObj.map (kvs .i64 (nm m)))) (by rw[Wf hx,<-hu];clear hu;simp[Ho, *])) rfl rfl)),hkl,by omega⟩):p:=h
theorem Kj{p:Prop}(h:p:=by
 refine⟨[_,_],⟨rfl,rfl,trivial⟩,?_,rfl⟩;show AV.tup _=AV.tup _;simp[B3, *]):p:=h
theorem fP{p:Prop}(h:p:=by
 exact⟨[],trivial,rfl,(L1 rfl SQ GY)⟩):p:=h
theorem jP{p:Prop}(h:p:=by
 refine AOps.k 79 rfl rfl rfl ?_;refine AOps.k 80 rfl rfl rfl ?_;refine AOps.k 81 rfl rfl rfl ?_;refine AOps.k 82 rfl rfl rfl ?_;refine wk 2 ?_;refine AOps.k 85 rfl rfl rfl ?_;refine AOps.k 86 rfl rfl rfl ?_;refine AOps.k 87 rfl rfl rfl ?_;refine AOps.k 88 rfl rfl rfl ?_;refine AOps.k 89 rfl rfl rfl ?_;refine AOps.k 90 rfl rfl rfl ?_;refine wk 3 ?_;have hno:takeOf f.nexts reach k x= -1:=takeOf_no hrk (by simp_all);exact ra):p:=h
theorem mU{p:Prop}(h:p:=by
 refine aq 57 (Bj rfl rfl hjl (by simp only[maxLen];have:=F0 x;omega)) ?_;refine wk 2 ?_;exact⟨j+1,DropK.mk' (by repeat(first | exact EDropK.new _ _ | refine EDropK.put ?_ (by first | rfl | exact congrArg (fun z=>some (AV.bool z)) (by rw[anyK_succ hd];first |(rw[hz9];rfl) |(rw[‹UO inn x j=true›];rfl) |(rw[‹UO inn x j=false›];rfl)) | exact congrArg (fun(n:Nat)=>some (AV.int .i64 (n:Int))) (by simp)) (by first | rfl | exact A4 (As _) _ _ _ _))) (Bl (k0:=9) rfl j5 FO (Bc (As _) f R _ _)),trivial,(by omega)⟩):p:=h
theorem jO{p:Prop}(h:p:=by
 refine act ?_;have hels:=Zh hle hbx (by simp_all);refine wk 4 ?_;refine aq 108 (Ab Ag rfl rfl rfl rfl rfl rfl rfl X7 rfl hels.1 (by omega)) ?_;refine aq 109 (At Ag rfl rfl rfl (.ptr _ _ _ _ _ _ _ _ rfl X7 (OB (by rw[show f.nums.length=f.blocks.length from BV f _];exact hels))) rfl) ?_;refine wk 8 ?_;exact rf):p:=h
theorem mS{p:Prop}(h:p:=by
 have key: ∀b o,hres s.h L b=some o->o.alive=true->b∈L/\s.h b=some o:=fun b o h1 h2=>by
  unfold hres at h1
  cases e:mem L b with
  | true=>rw[e]at h1;exact⟨mem_iff.1 e,h1⟩
  | false=>rw[e]at h1;cases h1;cases h2
 refine⟨hs.heap.know,fun b hb=>?_,fun b o h1 h2=>?_,fun b b' o o' r r' h1 h2 h3 h4 h5 h6=>?_,hs.heap.glob⟩
 . unfold hres at hb;unfold lcut
   cases e:mem L b with
   | true=>rw[e]at hb;exact hs.heap.free b hb
   | false=>rfl
 . obtain⟨k1,k2⟩:=key b o h1 h2;obtain⟨r,r1,r2,r3⟩:=hs.heap.obj b o k2 h2;obtain⟨q,q1,q2⟩:=hLs b k1;rw[k2]at q1;cases q1;exact⟨r,by rw[CX (mem_iff.2 k1)];exact r1,Hl r2 q2,r3⟩
 . exact hs.heap.inj b b' o o' r r' (key b o h1 h2).2 h2 (key b' o' h3 h4).2 h4 (Bp h5) (Bp h6)):p:=h
theorem mR{p:Prop}(h:p:=by
 have key: ∀b o,Eg h κ b=some o->o.alive=true->κ b=true/\h b=some o:=fun b o h1 h2=>by
  unfold Eg at h1
  cases e:κ b with
  | true=>rw[e]at h1;exact⟨rfl,h1⟩
  | false=>rw[e]at h1;cases h1;cases h2
 refine⟨hs.heap.know,fun b hb=>?_,fun b o h1 h2=>?_,fun b b' o o' r r' h1 h2 h3 h4 h5 h6=>?_,hs.heap.glob⟩
 . unfold Eg at hb;unfold lcut
   cases e:κ b with
   | true=>rw[e]at hb;exact hs.heap.free b hb
   | false=>rfl
 . obtain⟨k1,k2⟩:=key b o h1 h2;obtain⟨r,r1,r2,r3⟩:=hs.heap.obj b o k2 h2;obtain⟨q,q1,q2⟩:=hL b k1;rw[k2]at q1;cases q1;exact⟨r,by rw[CX k1];exact r1,Hl r2 q2,r3⟩
 . exact hs.heap.inj b b' o o' r r' (key b o h1 h2).2 h2 (key b' o' h3 h4).2 h4 (Bp h5) (Bp h6)):p:=h
theorem mQ{p:Prop}(h:p:=by
 unfold Oper.wp;rw[hexec];refine hcalls.mono fun en w' hh=>?_
 obtain⟨v,r',h',H',ι',rfl,⟨rfl,hsub⟩,k1,k2,k3⟩:=hh;have hk': ∀b∈L,∃q,h' b=some q/\hputs s.h W b=some q/\q.avoid (mem L)=true:=fun b hb=>by
  obtain⟨q,q1,q2,q3⟩:=hk.get b hb;exact⟨q,hsub b q q1,by rw[Uk (g2 b hb)];exact q2,q3⟩
 obtain⟨u1,u2⟩:=eR hs.heap hLs (fun p hp=>mem_iff.1 (List.all_eq_true.1 hW p hp)) hk' k2 (hres2.symm▸k3);refine⟨v,H',_,rfl,fun x ex=>?_,u1,u2⟩
 cases ex
 refine(D7 k1 hra).mono (KLe.refl _) fun b r e=>?_
 by_cases hb:b∈L
 . exact⟨r,by simp only[R1,mem_iff.2 hb,cond_true];exact Bp e,.inl rfl⟩
 . have:mem L b=false:=by cases e:mem L b with | false=>rfl | true=>exact absurd (mem_iff.1 e) hb
   simp only[lcut,this,cond_false]at e;cases e):p:=h
theorem aC{p:Prop}(h:p:=by
 refine⟨[_,_],⟨rfl,rfl,trivial⟩,?_,HSub.put (HSub.none _) rfl⟩;show AV.tup _=AV.tup _;first |(simp[DD, *];done) |(cases h1:(pget t.a K).isSome<;>cases h2:(pget t.b K).isSome<;>simp_all[DD])):p:=h
theorem fO{p:Prop}(h:p:=by
 have key: ∀c,b=c->Aa e d (.bool c)=e:=fun c hc=>by
  subst hc;funext t
  by_cases ht:t=d
  . subst ht;rw[Cx,he]
  . rw[D5 _ _ ht]
 cases b with
 | true=>have:=h1 rfl;rwa[key true rfl]at this
 | false=>have:=h2 rfl;rwa[key false rfl]at this):p:=h
theorem jN{p:Prop}(h:p:=by
 refine aq 47 (Ab Ag rfl rfl rfl rfl rfl rfl rfl (by simp[BF,DT (Nat.le_of_lt hkl)]) rfl (Int.natCast_nonneg _) (by omega)) ?_;refine AOps.w rfl rfl (o_store Ag rfl rfl rfl rfl rfl rfl (by simp[BF,DT (Nat.le_of_lt hkl)]) (KV (FU (Og hkl))) rfl (by decide) rfl Dy) ?_;refine wk 3 ?_;exact mX):p:=h
theorem X5{p:Prop}(h:p:=by
 exact⟨(),Sub.mk' (by repeat(first | exact ESub.new _ | refine ESub.put ?_ (by first | rfl | exact congrArg (fun x=>some (AV.bool x)) hu.symm))) (HSub.refl _),trivial⟩):p:=h
theorem mP{p:Prop}(h:p:=by
 refine wk 3 ?_;refine⟨[_],⟨rfl,trivial⟩,?_,(L1 rfl (by repeat(first | exact trivial | refine⟨by first | rfl | exact Aq _ _ _ |((try simp only[hputs]);repeat(first | rfl | exact Aq _ _ _ | refine Az (by exact Af (by omega)) ?_ | refine hrm_skip (by omega) ?_ | refine(CD _ Ps).trans ?_)),?_⟩)) GY)⟩;refine bc ?_;unfold leftS;first | exact g8 hne | exact left_yes (by have h:=hb1;simp at h;omega)):p:=h
theorem fN{p:Prop}(h:p:=by
 refine FZ ⟨[_],⟨rfl,trivial⟩,?_,rfl⟩;show AV.lst false _=_;simp[Tac.uses,use1,use2,A0,partVals,AV.cells, *]):p:=h
theorem mO{p:Prop}(h:p:=by
 first
 | have hnx2:=hF.next (s':=BL (((Br next b)[i.toNat]?).getD 0) (DS.mk q.s.been (q.s.way.dropLast++[(b,i+1)]))) (es':=Sc (((Br next b)[i.toNat]?).getD 0) (DS.mk q.s.been (q.s.way.dropLast++[(b,i+1)])) (q.es.set (q.s.way.length-1) (Dl (b,i+1)))) hp (d9 hp (by rw[hrl];simpa using hil)) (hF.way.seen hp).into
 | have hnx2:=hF.next (s':=⟨q.s.been,q.s.way.dropLast⟩) (es':=q.es) hp (ZF hp (by rw[hrl];simpa using hil)) (hF.way.pop hp)
 exact⟨⟨_,_,q.g-1⟩,Drop.mk' Ra (by repeat(first | exact HDrop.none _ _ | exact HDrop.tail _ _ | refine HDrop.put ?_ (by rfl) rfl rfl)),hnx2.1,hnx2.2⟩):p:=h
theorem X4{p:Prop}(h:p:=by
 simp only[execOp,ho,resolve,invoke,builtin,Sem.run_bind,Sem.run_pure,Result.andThen_ok,List.map_toArray,List.map_cons,List.map_nil,hva,hvb,hrun]):p:=h
theorem Pr{p:Prop}(h:p:=by
 refine FZ ⟨[_],⟨rfl,trivial⟩,?_,rfl⟩;refine bc ?_;simp_all[Block.ends]):p:=h
theorem U8{p:Prop}(h:p:=by
 refine FZ ⟨[_],⟨rfl,trivial⟩,?_,rfl⟩;show AV.int .i64 _=AV.int .i64 _;congr 1;simp[Vx,use1,use2, *]):p:=h
theorem U7{p:Prop}(h:p:=by
 refine FZ ⟨[_],⟨rfl,trivial⟩,?_,rfl⟩;show AV.int .i64 _=AV.int .i64 _;congr 1;simp[Tac.sets,setsOp, *]):p:=h
theorem mN{p:Prop}(h:p:=by
 unfold Oper.wp;rw[hexec];refine hcalls.mono fun en w' hh=>?_
 obtain⟨v,r',h',H',ι',rfl,⟨rfl,hsub⟩,k1,k2,k3⟩:=hh;have hk': ∀b,κ b=true->∃q,h' b=some q/\hn b=some q/\q.avoid κ=true:=fun b hb=>by
  obtain⟨q,q1,q2,q3⟩:=hk b hb;exact⟨q,hsub b q q1,q2,q3⟩
 obtain⟨u1,u2⟩:=ZU hs.heap hL hW hk' k2 (hres'.symm▸k3);refine⟨v,H',_,rfl,?_,u1,u2⟩;refine(D7 k1 hra).mono (KLe.refl _) fun b r e=>?_
 cases hb:κ b with
 | true=>exact⟨r,by simp only[KN,hb,cond_true];exact Bp e,.inl rfl⟩
 | false=>simp only[lcut,hb,cond_false]at e;cases e):p:=h
theorem mM{p:Prop}(h:p:=by
 refine wk 4 ?_;refine aq 17 (AU (r:=.int .u32 ((k+1:Nat):Int)) rfl rfl rfl (Hq (b:=1) (Dq (by omega)))) ?_;refine wk 2 ?_;exact⟨k+1,Sub.mk' (by repeat(first | exact ESub.new _ | refine ESub.put ?_ (by first | rfl | exact congrArg (fun(n:Nat)=>some (AV.int .u64 (n:Int))) (by simp only[shN, *,cond_true,cond_false])))) Fz,hkl,by omega⟩):p:=h
theorem X0{p:Prop}(h:p:=by
 refine FZ ⟨[_],⟨rfl,trivial⟩,?_,rfl⟩;refine bc ?_;unfold Tac.pure
 first
 |(simp_all;done)
 |(simp_all[bne];done)):p:=h
theorem mL{p:Prop}(h:p:=by
 have alive': ∀r0,ι b'=some r0->r0.solid->r0.rb=r'.rb->False:=fun r0 e0 es e1=>by
  obtain⟨o0,k1,_⟩:=hL b' hb';have ka:o0.alive=true:=by
   cases o0 with
   | free=>rw[hr.free b' k1]at e0;cases e0
   | _=>rfl
  exact hr.inj b b' o o0 r r0 h1 h2 k1 ka h3 e0 h4 es (fun e=>hb (e▸hb')) (e.trans e1.symm)
 rcases hst.newrb b' r' g1 g2 with k | k |⟨r0,k1,k2,k3⟩
 . exact alive' r' (Bp k) g2 rfl
 . have:=hr.lt ⟨b,o,r,h1,h2,h3,h4,rfl⟩;omega
 . exact alive' r0 (Bp k1) k2 k3):p:=h
theorem mK{p:Prop}(h:p:=by
 refine fH ?_;exact⟨(),Sub.mk' Cf (M7 rfl rfl rfl SQ (fun x_=>(Ao _ _ _).trans (congrArg some (by rw[hnl,bM hv]))) fE),trivial⟩):p:=h
theorem U6{p:Prop}(h:p:=by
 refine FZ ⟨[_],⟨rfl,trivial⟩,?_,rfl⟩;show AV.int .u32 _=AV.int .u32 _;simp[Ha, *]):p:=h
theorem mJ{p:Prop}(h:p:=by
 obtain⟨k,hk⟩:=List.getElem?_of_mem hq;have hlt:k<parts.toList.length:=by have:=(List.getElem?_eq_some_iff.1 hk).1;simpa using this
 have hltp:k<ps.length:=by omega
 have h3:=(l2 k ps[k] ((parts.toList[k]).1,a.eval (parts.toList[k]).2) (List.getElem?_eq_getElem hltp) (by rw[List.getElem?_map,List.getElem?_eq_getElem hlt];rfl)).2;rw[List.getElem?_map,List.getElem?_eq_getElem hlt]at hk
 cases hk
 rw[<-(Ga h3).1];exact Ev hsz k _ (List.getElem?_eq_getElem hltp)):p:=h
theorem mI{p:Prop}(h:p:=by
 exact⟨(),Sub.mk' Cf (by repeat(first | exact HSub.refl _ | exact HSub.none _ | exact AG _ | exact AE GK | refine HSub.put ?_ (by first | rfl | exact CT (gp hsp) | exact CT (gq hsp) | exact CT (bo hsp) | exact CT (bp hsp)) | refine AF ?_ GK | refine Bq ?_ (by decide))),trivial⟩):p:=h
theorem aB{p:Prop}(h:p:=by
 refine FZ ⟨[_],⟨rfl,trivial⟩,?_,rfl⟩;refine bc ?_;exact(QS (by simp_all[Tac.rest,baseOp,Hw]<;>omega)).symm):p:=h
theorem mH{p:Prop}(h:p:=by
 refine wk 40 ?_;exact⟨(i+1,Cl (d:Int) fr,to.set d none,maps'),DropK.mk' jX (SG (o6:=.free) (L4 b) rfl rfl rfl rfl rfl rfl (IY _ _ _) (fun _=>rfl)),⟨hil,by rw[Ll ht,hF.pre,hn],hI'⟩,by show b.ins.length-(i+1)<b.ins.length-i;omega⟩):p:=h
theorem mG{p:Prop}(h:p:=by
 refine wk 2 ?_;refine aq 44 (Bj rfl rfl hkl (by simp only[maxLen];omega)) ?_;refine wk 2 ?_;exact⟨k+1,Drop.mk' Ra (by repeat(first | exact HDrop.none _ _ | exact HDrop.tail _ _ | refine HDrop.put ?_ (by first | rfl | exact congrArg (fun w=>some (AObj.row true 1 (BI w))) (Yj hrf) | exact congrArg (fun w=>some (AObj.row true 1 (BI w))) (fV hrt hnx hge2)) rfl rfl)),hkl,by omega⟩):p:=h
theorem zt56{p:Prop}(h:p:=by
 by_cases hi:i<ts.length
 . rw[if_pos hi]at hs;rw[if_pos (by rw[h.len];exact hi)]at hk';exact(h.key i s k' hs hk').ext hp
 . rw[if_neg hi]at hs;rw[if_neg (by rw[h.len];exact hi),h.len]at hk';have h0:i-ts.length=0:=by
    have:=(List.getElem?_eq_some_iff.1 hs).1;simp at this;omega
   rw[h0]at hs hk';simp at hs hk';subst hs;subst hk';exact hk.ext hp):p:=h
theorem aA{p:Prop}(h:p:=by
 rw[Fi (e:=e) (fun x hx=>g1 x (by rw[ho];simp[Op.operands,Call.operands];exact .inr (by simpa using hx)))];exact hx):p:=h
theorem mE{p:Prop}(h:p:=by
 refine wk 2 ?_;exact⟨0,Sub.mk' Cf Fz,by have h3:=Nl t.op;cases h1:use1 t.op<;>cases h2:use2 t.op<;>simp_all[Tac.uses]⟩):p:=h
theorem jM{p:Prop}(h:p:=by
 have ho:op=9\/op=10\/op=11:=by simp_all
 refine wk 3 ?_;refine ax 60 (DQ Tryz.func93 (iM _ a b ha hb)) ?_;refine wk 4 ?_;refine⟨[_,_],⟨rfl,rfl,trivial⟩,?_,rfl⟩;show AV.tup _=_;rw[Yk ha hb ho];rfl):p:=h
theorem mD{p:Prop}(h:p:=by
 exact⟨(),Sub.mk' (by repeat(first | exact ESub.new _ | refine ESub.put ?_ (by first | rfl | exact congrArg (fun(n:Int)=>some (AV.int .i64 n)) (by simp[CC, *])))) Fz,trivial⟩):p:=h
theorem mC{p:Prop}(h:p:=by
 exact⟨(),Sub.mk' Cf (by repeat(first | exact HSub.refl _ | exact HSub.none _ | exact AG _ | exact AE GK | refine HSub.put ?_ (by first | rfl | exact CT (d6 hfin hv2.1) | exact CT (iy hfin)) | refine AF ?_ GK | refine Bq ?_ (by decide))),trivial⟩):p:=h
theorem mB{p:Prop}(h:p:=by
 cases res with
 | ok n w3=>
  cases n<;>simp only[Oper.upon]at hp' |- <;>first
   | exact hp'
   | exact Calls.mono hp' jU
 | halt x w3=>cases x<;>simp only[Oper.upon]at hp' |- <;>first | exact hpost _ _ _ hp' | exact hp'):p:=h
theorem mA{p:Prop}(h:p:=by
 by_cases hj:j<32
 . rcases(by omega:a/2^j%2=0\/a/2^j%2=1)with h1 | h1<;>rcases(by omega:b/2^j%2=0\/b/2^j%2=1)with h2 | h2<;>simp[h1,h2,hj,Z4]
 . have h1:a/2^j=0:=Nat.div_eq_of_lt (Nat.lt_of_lt_of_le ha (Nat.pow_le_pow_right (by decide) (by omega)));have h2:b/2^j=0:=Nat.div_eq_of_lt (Nat.lt_of_lt_of_le hb (Nat.pow_le_pow_right (by decide) (by omega)));simp[hj,h1,h2]):p:=h
theorem mz{p:Prop}(h:p:=by
 refine wk 2 ?_;exact⟨j+1,Drop.mk' SR Re,Pc hu hj (by simpa using hbw),by omega⟩):p:=h
theorem jL{p:Prop}(h:p:=by
 have hnx2:CG inn v x i q (m+1)=(S2.1,s.r||(!s.s&&S2.2)):=by rw[Fl (by rw[<-DA hx];exact hsk) (by rw[<-DA hx];exact hkk),hS2];exact Nx hlf hk2
 refine wk 5 ?_;exact rh):p:=h
theorem jK{p:Prop}(h:p:=by
 have hnx2:CG inn v x i q (m+1)=(S2.1,s.r||(!s.s&&S2.2)):=by rw[Fl (by rw[<-DA hx];exact hsk) (by rw[<-DA hx];exact hkk),hS2];exact Nx hlf hk2
 refine wk 3 ?_;exact rh):p:=h
theorem U5{p:Prop}(h:p:=by
 refine FZ ⟨[_],⟨rfl,trivial⟩,?_,rfl⟩;refine bc ?_;simp[setsOp, *]):p:=h
theorem my{p:Prop}(h:p:=by
 refine⟨by simp[<-ha.1,hn],rfl,fun t x hx=>?_,hr⟩;have hlt:t<vs.size:=by
  rw[<-ha.1];rcases Nat.lt_or_ge t args.length with h | h
  . exact h
  . simp only[G9]at hx;rw[List.getElem?_eq_none h]at hx;cases hx
 obtain⟨v,hv⟩:=Bx hlt;exact⟨v,by simp only;rw[Array.getElem?_append_left hlt];exact hv,ha.2 t x v hx hv⟩):p:=h
theorem mx{p:Prop}(h:p:=by
 exact⟨j+1,Drop.mk' Ra (by repeat(first | exact HDrop.none _ _ | exact HDrop.tail _ _ | refine HDrop.put ?_ (by first | rfl | exact congrArg (fun es=>some (AObj.row true 1 es)) (BR (f:=A5) (x:=true) (by simp:(List.replicate f.regs.toNat true).length=f.regs.toNat) (by simp[hjl]))) rfl rfl)),hjl,by omega⟩):p:=h
theorem zt70{p:Prop}(h:p:=by
 simp only[Option.some.injEq,Prod.mk.injEq]at hx;obtain⟨rfl,rfl,rfl,rfl,rfl⟩:=hx;refine⟨a1,fun hl=>⟨AGo.block (AGo.mono (a2 hl) fun x2 s2 hh=>?_),fun b hb=>by cases hb⟩⟩;obtain⟨rfl,rfl⟩:=hh;show bif Nat.beq id' id then _ else _;rw[hid];exact⟨rfl,rfl⟩):p:=h
theorem mw{p:Prop}(h:p:=by
 cases e with
 | exit id'=>
  obtain⟨s',H',ι',q,r⟩:=hp;simp only[Exit.inBlock];simp only[SF]at q
  by_cases hid:id'=id
  . subst hid;simp only[Nat.beq_refl,cond_true]at q;rw[if_pos rfl];exact⟨s',H',ι',q,r⟩
  . rw[if_neg hid];rw[Af hid]at q;exact⟨s',H',ι',q,r⟩
 | _=>exact hp):p:=h
theorem jI{p:Prop}(h:p:=by
 rw[h.hi];have hu':u∈l1++l2:=hu;simp only[List.mem_append,List.mem_cons]at hu' |-;rcases hu' with hu' | hu'
 . exact .inl hu'
 . exact .inr (.inr hu')):p:=h
theorem mv{p:Prop}(h:p:=by
 refine wk 5 ?_;refine aq 36 (Ab Ag rfl rfl rfl rfl rfl rfl rfl (by rw[List.length_map,hI.lenT]) rfl hdf.1 (by omega)) ?_;refine aq 37 (At Ag rfl rfl rfl (.ptr _ _ _ _ _ _ _ _ rfl (by rw[List.length_map,hI.lenT]) (IR ho)) rfl) ?_;refine wk 1 ?_;exact Sub.mk' Cf (HSub.refl _)):p:=h
theorem jH{p:Prop}(h:p:=by
 refine FZ ⟨[_],⟨rfl,trivial⟩,?_,rfl⟩;show AV.lst false _=_
 cases h1:use1 t.op<;>cases h2:use2 t.op<;>simp_all[Vx,Tac.uses,A0,partVals,AV.cells]):p:=h
theorem fM{p:Prop}(h:p:=by
 rw[Ie (e:=e) (fun x hx=>g1 x (by rw[ho];simp only[Op.operands,List.mem_toArray];exact hx))];exact hx):p:=h
theorem fL{p:Prop}(h:p:=by
 refine ax 12 (Cn Ag rfl rfl rfl rfl rfl rfl (by decide) rfl rfl rfl rfl rfl rfl) ?_;refine wk 2 ?_;exact fN):p:=h
theorem mr{p:Prop}(h:p:=by
 refine⟨[],trivial,rfl,?_⟩;rw[show(FV call s fuel f (fuel.toNat+1) 0 (List.replicate f.regs.toNat 0) m)=_ from qM hF hk hI hge (by first | exact .inl (by simpa using ‹(!(AK fuel r.m).1)=true›) | exact .inr ‹_›)];exact HSub.put (HSub.put (HSub.put (HSub.none _) rfl) rfl) rfl):p:=h
theorem fK{p:Prop}(h:p:=by
 refine ax 28 (DQ Tryz.func14 hawake) ?_;refine wk 40 ?_;exact⟨[_],⟨rfl,trivial⟩,rfl,rfl⟩):p:=h
theorem mq{p:Prop}(h:p:=by
 obtain⟨s',H',ι',q,r,t⟩:=hp
 cases e with
 | normal=>
  obtain⟨g,d,hF⟩:=q;obtain⟨H2,ι2,r2,t2⟩:=Ghost.of_sub d H' ι' a' w' r;exact⟨_,H2,ι2,k g hF,r2,t.trans hs.heap r.heap t2⟩
 | _=>exact⟨s',H',ι',q,r,t⟩):p:=h
theorem mo{p:Prop}(h:p:=by
 refine .tup _ _ _ rfl fun q x u hq hu=>?_
 match q,hq,hu with
 | 0,hq,hu=>simp at hq hu;subst hq;subst hu;exact g5.mono (KLe.refl _) (LLe.none _)
 | 1,hq,hu=>simp at hq hu;subst hq;subst hu;exact .bool _ _
 | q+2,hq,hu=>simp at hq):p:=h
theorem mn{p:Prop}(h:p:=by
 refine⟨r',e1,e2.mono hkle (LLe.refl _) (fun _=>rfl),fun hs'=>?_⟩;have hxb:x≠b:=fun hx=>by subst hx;rw[Gw]at h1;cases h1
 rw[EC _ _ (hr.inj x b o _ r' r (hsubh _ _ h1) h2 hb rfl e1 hl hs' hsol hxb)];exact e3 hs'):p:=h
theorem az{p:Prop}(h:p:=by
 exact HSub.put (HSub.put (HSub.put (HSub.put (HSub.none _) rfl) rfl) rfl) rfl):p:=h
theorem mm{p:Prop}(h:p:=by
 cases e:H' r.rb with
 | none=>rfl
 | some c=>
  rcases hst.knew r.rb (by rw[e];simp)with g | g | g
  . exact absurd h5 g
  . have:=hr.lt ⟨b,o,r,h1,h2,h3,h4,rfl⟩;omega
  . exact absurd g (apart b o r hb h1 h2 h3 h4)):p:=h
theorem ml{p:Prop}(h:p:=by
 simp only[cond_false,pget,ih]
 cases hy:y==k with
 | true=>
  have hy':y=k:=by simpa using hy
  subst hy';have:(y==z)=false:=by simp at hz |-;omega
  rw[this];rfl
 | false=>rfl):p:=h
theorem mh{p:Prop}(h:p:=by
 refine .tup _ _ _ rfl fun q x u hq hu=>?_
 match q,hq,hu with
 | 0,hq,hu=>simp at hq hu;subst hq;subst hu;exact Kg hz0
 | 1,hq,hu=>simp at hq hu;subst hq;subst hu;exact .bool _ _
 | q+2,hq,hu=>simp at hq):p:=h
theorem fJ{p:Prop}(h:p:=by
 refine FZ ⟨[_],⟨rfl,trivial⟩,?_,rfl⟩;refine bc ?_;simp_all[GO];try omega):p:=h
theorem mg{p:Prop}(h:p:=by
 unfold Oper.wp;rw[hexec];refine hcall.mono fun en w' hh=>?_
 obtain⟨v',r',H',rfl,rfl,k1,k2⟩:=hh;obtain⟨u1,u2⟩:=hs.heap.grown k2;exact⟨v',H',ι,rfl,(fun x ex=>by cases ex;exact k1.mono (KLe.refl _) (LLe.none _)),u1,u2⟩):p:=h
theorem mf{p:Prop}(h:p:=by
 refine AOps.w rfl rfl (o_store Ag rfl rfl rfl rfl rfl rfl (AC (AJ f) (Nat.le_of_lt hkl)) (fill_get (AJ f) hkl) rfl (by decide) rfl Dy) ?_;refine wk 2 ?_;exact m4):p:=h
theorem jG{p:Prop}(h:p:=by
 refine FZ ⟨[_],⟨rfl,trivial⟩,?_,rfl⟩;show AV.int .u32 _=AV.int .u32 _;simp only[FA, *,cond_true,cond_false]):p:=h
theorem jF{p:Prop}(h:p:=by
 cases es with
 | nil=>exact absurd rfl hne
 | cons cs es=>rw[<-hsz' 0 cs (by simp),hu cs (by simp)]):p:=h
theorem me{p:Prop}(h:p:=by
 have ho:op=12\/op=13:=by simp_all
 refine wk 3 ?_;refine ax 67 (DQ Tryz.func94 (YF _ a b ha hb ho)) ?_;refine wk 4 ?_;refine⟨[_,_],⟨rfl,rfl,trivial⟩,?_,rfl⟩;show AV.tup _=_;rw[Vf ho];rfl):p:=h
theorem md{p:Prop}(h:p:=by
 have e2:=CQ (f:=CW) (z:=[.nil]) (by simp:(List.replicate f.blocks.length (List.replicate f.regs.toNat true)).length=f.blocks.length) hge;show AV.tup [.agg [_,.lst false _],.agg [.lst false _]]=_;rw[e1,e2];rfl):p:=h
theorem jE{p:Prop}(h:p:=by
 rcases Nat.lt_or_ge j cs.length with h | h
 . exact h
 . rw[List.getElem?_eq_none h]at e2;cases e2):p:=h
theorem mc{p:Prop}(h:p:=by
 obtain⟨q',k1',k2',_⟩:=hk b' hb';rw[k2]at h1;cases h1;rw[k2']at h3;cases h3;rw[mT b hb]at h5;rw[mT b' hb']at h6;exact hr'.inj b b' _ _ r r' k1 h2 k1' h4 h5 h6 s1 s2 hne):p:=h
theorem mb{p:Prop}(h:p:=by
 refine ax 8 (EO Ag 6) ?_;refine wk 40 ?_;exact⟨[_,_],⟨⟨_,_,_,_,rfl,rfl,.ptr _ _ _ _ _ _ _ _ rfl rfl rfl,rfl⟩,⟨_,_,_,_,rfl,rfl,.ptr _ _ _ _ _ _ _ _ rfl rfl rfl,rfl⟩,trivial⟩,rfl,rfl⟩):p:=h
theorem jD{p:Prop}(h:p:=by
 refine FZ ⟨[_],⟨rfl,trivial⟩,?_,rfl⟩;refine bc ?_;exact(YI (by simp_all<;>omega)).symm):p:=h
theorem ma{p:Prop}(h:p:=by
 have e1:=st.dom b e
 cases e2:h' b with
 | none=>rfl
 | some o=>
  rcases hd b o e2 with⟨g,_⟩ |⟨_,g⟩
  . rw[g]at e1;cases e1
  . rw[hf b g]at e;cases e):p:=h
theorem jC{p:Prop}(h:p:=by
 refine FZ ⟨[_],⟨rfl,trivial⟩,?_,rfl⟩;refine bc ?_;exact(gN (by simp_all<;>omega)).symm):p:=h
theorem l9{p:Prop}(h:p:=by
 refine AOps.k 14 rfl rfl rfl ?_;refine AOps.k 15 rfl rfl rfl ?_;refine AOps.k 16 rfl rfl rfl ?_;refine AOps.k 17 rfl rfl rfl ?_;refine AOps.k 18 rfl rfl rfl ?_;refine wk 3 ?_;exact mW):p:=h
theorem aE{p:Prop}(h:p:=by
 refine⟨e2,e3,e4,?_⟩;rw[hg,if_neg (fun e=>by subst e;rw[hs]at e5;omega)];exact e5):p:=h
theorem WJ{p:Prop}(h:p:=by
 refine wk 4 ?_;refine⟨[_,_],⟨rfl,rfl,trivial⟩,?_,rfl⟩;rfl):p:=h
theorem zt102{p:Prop}(h:p:=by
 obtain⟨r,r1,r2,r3⟩:=hr.obj b o h1 h2;exact⟨r,by rw[mF b hbL];exact r1,r2.mono hst.kle lle (fun hs=>blk b o r hbL h1 h2 r1 hs),fun hs=>noK b o r hbL h1 h2 r1 hs (r3 hs)⟩):p:=h
theorem i7{p:Prop}(h:p:=by
 rcases h.t.cst (h.at hb)with⟨c,h1,h2,h3⟩ |⟨h1,h2⟩
 . rw[h1,h3];simp[Tm.isZero]
 . rw[h2]
   cases e:tget s.regs t.b with
   | cst c=>exact absurd e (h1 c)
   | _=>rfl):p:=h
theorem i6{p:Prop}(h:p:=by
 by_cases hki:k=i
 . subst hki;rw[List.getElem?_set_self hilt]at hk;cases hk;exact .inl ⟨rfl,rfl⟩
 . rw[List.getElem?_set_ne (Ne.symm hki)]at hk;exact .inr ⟨hki,hk⟩):p:=h
theorem aD{p:Prop}(h:p:=by
 by_cases hxb:x=b
 . subst hxb;rw[Gw]at hx;cases hx
 . rwa[E5 _ hxb]at hx):p:=h
theorem WI{p:Prop}(h:p:=by
 exact⟨undef,H,ι,(by rw[hd]),(fun x ex=>by cases ex),u1,u2⟩):p:=h
theorem i5{p:Prop}(h:p:=by
 rw[k2]at h1;cases h1;obtain⟨r,r1,r2,r3⟩:=hr'.obj b o k1 h2;exact⟨r,by rw[mT b hbL];exact r1,(Hl r2 k3).mono (KLe.refl _) lle' (fun _=>rfl),r3⟩):p:=h
theorem i4{p:Prop}(h:p:=by
 cases ei:P.info? et with
 | none=>rw[ei]at hz;cases hz
 | some inf=>
  rw[ei]at hz;simp only[Option.bind_some]at hz;simp[zeroValue,typeInfo,ei,hz]):p:=h
theorem iZ{p:Prop}(h:p:=by
 simp only[List.append_nil,List.nil_append,List.cons.injEq]at hk1 hk2;obtain⟨e1,e2⟩:=hk2;subst e1;subst e2;subst hk1;exact .inl (h1.hg.trans h2.hg.symm)):p:=h
theorem zt110{p:Prop}(h:p:=by
 rcases hst.newrb b r' e es with k | k |⟨r0,k1,k2,k3⟩
 . exact .inl (Bp k)
 . exact .inr (.inl k)
 . exact .inr (.inr ⟨r0,Bp k1,k2,k3⟩)):p:=h
theorem iY{p:Prop}(h:p:=by
 refine wk 40 ?_;exact⟨(),Sub.mk' Cf (by rw[hs];exact L9 rfl rfl rfl rfl rfl rfl rfl (fun _=>rfl)),trivial⟩):p:=h
theorem zt112{p:Prop}(h:p:=by
 obtain⟨i,hi⟩:=List.mem_iff_getElem?.1 hm;obtain⟨k,hk⟩:=Ae (l:=K) (k:=i) (by rw[h.len];exact(List.getElem?_eq_some_iff.1 hi).1);exact h.key i _ k hi hk):p:=h
theorem iX{p:Prop}(h:p:=by
 intro q hq;simp only[cond_false,List.mem_cons]at hq;rcases hq with rfl | hq
 . exact h _ (by simp)
 . exact ih (fun q hq=>h q (by simp[hq])) q hq):p:=h
end Go.Proofs.YtbbfelelocccmaaGreat.Sv
namespace Go.Proofs.YtbbfelelocccmaaGreat.Sv
open Go
def jl:Nat->Option (List (IntKind×Int)):=fun _=>none
inductive AV where
  | bool (b:Bool)
  | int (k:IntKind) (n:Int)
  | str (s:ByteArray)
  | nil
  | nilp
  | lst (ex:Bool) (es:List (List AV))
  | loc (cs:List AV)
  | ref (b n off len:Nat)
  | ptr (b n i o:Nat)
  | map (b:Nat)
  | agg (cs:List AV)
  | tup (vs:List AV)
  | fn (f:Fn) (fs cs:List AV)
  | val (v:Value)
def gO:Value->Bool
  | .agg _ | .tuple _=>false
  | _=>true
def AV.cell1:AV->Bool
  | .agg _ | .tup _=>false
  | _=>true
abbrev Ay:=Nat->Option (Array Value)
structure Ent where
  rb:Nat
  sz:Nat
  n:Nat
  csz:Nat
def Ent.solid(r:Ent):Prop:=r.csz≠0
abbrev Be:=Nat->Option Ent
def AX:Be:=fun _=>none
inductive Rel(H:Ay):Be->AV->Value->Prop
  | bool (ι:Be) (b:Bool):Rel H ι (.bool b) (.bool b)
  | int (ι:Be) (k:IntKind) (n:Int):Rel H ι (.int k n) (.int k n)
  | str (ι:Be) (s:ByteArray):Rel H ι (.str s) (.string s)
  | nil (ι:Be):Rel H ι .nil (.slice none 0 0)
  | nilp (ι:Be):Rel H ι .nilp (.pointer none)
  | lst0 (ι:Be) (ex:Bool) (a:Option Addr) (cap:Nat) (hex:ex=true->cap=0) (hcap:cap<=maxLen) (hn:a=none->cap=0) (hsp:True):Rel H ι (.lst ex []) (.slice a 0 cap)
  | lst (ι:Be) (ex:Bool) (es:List (List AV)) (b off cap sz:Nat) (c:Array Value) (vals:Nat->Nat->Value) (hne:es≠[]) (hb:H b=some c)
      (hsz: ∀(i:Nat) (cs:List AV),es[i]?=some cs->cs.length=sz)
      (hv: ∀(i:Nat) (cs:List AV) (j:Nat) (x:AV),es[i]?=some cs->cs[j]?=some x->c[off+i*sz+j]?=some (vals i j))
      (hr: ∀(i:Nat) (cs:List AV) (j:Nat) (x:AV),es[i]?=some cs->cs[j]?=some x->Rel H AX x (vals i j))
      (h1: ∀(i:Nat) (cs:List AV) (j:Nat) (x:AV),es[i]?=some cs->cs[j]?=some x->x.cell1=true)
      (hex:ex=true->cap=es.length) (hcap:es.length<=cap) (hmax:cap<=maxLen):
      Rel H ι (.lst ex es) (.slice (some ⟨b,off,none⟩) es.length cap)
  | loc (ι:Be) (cs:List AV) (b off:Nat) (c:Array Value) (vals:Nat->Value) (hb:H b=some c)
      (hv: ∀(j:Nat) (x:AV),cs[j]?=some x->c[off+j]?=some (vals j)) (hr: ∀(j:Nat) (x:AV),cs[j]?=some x->Rel H AX x (vals j))
      (h1: ∀(j:Nat) (x:AV),cs[j]?=some x->x.cell1=true):
      Rel H ι (.loc cs) (.pointer (some ⟨b,off,none⟩))
  | refL (ι:Be) (b n off len cap:Nat) (r:Ent) (hr:ι b=some r) (hn:r.n=n) (hlen:off+len<=n) (hlc:len<=cap) (hcap:(off+cap)*r.sz=r.csz) (hmax:cap<=maxLen):
      Rel H ι (.ref b n off len) (.slice (some ⟨r.rb,off*r.sz,none⟩) len cap)
  | ref0 (ι:Be) (b:Nat) (r:Ent) (a:Option Addr) (hr:ι b=some r) (hn:r.n=0) (hc:r.csz=0) (hsp:True):Rel H ι (.ref b 0 0 0) (.slice a 0 0)
  | refS (ι:Be) (b n off len:Nat) (r:Ent) (a:Option Addr) (cap:Nat) (hr:ι b=some r) (hn:n<r.n):Rel H ι (.ref b n off len) (.slice a len cap)
  | ptrL (ι:Be) (b n i o:Nat) (r:Ent) (hr:ι b=some r) (hn:r.n=n):Rel H ι (.ptr b n i o) (.pointer (some ⟨r.rb,i*r.sz+o,none⟩))
  | ptrS (ι:Be) (b n i o:Nat) (r:Ent) (a:Addr) (hr:ι b=some r) (hn:n<r.n):Rel H ι (.ptr b n i o) (.pointer (some a))
  | map (ι:Be) (b:Nat) (r:Ent) (hr:ι b=some r) (hn:r.sz=0):Rel H ι (.map b) (.map (some r.rb))
  | agg (ι:Be) (cs:List AV) (vs:Array Value) (hl:cs.length=vs.size) (hr: ∀(j:Nat) (x:AV) (v:Value),cs[j]?=some x->vs[j]?=some v->Rel H ι x v):Rel H ι (.agg cs) (.agg vs)
  | tup (ι:Be) (cs:List AV) (vs:Array Value) (hl:cs.length=vs.size) (hr: ∀(j:Nat) (x:AV) (v:Value),cs[j]?=some x->vs[j]?=some v->Rel H ι x v):Rel H ι (.tup cs) (.tuple vs)
  | fn (ι:Be) (f:Fn) (xs cs:List AV) (us vs:Array Value) (hx:xs.length=us.size) (hl:cs.length=vs.size)
      (h1: ∀(j:Nat) (x:AV) (v:Value),xs[j]?=some x->us[j]?=some v->Rel H ι x v) (h2: ∀(j:Nat) (x:AV) (v:Value),cs[j]?=some x->vs[j]?=some v->Rel H ι x v):Rel H ι (.fn f xs cs) (.func f us vs)
  | val (ι:Be) (v:Value) (h:gO v=true):Rel H ι (.val v) v
def KLe(H H':Ay):Prop:=∀b c,H b=some c->H' b=some c
def LLe(ι ι':Be):Prop:=∀b r,ι b=some r->∃r',ι' b=some r'/\(r'=r\/r.n<r'.n/\0<r.sz/\r'.sz=r.sz)
theorem KLe.refl(H:Ay):KLe H H:=fun _ _ h=>h
theorem KLe.trans{H H' H'':Ay}(h:KLe H H')(h':KLe H' H''):KLe H H'':=fun b c e=>h' b c (h b c e)
theorem LLe.refl(ι:Be):LLe ι ι:=fun _ r h=>⟨r,h,.inl rfl⟩
theorem LLe.trans{ι ι' ι'':Be}(h:LLe ι ι')(h':LLe ι' ι''):LLe ι ι'':=fun b r e=>by
 obtain⟨r',e',h1⟩:=h b r e;obtain⟨r'',e'',h2⟩:=h' b r' e';refine⟨r'',e'',?_⟩;rcases h1 with rfl | h1<;>rcases h2 with rfl | h2
 . exact .inl rfl
 . exact .inr h2
 . exact .inr h1
 . exact .inr ⟨Nat.lt_trans h1.1 h2.1,h1.2.1,h2.2.2.trans h1.2.2⟩
theorem LLe.none(ι:Be):LLe AX ι:=fun _ _ h=>by cases h
theorem Rel.mono{H H':Ay}{ι:Be}{x:AV}{v:Value}(h:Rel H ι x v)(hH:KLe H H'): ∀{ι':Be},LLe ι ι'->Rel H' ι' x v:=by
 induction h with
 | bool=>exact fun _=>.bool _ _
 | int=>exact fun _=>.int _ _ _
 | str=>exact fun _=>.str _ _
 | nil=>exact fun _=>.nil _
 | nilp=>exact fun _=>.nilp _
 | lst0 ι ex a cap hex hcap hn hsp=>exact fun _=>.lst0 _ ex a cap hex hcap hn hsp
 | lst ι ex es b off cap sz c vals hne hb hsz hv hr hc1 hex hcap hmax ih=>
  exact fun _=>.lst _ ex es b off cap sz c vals hne (hH _ _ hb) hsz hv (fun i cs j x h1 h2=>ih i cs j x h1 h2 (LLe.refl _)) hc1 hex hcap hmax
 | loc ι cs b off c vals hb hv hr hc1 ih=>
  exact fun _=>.loc _ cs b off c vals (hH _ _ hb) hv (fun j x h1=>ih j x h1 (LLe.refl _)) hc1
 | refL ι b n off len cap r hr hn hlen hlc hcap hmax=>
  intro ι' h;obtain⟨r',e,h1⟩:=h b r hr;rcases h1 with rfl | h1
  . exact .refL _ b n off len cap r' e hn hlen hlc hcap hmax
  . exact .refS _ b n off len r' _ cap e (hn▸h1.1)
 | ref0 ι b r a hr hn hc hsp=>
  intro ι' h;obtain⟨r',e,h1⟩:=h b r hr;rcases h1 with rfl | h1
  . exact .ref0 _ b r' a e hn hc hsp
  . exact .refS _ b 0 0 0 r' _ 0 e (by omega)
 | refS ι b n off len r a cap hr hn=>
  intro ι' h;obtain⟨r',e,h1⟩:=h b r hr;rcases h1 with rfl | h1
  . exact .refS _ b n off len r' a cap e hn
  . exact .refS _ b n off len r' a cap e (Nat.lt_trans hn h1.1)
 | ptrL ι b n i o r hr hn=>
  intro ι' h;obtain⟨r',e,h1⟩:=h b r hr;rcases h1 with rfl | h1
  . exact .ptrL _ b n i o r' e hn
  . exact .ptrS _ b n i o r' _ e (hn▸h1.1)
 | ptrS ι b n i o r a hr hn=>
  intro ι' h;obtain⟨r',e,h1⟩:=h b r hr;rcases h1 with rfl | h1
  . exact .ptrS _ b n i o r' a e hn
  . exact .ptrS _ b n i o r' a e (Nat.lt_trans hn h1.1)
 | map ι b r hr hn=>
  intro ι' h;obtain⟨r',e,h1⟩:=h b r hr;rcases h1 with rfl | h1
  . exact .map _ b r' e hn
  . omega
 | val ι v h=>exact fun _=>.val _ v h
 | agg ι cs vs hl hr ih=>exact fun h=>.agg _ cs vs hl (fun j x v h1 h2=>ih j x v h1 h2 h)
 | tup ι cs vs hl hr ih=>exact fun h=>.tup _ cs vs hl (fun j x v h1 h2=>ih j x v h1 h2 h)
 | fn ι f xs cs us vs hx hl h1 h2 ih1 ih2=>exact fun h=>.fn _ f xs cs us vs hx hl (fun j x v e1 e2=>ih1 j x v e1 e2 h) (fun j x v e1 e2=>ih2 j x v e1 e2 h)
def dO(l:List (IntKind×Int)):AV:=.loc (l.map fun p=>.int p.1 p.2)
def GlobOk(H:Ay):Prop:=∀(g:Nat) (l:List (IntKind×Int)),jl g=some l->Rel H AX (dO l) (.pointer (some ⟨g,0,none⟩))
theorem GlobOk.mono{H H':Ay}(h:GlobOk H)(hH:KLe H H'):GlobOk H':=fun g l e=>(h g l e).mono hH (LLe.refl _)
section
variable {H : Ay} {ι : Be} {v : Value}
theorem Rel.bool_inv{b:Bool}(h:Rel H ι (.bool b) v):v= .bool b:=by cases h;rfl
theorem Rel.int_inv{k:IntKind}{n:Int}(h:Rel H ι (.int k n) v):v= .int k n:=by cases h;rfl
theorem Rel.str_inv{s:ByteArray}(h:Rel H ι (.str s) v):v= .string s:=by cases h;rfl
theorem Rel.nil_inv(h:Rel H ι .nil v):v= .slice none 0 0:=by cases h;rfl
theorem Rel.val_inv{u:Value}(h:Rel H ι (.val u) v):v=u/\gO u=true:=by cases h;exact⟨rfl,by assumption⟩
theorem Rel.map_inv{b:Nat}(h:Rel H ι (.map b) v): ∃r,ι b=some r/\r.sz=0/\v= .map (some r.rb):=by cases h;exact⟨_,by assumption,by assumption,rfl⟩
theorem Rel.tup_inv{cs:List AV}(h:Rel H ι (.tup cs) v): ∃us,v= .tuple us/\cs.length=us.size/\∀(j:Nat) (x:AV) (u:Value),cs[j]?=some x->us[j]?=some u->Rel H ι x u:=by
 cases h;exact⟨_,rfl,by assumption,by assumption⟩
theorem Rel.agg_inv{cs:List AV}(h:Rel H ι (.agg cs) v): ∃us,v= .agg us/\cs.length=us.size/\∀(j:Nat) (x:AV) (u:Value),cs[j]?=some x->us[j]?=some u->Rel H ι x u:=by
 cases h;exact⟨_,rfl,by assumption,by assumption⟩
theorem Rel.fn_inv{f:Fn}{xs cs:List AV}(h:Rel H ι (.fn f xs cs) v): ∃us vs,v= .func f us vs/\xs.length=us.size/\cs.length=vs.size/\
 (∀(j:Nat) (x:AV) (u:Value),xs[j]?=some x->us[j]?=some u->Rel H ι x u)/\(∀(j:Nat) (x:AV) (u:Value),cs[j]?=some x->vs[j]?=some u->Rel H ι x u):=by
 cases h;exact⟨_,_,rfl,by assumption,by assumption,by assumption,by assumption⟩
theorem Rel.lst_inv{ex:Bool}{es:List (List AV)}(h:Rel H ι (.lst ex es) v):
 (es=[]/\∃a cap,v= .slice a 0 cap/\(ex=true->cap=0)/\cap<=maxLen/\(a=none->cap=0)/\True)\/
 (es≠[]/\∃b off cap sz c,∃vals:Nat->Nat->Value,v= .slice (some ⟨b,off,none⟩) es.length cap/\H b=some c/\(∀(i:Nat) (cs:List AV),es[i]?=some cs->cs.length=sz)/\
  (∀(i:Nat) (cs:List AV) (j:Nat) (x:AV),es[i]?=some cs->cs[j]?=some x->c[off+i*sz+j]?=some (vals i j))/\
  (∀(i:Nat) (cs:List AV) (j:Nat) (x:AV),es[i]?=some cs->cs[j]?=some x->Rel H AX x (vals i j))/\
  (∀(i:Nat) (cs:List AV) (j:Nat) (x:AV),es[i]?=some cs->cs[j]?=some x->x.cell1=true)/\
  (ex=true->cap=es.length)/\es.length<=cap/\cap<=maxLen):=by
 cases h with
 | lst0 _ _ a cap h1 h2 h3 h4=>exact .inl ⟨rfl,a,cap,rfl,h1,h2,h3,h4⟩
 | lst _ _ _ b off cap sz c vals h0 h1 h2 h3 h4 h5 h6 h7 h8=>exact .inr ⟨h0,b,off,cap,sz,c,vals,rfl,h1,h2,h3,h4,h5,h6,h7,h8⟩
theorem Rel.lst_len{ex:Bool}{es:List (List AV)}(h:Rel H ι (.lst ex es) v): ∃a cap,v= .slice a es.length cap:=by
 cases h with
 | lst0 _ _ a cap h1 h2 h3 h4=>exact⟨a,cap,rfl⟩
 | lst _ _ _ b off cap sz c vals h0 h1 h2 h3 h4 h5 h6 h7 h8=>exact⟨_,_,rfl⟩
theorem Rel.loc_inv{cs:List AV}(h:Rel H ι (.loc cs) v): ∃b off c,∃vals:Nat->Value,v= .pointer (some ⟨b,off,none⟩)/\H b=some c/\
 (∀(j:Nat) (x:AV),cs[j]?=some x->c[off+j]?=some (vals j))/\(∀(j:Nat) (x:AV),cs[j]?=some x->Rel H AX x (vals j))/\(∀(j:Nat) (x:AV),cs[j]?=some x->x.cell1=true):=by
 cases h;exact⟨_,_,_,_,rfl,by assumption,by assumption,by assumption,by assumption⟩
theorem Rel.ref_len{b n off len:Nat}(h:Rel H ι (.ref b n off len) v): ∃a cap,v= .slice a len cap:=by
 cases h<;>exact⟨_,_,rfl⟩
theorem Rel.ref_live{b n off len:Nat}{r:Ent}(h:Rel H ι (.ref b n off len) v)(hr:ι b=some r)(hn:r.n=n)(hc:r.csz≠0):
 off+len<=n/\∃cap,v= .slice (some ⟨r.rb,off*r.sz,none⟩) len cap/\len<=cap/\(off+cap)*r.sz=r.csz/\cap<=maxLen:=by
 cases h with
 | ref0 _ _ r' a hr' hn' hc'=>rw[hr]at hr';cases hr';exact absurd hc' hc
 | refL _ _ _ _ _ cap r' hr' hn' hlen hlc hcap hmax=>rw[hr]at hr';cases hr';exact⟨hlen,cap,rfl,hlc,hcap,hmax⟩
 | refS _ _ _ _ _ r' a cap hr' hn'=>rw[hr]at hr';cases hr';omega
theorem Rel.ptr_live{b n i o:Nat}{r:Ent}(h:Rel H ι (.ptr b n i o) v)(hr:ι b=some r)(hn:r.n=n):v= .pointer (some ⟨r.rb,i*r.sz+o,none⟩):=by
 cases h with
 | ptrL _ _ _ _ _ r' hr' hn'=>rw[hr]at hr';cases hr';rfl
 | ptrS _ _ _ _ _ r' a hr' hn'=>rw[hr]at hr';cases hr';omega
theorem Rel.ptr_some{b n i o:Nat}(h:Rel H ι (.ptr b n i o) v): ∃a,v= .pointer (some a):=by
 cases h<;>exact⟨_,rfl⟩
end
theorem Rel.ref_dry{H:Ay}{ι:Be}{v:Value}{b n off len:Nat}{r:Ent}(h:Rel H ι (.ref b n off len) v)(hr:ι b=some r)(hn:r.n=n)(hc:r.csz=0)(hs:0<r.sz):
 len=0/\∃a,v= .slice a 0 0/\True:=by
 cases h with
 | ref0 _ _ r' a hr' hn' hc' hsp=>exact⟨rfl,a,rfl,hsp⟩
 | refL _ _ _ _ _ cap r' hr' hn' hlen hlc hcap hmax=>
  rw[hr]at hr';cases hr';rw[hc]at hcap;have:off+cap=0:=by
   rcases Nat.mul_eq_zero.1 hcap with h | h
   . exact h
   . omega
  have h1:cap=0:=by omega
  have h2:len=0:=by omega
  subst h1;subst h2;exact⟨rfl,_,rfl,trivial⟩
 | refS _ _ _ _ _ r' a cap hr' hn'=>rw[hr]at hr';cases hr';omega
end Go.Proofs.YtbbfelelocccmaaGreat.Sv
namespace Go.Proofs.YtbbfelelocccmaaGreat.Sv
open Go
inductive AObj where
  | free
  | row (p:Bool) (sz:Nat) (es:List (List AV))
  | map (kvs:List (AV×AV))
  | iter0
def AObj.alive:AObj->Bool
  | .free=>false
  | _=>true
abbrev Ac:=Nat->Option AObj
abbrev Av:=Nat->Option AV
def hNew:Ac:=fun _=>some .free
def A9:Av:=fun _=>none
def hput(h:Ac)(b:Nat)(o:AObj):Ac:=fun x=>bif Nat.beq x b then some o else h x
def Aa(e:Av)(t:Nat)(v:AV):Av:=fun x=>bif Nat.beq x t then some v else e x
def OT(e:Av)(t:Nat):Av:=fun x=>bif Nat.beq x t then none else e x
theorem Af{x b:Nat}(h:x≠b):Nat.beq x b=false:=by
 cases e:Nat.beq x b with
 | false=>rfl
 | true=>exact absurd (Nat.eq_of_beq_eq_true e) h
theorem Aq(h:Ac)(b:Nat)(o:AObj):hput h b o b=some o:=by simp[hput]
theorem AL(h:Ac){b x:Nat}(o:AObj)(hne:x≠b):hput h b o x=h x:=by simp only[hput,Af hne,cond_false]
theorem Cx(e:Av)(t:Nat)(v:AV):Aa e t v t=some v:=by simp[Aa]
theorem D5(e:Av){t x:Nat}(v:AV)(hne:x≠t):Aa e t v x=e x:=by simp only[Aa,Af hne,cond_false]
theorem LZ(e:Av)(t:Nat):OT e t t=none:=by simp[OT]
theorem Sl(e:Av){t x:Nat}(hne:x≠t):OT e t x=e x:=by simp only[OT,Af hne,cond_false]
structure Aj where
  n:Nat
  env:Av
  h:Ac
def rowCells(H:Ay)(ι:Be)(sz:Nat)(es:List (List AV))(c:Array Value):Prop:=
  (∀(i:Nat) (cs:List AV),es[i]?=some cs->cs.length=sz)/\
  ∀(i:Nat) (cs:List AV) (j:Nat) (x:AV),es[i]?=some cs->cs[j]?=some x->∃v,c[i*sz+j]?=some v/\Rel H ι x v/\x.cell1=true
def Om(H:Ay)(kvs:List (AV×AV))(es:Array MapEntry):Prop:=
  kvs.length=es.size/\∀(j:Nat) (k v:AV),kvs[j]?=some (k,v)->∃e,es[j]?=some e/\Rel H AX k e.key/\Rel H AX v e.val
def BornOk(clk:Nat)(l:List Nat):Prop:=l.Pairwise (· < ·)/\∀b∈l,b<clk
theorem BornOk.nil(clk:Nat):BornOk clk []:=⟨.nil,fun b h=>by cases h⟩
theorem BornOk.snoc{clk:Nat}{l:List Nat}(h:BornOk clk l):BornOk (clk+1) (l++[clk]):=
 ⟨List.pairwise_append.2 ⟨h.1,List.pairwise_singleton _ _,fun a ha b hb=>by rw[List.mem_singleton.1 hb];exact h.2 a ha⟩,fun b hb=>by
  rcases List.mem_append.1 hb with hb | hb
  . exact Nat.lt_succ_of_lt (h.2 b hb)
  . rw[List.mem_singleton.1 hb];exact Nat.lt_succ_self _⟩
theorem BornOk.sub{clk:Nat}{l l':List Nat}(h:BornOk clk l)(s:l'.Sublist l):BornOk clk l':=⟨h.1.sublist s,fun b hb=>h.2 b (s.subset hb)⟩
theorem MA{es:Array MapEntry}{p:Nat}{k v:Value}:((es.modify p fun e=>{e with key:=k,val:=v}).toList.map (·.born))=es.toList.map (·.born):=by
 rw[Array.toList_modify];apply List.ext_getElem?;intro i;rw[List.getElem?_map,List.getElem?_map,List.getElem?_modify]
 by_cases h:p=i
 . subst h;cases es.toList[p]?<;>simp
 . simp[h]
def RowAt(w:World)(rb:Nat)(c:Array Value)(T:TypeId):Prop:=∃fr:Nat×Nat,w.heap[rb]?=some (.cells c T fr)/\(fr.2=0\/c.size<=fr.1)
theorem RowAt.lt{w:World}{rb:Nat}{c:Array Value}{T:TypeId}(h:RowAt w rb c T):rb<w.heap.size:=by
 obtain⟨fr,e,_⟩:=h;exact(Array.getElem?_eq_some_iff.1 e).1
theorem RowAt.same{w w':World}{rb:Nat}{c:Array Value}{T:TypeId}(h:RowAt w rb c T)(e:w'.heap[rb]?=w.heap[rb]?):RowAt w' rb c T:=by
 obtain⟨fr,h1,h2⟩:=h;exact⟨fr,e.trans h1,h2⟩
theorem RowAt.plain{w:World}{rb:Nat}{c:Array Value}{T:TypeId}(h:w.heap[rb]?=some (.cells c T)):RowAt w rb c T:=⟨(0,0),h,.inl rfl⟩
def ObjOk(H:Ay)(ι:Be)(w:World)(r:Ent):AObj->Prop
  | .free=>True
  | .row p sz es=>r.sz=sz/\0<sz/\r.n=es.length/\es.length*sz<=r.csz/\(∀(i:Nat) (cs:List AV),es[i]?=some cs->cs.length=sz)/\
      (r.solid->∃c T,RowAt w r.rb c T/\c.size=r.csz/\rowCells H (bif p then AX else ι) sz es c)
  | .map kvs=>r.sz=0/\r.solid/\∃es clk,w.heap[r.rb]?=some (.map es clk)/\Om H kvs es/\BornOk clk (es.toList.map (·.born))
  | .iter0=>r.sz=0/\r.n=0/\r.solid/\w.heap[r.rb]?=some (.mapIter none 0 #[] 0)
structure HeapRel(H:Ay)(ι:Be)(h:Ac)(w:World):Prop where
  know: ∀b c,H b=some c->∃T fr,w.heap[b]?=some (.cells c T fr)
  free: ∀b,h b=some .free->ι b=none
  obj: ∀b o,h b=some o->o.alive=true->∃r,ι b=some r/\ObjOk H ι w r o/\(r.solid->H r.rb=none)
  inj: ∀b b' o o' r r',h b=some o->o.alive=true->h b'=some o'->o'.alive=true->ι b=some r->ι b'=some r'->r.solid->r'.solid->b≠b'->r.rb≠r'.rb
  glob:GlobOk H
def Dp(h:Ac)(ι:Be)(rb:Nat):Prop:=∃b o r,h b=some o/\o.alive=true/\ι b=some r/\r.solid/\r.rb=rb
theorem HeapRel.lt{H:Ay}{ι:Be}{h:Ac}{w:World}(hr:HeapRel H ι h w){rb:Nat}(ho:Dp h ι rb):rb<w.heap.size:=by
 obtain⟨b,o,r,h1,h2,h3,hsol,rfl⟩:=ho;obtain⟨r',e1,e2,_⟩:=hr.obj b o h1 h2;rw[h3]at e1;cases e1
 cases o with
 | free=>cases h2
 | row p sz es=>obtain⟨_,_,_,_,_,hx⟩:=e2;obtain⟨c,T,hc,_⟩:=hx hsol;exact hc.lt
 | map kvs=>obtain⟨_,_,es,clk,hc,_⟩:=e2;exact(Array.getElem?_eq_some_iff.1 hc).1
 | iter0=>exact(Array.getElem?_eq_some_iff.1 e2.2.2.2).1
theorem HeapRel.knowlt{H:Ay}{ι:Be}{h:Ac}{w:World}(hr:HeapRel H ι h w){b:Nat}{c:Array Value}(hc:H b=some c):b<w.heap.size:=by
 obtain⟨T,fr,e⟩:=hr.know b c hc;exact(Array.getElem?_eq_some_iff.1 e).1
structure Step(H:Ay)(ι:Be)(h:Ac)(w:World)(H':Ay)(ι':Be)(h':Ac)(w':World):Prop where
  size:w.heap.size<=w'.heap.size
  os:w'.os=w.os
  out:w'.output=w.output
  keep: ∀rb,rb<w.heap.size->¬Dp h ι rb->w'.heap[rb]?=w.heap[rb]?
  kle:KLe H H'
  knew: ∀b,H' b≠none->H b≠none\/w.heap.size<=b\/Dp h ι b
  lle:LLe ι ι'
  lframe: ∀b,h b=none->ι' b=ι b
  newrb: ∀b r',ι' b=some r'->r'.solid->ι b=some r'\/w.heap.size<=r'.rb\/∃r,ι b=some r/\r.solid/\r.rb=r'.rb
  dom: ∀b,h b=none->h' b=none
theorem Step.refl(H:Ay)(ι:Be)(h:Ac)(w:World):Step H ι h w H ι h w where
 size:=Nat.le_refl _
 os:=rfl
 out:=rfl
 keep:=fun _ _ _=>rfl
 kle:=KLe.refl _
 knew:=fun _ h=>.inl h
 lle:=LLe.refl _
 lframe:=fun _ _=>rfl
 newrb:=fun _ _ h _=>.inl h
 dom:=fun _ h=>h
theorem Step.owned{H:Ay}{ι:Be}{h:Ac}{w:World}{H':Ay}{ι':Be}{h':Ac}{w':World}
 (hr:HeapRel H ι h w) (s:Step H ι h w H' ι' h' w') {rb:Nat} (ho:Dp h' ι' rb):Dp h ι rb\/w.heap.size<=rb:=by
 obtain⟨b,o,r',h1,h2,h3,hsol,rfl⟩:=ho
 cases e1:h b with
 | none=>rw[s.dom b e1]at h1;cases h1
 | some o0=>
  have e2:ι b≠none->o0.alive=true:=fun hne=>by
   cases o0 with
   | free=>exact absurd (hr.free b e1) hne
   | _=>rfl
  rcases s.newrb b r' h3 hsol with e | e |⟨r,e,es,e'⟩
  . exact .inl ⟨b,o0,r',e1,e2 (by rw[e];simp),e,hsol,rfl⟩
  . exact .inr e
  . exact .inl ⟨b,o0,r,e1,e2 (by rw[e];simp),e,es,e'⟩
theorem Step.trans{H:Ay}{ι:Be}{h:Ac}{w:World}{H':Ay}{ι':Be}{h':Ac}{w':World}{H'':Ay}{ι'':Be}{h'':Ac}{w'':World}
 (hr:HeapRel H ι h w) (s:Step H ι h w H' ι' h' w') (hr':HeapRel H' ι' h' w') (t:Step H' ι' h' w' H'' ι'' h'' w''):Step H ι h w H'' ι'' h'' w'' where
 size:=Nat.le_trans s.size t.size
 os:=t.os.trans s.os
 out:=t.out.trans s.out
 keep:=fun rb hlt hno=>by
  rw[t.keep rb (Nat.lt_of_lt_of_le hlt s.size) (fun ho=>?_),s.keep rb hlt hno];rcases s.owned hr ho with h1 | h1
  . exact hno h1
  . omega
 kle:=s.kle.trans t.kle
 knew:=fun b hb=>by
  rcases t.knew b hb with h1 | h1 | h1
  . exact s.knew b h1
  . exact .inr (.inl (Nat.le_trans s.size h1))
  . rcases s.owned hr h1 with h2 | h2
    . exact .inr (.inr h2)
    . exact .inr (.inl h2)
 lle:=s.lle.trans t.lle
 lframe:=fun b hb=>(t.lframe b (s.dom b hb)).trans (s.lframe b hb)
 newrb:=fun b r'' hb hsol=>by
  rcases t.newrb b r'' hb hsol with h1 | h1 |⟨r',h1,hs1,h2⟩
  . exact s.newrb b r'' h1 hsol
  . exact .inr (.inl (Nat.le_trans s.size h1))
  . rcases s.newrb b r' h1 hs1 with h3 | h3 |⟨r,h3,hs3,h4⟩
    . exact .inr (.inr ⟨r',h3,hs1,h2⟩)
    . exact .inr (.inl (h2▸h3))
    . exact .inr (.inr ⟨r,h3,hs3,h4.trans h2⟩)
 dom:=fun b hb=>t.dom b (s.dom b hb)
end Go.Proofs.YtbbfelelocccmaaGreat.Sv
namespace Go.Proofs.YtbbfelelocccmaaGreat.Sv
open Go
structure Sim(H:Ay)(ι:Be)(s:Aj)(a:Act)(w:World):Prop where
  n:a.tmps.size=s.n
  d:a.defers=[]
  env: ∀t x,s.env t=some x->∃v,a.tmps[t]?=some v/\Rel H ι x v
  heap:HeapRel H ι s.h w
def Post(H:Ay)(ι:Be)(h:Ac)(w:World)(Q:Exit->Aj->Prop):Exit->Act->World->Prop:=fun e a' w'=>
  ∃s' H' ι',Q e s'/\Sim H' ι' s' a' w'/\Step H ι h w H' ι' s'.h w'
def AGo(P:Program)(c:Code)(s:Aj)(Q:Exit->Aj->Prop):Prop:=
  ∀H ι a w,Sim H ι s a w->c.wp P (Post H ι s.h w Q) a w
section
variable {P : Program} {Q : Exit -> Aj -> Prop} {s : Aj}
theorem Post.mono{H:Ay}{ι:Be}{h:Ac}{w:World}{Q Q':Exit->Aj->Prop}{e:Exit}{a:Act}{w':World}(hp:Post H ι h w Q e a w')(hq: ∀s,Q e s->Q' e s):Post H ι h w Q' e a w':=by
 obtain⟨s',H',ι',q,r⟩:=hp;exact⟨s',H',ι',hq _ q,r⟩
theorem Post.step{H:Ay}{ι:Be}{h:Ac}{w:World}{H':Ay}{ι':Be}{h':Ac}{w':World}(hr:HeapRel H ι h w)(hr':HeapRel H' ι' h' w')(st:Step H ι h w H' ι' h' w')
 {Q:Exit->Aj->Prop} {e:Exit} {a:Act} {w'':World} (hp:Post H' ι' h' w' Q e a w''):Post H ι h w Q e a w'':=by
 obtain⟨s',H'',ι'',q,r,t⟩:=hp;exact⟨s',H'',ι'',q,r,st.trans hr hr' t⟩
theorem AGo.mono{c:Code}{Q':Exit->Aj->Prop}(h:AGo P c s Q)(hq: ∀e s,Q e s->Q' e s):AGo P c s Q':=
 fun H ι a w hs=>wp_mono (h H ι a w hs) fun e a' w' hp=>hp.mono (hq e)
theorem AGo.skip(h:Q .normal s):AGo P .skip s Q:=fun H ι a w hs=>wp_skip ⟨s,H,ι,h,hs,Step.refl _ _ _ _⟩
theorem AGo.exit{id:Nat}(h:Q (.exit id) s):AGo P (.exit id) s Q:=fun H ι a w hs=>wp_exit ⟨s,H,ι,h,hs,Step.refl _ _ _ _⟩
theorem AGo.ret(h:Q .ret s):AGo P .ret s Q:=fun H ι a w hs=>wp_ret ⟨s,H,ι,h,hs,Step.refl _ _ _ _⟩
theorem AGo.label{l:Nat}(h:Q .normal s):AGo P (.label l) s Q:=fun H ι a w hs=>wp_label ⟨s,H,ι,h,hs,Step.refl _ _ _ _⟩
def Cb(K:Aj->Prop)(Q:Exit->Aj->Prop):Exit->Aj->Prop
  | .normal,s=>K s
  | e,s=>Q e s
theorem AGo.seq{x y:Code}(h:AGo P x s (Cb (fun s'=>AGo P y s' Q) Q)):AGo P (.seq x y) s Q:=by
 intro H ι a w hs;refine wp_seq (wp_mono (h H ι a w hs) fun e a' w' hp=>?_)
 cases e with
 | normal=>
  obtain⟨s',H',ι',q,r,t⟩:=hp;exact wp_mono (q H' ι' a' w' r) fun e a'' w'' hp'=>Post.step hs.heap r.heap t hp'
 | _=>exact hp
theorem AGo.cond{c:Operand}{x y:Code}{t:Nat}{b:Bool}(hc:c= .tmp t)(he:s.env t=some (.bool b))(h1:b=true->AGo P x s Q)(h2:b=false->AGo P y s Q):AGo P (.cond c x y) s Q:=by
 intro H ι a w hs;subst hc;obtain⟨v,hv,hr⟩:=hs.env t _ he
 cases hr
 have hev:a.eval (.tmp t)= .bool b:=by simp[Act.eval,hv]
 exact wp_cond_split hev (fun e=>h1 e H ι a w hs) (fun e=>h2 e H ι a w hs)
theorem AGo.cond_true{t:Nat}{x y:Code}(b:Bool)(he:s.env t=some (.bool b))(hb:b=true)(h:AGo P x s Q):AGo P (.cond (.tmp t) x y) s Q:=
 AGo.cond rfl he (fun _=>h) (fun h2=>by rw[hb]at h2;cases h2)
theorem AGo.cond_false{t:Nat}{x y:Code}(b:Bool)(he:s.env t=some (.bool b))(hb:b=false)(h:AGo P y s Q):AGo P (.cond (.tmp t) x y) s Q:=
 AGo.cond rfl he (fun h2=>by rw[hb]at h2;cases h2) (fun _=>h)
def SF(id:Nat)(Q:Exit->Aj->Prop):Exit->Aj->Prop
  | .exit id',s=>bif Nat.beq id' id then Q .normal s else Q (.exit id') s
  | e,s=>Q e s
theorem AGo.block{id:Nat}{c:Code}(h:AGo P c s (SF id Q)):AGo P (.block id c) s Q:=by
 intro H ι a w hs;refine wp_block (wp_mono (h H ι a w hs) fun e a' w' hp=>?_);exact mw
theorem AGo.loop{γ:Type}{c:Code}(I:γ->Aj->Prop)(μ:γ->Nat)(g0:γ)(h0:I g0 s)
 (round: ∀g s,I g s->AGo P c s (Cb (fun s'=>∃g',I g' s'/\μ g'<μ g) Q)):AGo P (.loop c) s Q:=by
 intro H ι a w hs b k cs;have key: ∀n g s1 H1 ι1 a1 w1,μ g=n->I g s1->Sim H1 ι1 s1 a1 w1->Step H ι s.h w H1 ι1 s1.h w1->
  ∃e a' w',Post H ι s.h w Q e a' w'/\Arrives P (lone (b.at a1 (.code c:: .inLoop c::k)) cs w1) b k cs e a' w':=by
  intro n
  induction n using Nat.strongRecOn with
  | _ n ih=>
   intro g s1 H1 ι1 a1 w1 hn hI hs1 hst;obtain⟨e,a₂,w₂,hq,harr⟩:=round g s1 hI H1 ι1 a1 w1 hs1 b (.inLoop c::k) cs;obtain⟨s2,H2,ι2,q,r,t⟩:=hq;have t':=hst.trans hs.heap hs1.heap t
   cases e with
   | normal=>
    obtain⟨g',hI',hlt⟩:=q;obtain⟨e₂,a₃,w₃,hq₂,harr₂⟩:=ih (μ g') (hn▸hlt) g' s2 H2 ι2 a₂ w₂ rfl hI' r t';exact⟨e₂,a₃,w₃,hq₂,.of_steps (Steps.trans harr (.one step_inLoop)) harr₂⟩
   | exit id=>exact⟨_,a₂,w₂,⟨s2,H2,ι2,q,r,t'⟩,.pass (x:=.inLoop c) rfl (fun _ _=>.inl (by simp)) harr⟩
   | goto l=>exact⟨_,a₂,w₂,⟨s2,H2,ι2,q,r,t'⟩,.pass (x:=.inLoop c) rfl (fun _ _=>.inl (by simp)) harr⟩
   | ret=>exact⟨_,a₂,w₂,⟨s2,H2,ι2,q,r,t'⟩,.pass (x:=.inLoop c) rfl (fun _ _=>.inl (by simp)) harr⟩
   | panic ch=>exact⟨_,a₂,w₂,⟨s2,H2,ι2,q,r,t'⟩,.pass (x:=.inLoop c) rfl (fun _ _=>.inl (by simp)) harr⟩
   | outgrown=>exact⟨_,a₂,w₂,⟨s2,H2,ι2,q,r,t'⟩,.pass (x:=.inLoop c) rfl (fun _ _=>.inl (by simp)) harr⟩
 obtain⟨e,a',w',hq,harr⟩:=key _ g0 s H ι a w rfl h0 hs (Step.refl _ _ _ _);exact⟨e,a',w',hq,.of_steps (.one step_loop) harr⟩
def Sub(s s':Aj):Prop:=s.n=s'.n/\(∀t x,s.env t=some x->s'.env t=some x)/\(∀b o,s.h b=some o->s'.h b=some o)
theorem HeapRel.sub{H:Ay}{ι:Be}{h h':Ac}{w:World}(hr:HeapRel H ι h' w)(hs: ∀b o,h b=some o->h' b=some o):HeapRel H ι h w where
 know:=hr.know
 glob:=hr.glob
 free:=fun b e=>hr.free b (hs _ _ e)
 obj:=fun b o e ea=>hr.obj b o (hs _ _ e) ea
 inj:=fun b b' o o' r r' h1 h2 h3 h4=>hr.inj b b' o o' r r' (hs _ _ h1) h2 (hs _ _ h3) h4
theorem Sim.sub{H:Ay}{ι:Be}{s s':Aj}{a:Act}{w:World}(h:Sim H ι s' a w)(hs:Sub s s'):Sim H ι s a w where
 n:=h.n.trans hs.1.symm
 d:=h.d
 env:=fun t x e=>h.env t x (hs.2.1 t x e)
 heap:=h.heap.sub hs.2.2
end
end Go.Proofs.YtbbfelelocccmaaGreat.Sv
namespace Go.Proofs.YtbbfelelocccmaaGreat.Sv
open Go
inductive TK where
  | bool | int (k:IntKind) | string | slice (e:Nat) | struct (fs:List (Nat×Nat)) | array (n e:Nat) | ptr (e:Nat) | map (k e:Nat) | fn | other
structure Ar where
  k:TK
  size:Nat
  bytes:Nat
  zero:List AV
def I1:Value->Option AV
  | .bool b=>some (.bool b)
  | .int k n=>some (.int k n)
  | .string s=>some (.str s)
  | .slice none 0 0=>some .nil
  | .pointer none=>some .nilp
  | .nilFunc=>some (.val .nilFunc)
  | .nilIface=>some (.val .nilIface)
  | .map none=>some (.val (.map none))
  | _=>none
def JU:List Value->Option (List AV)
  | []=>some []
  | v::vs=>match I1 v,JU vs with
    | some x,some xs=>some (x::xs)
    | _,_=>none
def GZ(P:Program):TypeDesc->TK
  | .bool=>.bool
  | .int k=>.int k
  | .string=>.string
  | .slice e=>.slice e
  | .struct fs=>bif fs.all (fun f=>P.cellsOf f.type !=0)then .struct (fs.toList.map fun f=>(f.offset,f.type))else .other
  | .array n e=>.array n e
  | .pointer e=>.ptr e
  | .map k e=>.map k e
  | .func .. =>.fn
  | _=>.other
def Ys(P:Program)(t:Nat):Option Ar:=
  match P.info? t,P.underlying t with
  | some i,some d=>some {k:=GZ P d,size:=i.size,bytes:=i.bytes,zero:=((i.zero.bind fun z=>JU z.cells.toList).getD [])}
  | _,_=>none
def Cj(P:Program)(T:Nat->Option Ar):Prop:=∀t i,T t=some i->Ys P t=some i
theorem Kg{H:Ay}{ι:Be}{v:Value}{x:AV}(h:I1 v=some x):Rel H ι x v:=by
 unfold I1 at h;split at h<;>simp at h<;>subst h
 . exact .bool _ _
 . exact .int _ _ _
 . exact .str _ _
 . exact .nil _
 . exact .nilp _
 . exact .val _ _ rfl
 . exact .val _ _ rfl
 . exact .val _ _ rfl
theorem Dw{H:Ay}{ι:Be}: ∀{vs:List Value} {xs:List AV},JU vs=some xs->xs.length=vs.length/\∀(j:Nat) (x:AV) (v:Value),xs[j]?=some x->vs[j]?=some v->Rel H ι x v
 | [],xs,h=>by
  simp[JU]at h;subst h;exact⟨rfl,fun j x v h1=>by simp at h1⟩
 | v::vs,xs,h=>by
  unfold JU at h;split at h
  . rename_i x ys h1 h2;simp at h;subst h;have ih:=Dw (H:=H) (ι:=ι) h2;refine⟨by simp[ih.1],fun j y u e1 e2=>?_⟩
    cases j with
    | zero=>simp at e1 e2;subst e1;subst e2;exact Kg h1
    | succ j=>simp at e1 e2;exact ih.2 j y u e1 e2
  . cases h
theorem Ai{P:Program}{t:Nat}{i:Ar}(h:Ys P t=some i): ∃info d,P.info? t=some info/\P.underlying t=some d/\i.k=GZ P d/\info.size=i.size/\info.bytes=i.bytes/\
 i.zero=((info.zero.bind fun z=>JU z.cells.toList).getD []):=by
 unfold Ys at h;split at h
 . rename_i info d h1 h2;simp at h;subst h;exact⟨info,d,h1,h2,rfl,rfl,rfl,rfl⟩
 . cases h
theorem DZ{info:TypeInfo}{i:Ar}(hz:i.zero=((info.zero.bind fun z=>JU z.cells.toList).getD []))(hl:i.zero.length=i.size)(hp:0<i.size):
 ∃z,info.zero=some z/\JU z.cells.toList=some i.zero:=by
 cases e:info.zero with
 | none=>rw[e]at hz;simp at hz;rw[hz]at hl;simp at hl;omega
 | some z=>
  rw[e]at hz;simp only[Option.bind_some]at hz
  cases e2:JU z.cells.toList with
  | none=>rw[e2]at hz;simp at hz;rw[hz]at hl;simp at hl;omega
  | some xs=>rw[e2]at hz;simp at hz;exact⟨z,rfl,by rw[e2,hz]⟩
def Sp:Value->Option AV
  | .agg cs=>match JU cs.toList with
    | some xs=>some (.agg xs)
    | none=>none
  | v=>I1 v
theorem UK{H:Ay}{ι:Be}{v:Value}{x:AV}(h:Sp v=some x):Rel H ι x v:=by
 unfold Sp at h;split at h
 . rename_i cs;split at h
   . rename_i xs e;simp at h;subst h;have:=Dw (H:=H) (ι:=ι) e;exact .agg _ _ _ (by simpa using this.1) (fun j x v h1 h2=>this.2 j x v h1 (by simpa using h2))
   . cases h
 . exact Kg h
def Al(env:Av):Operand->Option AV
  | .tmp t=>env t
  | .const v=>Sp v
  | .func f=>some (.fn (.func f) [] [])
  | .global g=>(jl g).map dO
theorem Am{H:Ay}{ι:Be}{s:Aj}{a:Act}{w:World}(hs:Sim H ι s a w){o:Operand}{x:AV}(h:Al s.env o=some x):Rel H ι x (a.eval o):=by
 cases o with
 | tmp t=>
  obtain⟨v,hv,hr⟩:=hs.env t x h;simpa[Act.eval,hv]using hr
 | const v=>exact UK h
 | func f=>
  simp only[Al,Option.some.injEq]at h;subst h;exact .fn _ _ _ _ _ _ rfl rfl (fun j x v h1=>by simp at h1) (fun j x v h1=>by simp at h1)
 | global g=>
  simp only[Al,Option.map_eq_some_iff]at h;obtain⟨l,hl,rfl⟩:=h;exact(hs.heap.glob g l hl).mono (KLe.refl _) (LLe.none ι)
def Bm(op:BinOp)(k:IntKind)(a b:Int):Option AV:=
  match op with
  | .add=>some (.int k (k.wrap (a+b)))
  | .sub=>some (.int k (k.wrap (a-b)))
  | .mul=>some (.int k (k.wrap (a*b)))
  | .quo=>if b=0 then none else some (.int k (k.wrap (a.tdiv b)))
  | .rem=>if b=0 then none else some (.int k (a.tmod b))
  | .and=>some (.int k (k.wrap ((BitVec.ofInt k.bits a&&&BitVec.ofInt k.bits b).toNat)))
  | .or=>some (.int k (k.wrap ((BitVec.ofInt k.bits a|||BitVec.ofInt k.bits b).toNat)))
  | .xor=>some (.int k (k.wrap ((BitVec.ofInt k.bits a^^^BitVec.ofInt k.bits b).toNat)))
  | .andNot=>some (.int k (k.wrap ((BitVec.ofInt k.bits a&&& ~~~BitVec.ofInt k.bits b).toNat)))
  | .shl=>if b<0 then none else some (.int k (k.wrap (a*2^(min b.toNat k.bits))))
  | .shr=>if b<0 then none else some (.int k (a.fdiv (2^(min b.toNat k.bits))))
  | .eql=>some (.bool (a==b))
  | .neq=>some (.bool (a !=b))
  | .lss=>some (.bool (decide (a<b)))
  | .leq=>some (.bool (decide (a<=b)))
  | .gtr=>some (.bool (decide (a>b)))
  | .geq=>some (.bool (decide (a>=b)))
def isShift:BinOp->Bool
  | .shl | .shr=>true
  | _=>false
def Si:AV->AV->Option Bool
  | .int k a,.int k' b=>if k=k' then some (a==b)else none
  | .bool a,.bool b=>some (a==b)
  | .str a,.str b=>some (a.toList==b.toList)
  | _,_=>none
def eqCells:List AV->List AV->Option Bool
  | [],[]=>some true
  | x::xs,y::ys=>match Si x y,eqCells xs ys with
    | some p,some q=>some (p&&q)
    | _,_=>none
  | _,_=>none
def AI(op:BinOp)(x y:AV):Option AV:=
  match x,y with
  | .int k a,.int k' b=>bif isShift op then Bm op k a b else if k=k' then Bm op k a b else none
  | .str a,.str b=>match op with
    | .eql=>some (.bool (a.toList==b.toList))
    | .neq=>some (.bool (!(a.toList==b.toList)))
    | _=>none
  | _,_=>none
theorem Tg{P:Program}{w:World}{H:Ay}{ι:Be}{op:BinOp}{T:TypeId}{k k':IntKind}{a b:Int}{r:AV}(hk:isShift op=true\/k=k')(h:Bm op k a b=some r):
 ∃v,Rel H ι r v/\(binOp op T (.int k a) (.int k' b)).run P w= .ok v w:=by
 cases op<;>simp only[Bm,Option.some.injEq]at h
 case quo=>split at h;cases h;(rename_i hb;rcases hk with hk | rfl;· cases hk);simp at h;subst h;exact⟨_,.int _ _ _,by simp[binOp,Op.intDiv,hb]⟩
 case rem=>split at h;cases h;(rename_i hb;rcases hk with hk | rfl;· cases hk);simp at h;subst h;exact⟨_,.int _ _ _,by simp[binOp,Op.intDiv,hb]⟩
 case shl=>split at h;cases h;rename_i hb;simp at h;subst h;exact⟨_,.int _ _ _,by simp[binOp,Op.shift,hb]⟩
 case shr=>split at h;cases h;rename_i hb;simp at h;subst h;exact⟨_,.int _ _ _,by simp[binOp,Op.shift,hb]⟩
 all_goals
  rcases hk with hk | rfl
  . cases hk
  subst h
  first
   | exact⟨_,.int _ _ _,by simp[binOp,Op.intArith,Op.intBits,Op.intCmp]⟩
   | exact⟨_,.bool _ _,by simp[binOp,Op.intArith,Op.intBits,Op.intCmp]⟩
theorem Th{P:Program}{w:World}{H:Ay}{ι:Be}{op:BinOp}{T:TypeId}{xo yo:Operand}{x y r:AV}{u v:Value}(hx:Rel H ι x u)(hy:Rel H ι y v)(h:AI op x y=some r):
 ∃z,Rel H ι r z/\(do eqGuard op T xo yo u v;binOp op T u v:Sem Value).run P w= .ok z w:=by
 unfold AI at h;split at h
 . rename_i k a k' b
   cases hx;cases hy
   have hk:(isShift op=true\/k=k')/\Bm op k a b=some r:=by
    cases e:isShift op with
    | true=>rw[e]at h;exact⟨.inl rfl,h⟩
    | false=>
     rw[e]at h;simp only[cond_false]at h;split at h
     . exact⟨.inr (by assumption),h⟩
     . cases h
   obtain⟨z,h1,h2⟩:=Tg (P:=P) (w:=w) (H:=H) (ι:=ι) (T:=T) hk.1 hk.2;refine⟨z,h1,?_⟩;have hg:(eqGuard op T xo yo (.int k a) (.int k' b)).run P w= .ok () w:=by unfold eqGuard;cases op<;>simp
   rw[Sem.run_bind,hg];exact h2
 . rename_i a b
   cases hx;cases hy
   have hg:(eqGuard op T xo yo (.string a) (.string b)).run P w= .ok () w:=by unfold eqGuard;cases op<;>simp
   split at h
   . simp at h;subst h;exact⟨_,.bool _ _,by rw[Sem.run_bind,hg,Result.andThen_ok,binOp_string_eql];rfl⟩
   . simp at h;subst h;exact⟨_,.bool _ _,by rw[Sem.run_bind,hg,Result.andThen_ok,binOp_string_neq];rfl⟩
   . cases h
 . cases h
end Go.Proofs.YtbbfelelocccmaaGreat.Sv
