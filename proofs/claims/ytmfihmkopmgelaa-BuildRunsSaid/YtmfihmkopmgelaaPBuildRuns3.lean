/-
  THE TYPES OF THE PROGRAM, WRITTEN OUT: printed by a program of our own.
-/
import Derived.Test.YtmfihmkopmgelaaPBuildRuns1
import Derived.Test.YtmfihmkopmgelaaProg
import Derived.KernelRfl
import Derived.Test.YtmfihmkopmgelaaPBuildRuns2
import Derived.Scope
import Derived.Lib.SliceRun
import Derived.Laws.BytesString
import Derived.Lib.ConvBytes
import Derived.WideKeyRuns
import Derived.ProofKit
import Derived.OpenShut
import Derived.SizedLaws
import Derived.Test.YtmfihmkopmgelaaRows
set_option linter.unusedVariables false
set_option linter.unusedSimpArgs false
set_option maxRecDepth 100000
set_option maxHeartbeats 2000000
namespace Go.Proofs.Ytmfihmkopmgelaa.Sv
open Go
abbrev fM : AC := ⟨.other, 1, 0, []⟩
abbrev fL : AC := ⟨.fn, 1, 8, [.val .nilFunc]⟩
abbrev fK : AC := ⟨.int .i64, 1, 8, [.int .i64 0]⟩
abbrev fJ : AC := ⟨.int .i64, 1, 8, [.int .i64 0]⟩
abbrev fI : AC := ⟨.bool, 1, 1, [.bool false]⟩
abbrev fH : AC := ⟨.int .u8, 1, 1, [.int .u8 0]⟩
abbrev fG : AC := ⟨.int .u8, 1, 1, [.int .u8 0]⟩
abbrev fF : AC := ⟨.struct [(0, 2), (1, 3), (2, 4), (3, 6)], 4, 24, [.int .i64 0, .int .i64 0, .bool false, .int .u8 0]⟩
abbrev fD : AC := ⟨.struct [(0, 2), (1, 3), (2, 4), (3, 6)], 4, 24, [.int .i64 0, .int .i64 0, .bool false, .int .u8 0]⟩
abbrev fB : AC := ⟨.string, 1, 16, [.str ⟨#[]⟩]⟩
abbrev eZ : AC := ⟨.string, 1, 16, [.str ⟨#[]⟩]⟩
abbrev eY : AC := ⟨.string, 1, 16, [.str ⟨#[]⟩]⟩
abbrev eX : AC := ⟨.int .u64, 1, 8, [.int .u64 0]⟩
abbrev eW : AC := ⟨.struct [(0, 9), (1, 12)], 2, 24, [.str ⟨#[]⟩, .int .u64 0]⟩
abbrev eV : AC := ⟨.struct [(0, 9), (1, 12)], 2, 24, [.str ⟨#[]⟩, .int .u64 0]⟩
abbrev eU : AC := ⟨.ptr 153, 1, 8, [.nilp]⟩
abbrev eT : AC := ⟨.ptr 156, 1, 8, [.nilp]⟩
abbrev eS : AC := ⟨.ptr 164, 1, 8, [.nilp]⟩
abbrev eR : AC := ⟨.struct [(0, 17)], 1, 8, [.nilp]⟩
abbrev eQ : AC := ⟨.struct [(0, 17)], 1, 8, [.nilp]⟩
abbrev eP : AC := ⟨.other, 1, 16, [.val .nilIface]⟩
abbrev eO : AC := ⟨.int .i32, 1, 4, [.int .i32 0]⟩
abbrev eN : AC := ⟨.slice 50, 1, 24, [.nil]⟩
abbrev eM : AC := ⟨.struct [(0, 3), (1, 22)], 2, 32, [.int .i64 0, .nil]⟩
abbrev eJ : AC := ⟨.struct [(0, 3), (1, 22)], 2, 32, [.int .i64 0, .nil]⟩
abbrev eI : AC := ⟨.fn, 1, 8, [.val .nilFunc]⟩
abbrev eH : AC := ⟨.fn, 1, 8, [.val .nilFunc]⟩
abbrev eG : AC := ⟨.slice 70, 1, 24, [.nil]⟩
abbrev eF : AC := ⟨.struct [(0, 3), (1, 27)], 2, 32, [.int .i64 0, .nil]⟩
abbrev eE : AC := ⟨.struct [(0, 3), (1, 27)], 2, 32, [.int .i64 0, .nil]⟩
abbrev eD : AC := ⟨.fn, 1, 8, [.val .nilFunc]⟩
abbrev eC : AC := ⟨.fn, 1, 8, [.val .nilFunc]⟩
abbrev eA : AC := ⟨.struct [(0, 3), (1, 9), (2, 3)], 3, 32, [.int .i64 0, .str ⟨#[]⟩, .int .i64 0]⟩
abbrev ey : AC := ⟨.struct [(0, 3), (1, 9), (2, 3)], 3, 32, [.int .i64 0, .str ⟨#[]⟩, .int .i64 0]⟩
abbrev ew : AC := ⟨.fn, 1, 8, [.val .nilFunc]⟩
abbrev er : AC := ⟨.fn, 1, 8, [.val .nilFunc]⟩
abbrev ep : AC := ⟨.fn, 1, 8, [.val .nilFunc]⟩
abbrev eo : AC := ⟨.fn, 1, 8, [.val .nilFunc]⟩
abbrev el : AC := ⟨.fn, 1, 8, [.val .nilFunc]⟩
abbrev ej : AC := ⟨.fn, 1, 8, [.val .nilFunc]⟩
abbrev eh : AC := ⟨.int .u32, 1, 4, [.int .u32 0]⟩
abbrev ec : AC := ⟨.slice 43, 1, 24, [.nil]⟩
abbrev d9 : AC := ⟨.struct [(0, 3), (1, 3), (2, 40), (3, 3), (4, 3), (5, 41)], 6, 64, [.int .i64 0, .int .i64 0, .int .u32 0, .int .i64 0, .int .i64 0, .nil]⟩
abbrev d8 : AC := ⟨.struct [(0, 3), (1, 3), (2, 40), (3, 3), (4, 3), (5, 41)], 6, 64, [.int .i64 0, .int .i64 0, .int .u32 0, .int .i64 0, .int .i64 0, .nil]⟩
abbrev d6 : AC := ⟨.fn, 1, 8, [.val .nilFunc]⟩
abbrev d5 : AC := ⟨.slice 47, 1, 24, [.nil]⟩
abbrev d4 : AC := ⟨.struct [(0, 3), (1, 3), (2, 3), (3, 41), (4, 45), (5, 45)], 6, 96, [.int .i64 0, .int .i64 0, .int .i64 0, .nil, .nil, .nil]⟩
abbrev dZ : AC := ⟨.struct [(0, 3), (1, 3), (2, 3), (3, 41), (4, 45), (5, 45)], 6, 96, [.int .i64 0, .int .i64 0, .int .i64 0, .nil, .nil, .nil]⟩
abbrev dY : AC := ⟨.fn, 1, 8, [.val .nilFunc]⟩
abbrev dX : AC := ⟨.struct [(0, 3), (1, 3), (2, 3), (3, 4), (4, 45)], 5, 56, [.int .i64 0, .int .i64 0, .int .i64 0, .bool false, .nil]⟩
abbrev dW : AC := ⟨.struct [(0, 3), (1, 3), (2, 3), (3, 4), (4, 45)], 5, 56, [.int .i64 0, .int .i64 0, .int .i64 0, .bool false, .nil]⟩
abbrev dV : AC := ⟨.slice 5, 1, 24, [.nil]⟩
abbrev dU : AC := ⟨.fn, 1, 8, [.val .nilFunc]⟩
abbrev dT : AC := ⟨.fn, 1, 8, [.val .nilFunc]⟩
abbrev dS : AC := ⟨.fn, 1, 8, [.val .nilFunc]⟩
abbrev dR : AC := ⟨.fn, 1, 8, [.val .nilFunc]⟩
abbrev dP : AC := ⟨.other, 1, 0, []⟩
abbrev dO : AC := ⟨.fn, 1, 8, [.val .nilFunc]⟩
abbrev dN : AC := ⟨.fn, 1, 8, [.val .nilFunc]⟩
abbrev dM : AC := ⟨.fn, 1, 8, [.val .nilFunc]⟩
abbrev dL : AC := ⟨.fn, 1, 8, [.val .nilFunc]⟩
abbrev dK : AC := ⟨.fn, 1, 8, [.val .nilFunc]⟩
abbrev dJ : AC := ⟨.ptr 65, 1, 8, [.nilp]⟩
abbrev dI : AC := ⟨.slice 101, 1, 24, [.nil]⟩
abbrev dH : AC := ⟨.struct [(0, 22), (1, 3), (2, 4), (3, 3), (4, 63), (5, 3)], 6, 80, [.nil, .int .i64 0, .bool false, .int .i64 0, .nil, .int .i64 0]⟩
abbrev dG : AC := ⟨.struct [(0, 22), (1, 3), (2, 4), (3, 3), (4, 63), (5, 3)], 6, 80, [.nil, .int .i64 0, .bool false, .int .i64 0, .nil, .int .i64 0]⟩
abbrev dF : AC := ⟨.fn, 1, 8, [.val .nilFunc]⟩
abbrev dE : AC := ⟨.fn, 1, 8, [.val .nilFunc]⟩
abbrev dD : AC := ⟨.fn, 1, 8, [.val .nilFunc]⟩
abbrev dC : AC := ⟨.struct [(0, 3), (1, 63)], 2, 32, [.int .i64 0, .nil]⟩
abbrev dB : AC := ⟨.struct [(0, 3), (1, 63)], 2, 32, [.int .i64 0, .nil]⟩
abbrev dA : AC := ⟨.fn, 1, 8, [.val .nilFunc]⟩
abbrev dz : AC := ⟨.ptr 75, 1, 8, [.nilp]⟩
abbrev dy : AC := ⟨.slice 40, 1, 24, [.nil]⟩
abbrev dw : AC := ⟨.struct [(0, 24), (2, 73), (3, 9), (4, 3), (5, 51), (6, 3), (7, 3), (8, 3), (9, 4), (10, 40)], 11, 136, [.int .i64 0, .nil, .nil, .str ⟨#[]⟩, .int .i64 0, .nil, .int .i64 0, .int .i64 0, .int .i64 0, .bool false, .int .u32 0]⟩
abbrev dv : AC := ⟨.struct [(0, 24), (2, 73), (3, 9), (4, 3), (5, 51), (6, 3), (7, 3), (8, 3), (9, 4), (10, 40)], 11, 136, [.int .i64 0, .nil, .nil, .str ⟨#[]⟩, .int .i64 0, .nil, .int .i64 0, .int .i64 0, .int .i64 0, .bool false, .int .u32 0]⟩
abbrev dt : AC := ⟨.ptr 78, 1, 8, [.nilp]⟩
abbrev dr : AC := ⟨.struct [(0, 29), (2, 9), (3, 3), (4, 73), (5, 51), (6, 3), (7, 3), (8, 3)], 9, 128, [.int .i64 0, .nil, .str ⟨#[]⟩, .int .i64 0, .nil, .nil, .int .i64 0, .int .i64 0, .int .i64 0]⟩
abbrev dp : AC := ⟨.struct [(0, 29), (2, 9), (3, 3), (4, 73), (5, 51), (6, 3), (7, 3), (8, 3)], 9, 128, [.int .i64 0, .nil, .str ⟨#[]⟩, .int .i64 0, .nil, .nil, .int .i64 0, .int .i64 0, .int .i64 0]⟩
abbrev dj : AC := ⟨.fn, 1, 8, [.val .nilFunc]⟩
abbrev dh : AC := ⟨.fn, 1, 8, [.val .nilFunc]⟩
abbrev dg : AC := ⟨.fn, 1, 8, [.val .nilFunc]⟩
abbrev de : AC := ⟨.fn, 1, 8, [.val .nilFunc]⟩
abbrev dd : AC := ⟨.ptr 85, 1, 8, [.nilp]⟩
abbrev dc : AC := ⟨.struct [(0, 22), (1, 73), (2, 9), (3, 3), (4, 51), (5, 3), (6, 3)], 7, 112, [.nil, .nil, .str ⟨#[]⟩, .int .i64 0, .nil, .int .i64 0, .int .i64 0]⟩
abbrev db : AC := ⟨.struct [(0, 22), (1, 73), (2, 9), (3, 3), (4, 51), (5, 3), (6, 3)], 7, 112, [.nil, .nil, .str ⟨#[]⟩, .int .i64 0, .nil, .int .i64 0, .int .i64 0]⟩
abbrev cZ : AC := ⟨.struct [(0, 3)], 1, 8, [.int .i64 0]⟩
abbrev cY : AC := ⟨.struct [(0, 3)], 1, 8, [.int .i64 0]⟩
abbrev cX : AC := ⟨.other, 1, 0, []⟩
abbrev cW : AC := ⟨.fn, 1, 8, [.val .nilFunc]⟩
abbrev cV : AC := ⟨.ptr 93, 1, 8, [.nilp]⟩
abbrev cU : AC := ⟨.slice 73, 1, 24, [.nil]⟩
abbrev cS : AC := ⟨.struct [(0, 27), (1, 73), (2, 91), (3, 9), (4, 3), (5, 51)], 6, 120, [.nil, .nil, .nil, .str ⟨#[]⟩, .int .i64 0, .nil]⟩
abbrev cR : AC := ⟨.struct [(0, 27), (1, 73), (2, 91), (3, 9), (4, 3), (5, 51)], 6, 120, [.nil, .nil, .nil, .str ⟨#[]⟩, .int .i64 0, .nil]⟩
abbrev cQ : AC := ⟨.struct [(0, 3), (1, 3), (2, 3), (3, 73)], 4, 48, [.int .i64 0, .int .i64 0, .int .i64 0, .nil]⟩
abbrev cP : AC := ⟨.struct [(0, 3), (1, 3), (2, 3), (3, 73)], 4, 48, [.int .i64 0, .int .i64 0, .int .i64 0, .nil]⟩
abbrev cO : AC := ⟨.fn, 1, 8, [.val .nilFunc]⟩
abbrev cN : AC := ⟨.slice 95, 1, 24, [.nil]⟩
abbrev cM : AC := ⟨.ptr 101, 1, 8, [.nilp]⟩
abbrev cL : AC := ⟨.slice 104, 1, 24, [.nil]⟩
abbrev bu : AC := ⟨.struct [(0, 99), (1, 3), (2, 3), (3, 3), (4, 3)], 5, 56, [.nil, .int .i64 0, .int .i64 0, .int .i64 0, .int .i64 0]⟩
abbrev bt : AC := ⟨.struct [(0, 99), (1, 3), (2, 3), (3, 3), (4, 3)], 5, 56, [.nil, .int .i64 0, .int .i64 0, .int .i64 0, .int .i64 0]⟩
abbrev bs : AC := ⟨.ptr 104, 1, 8, [.nilp]⟩
abbrev br : AC := ⟨.struct [(0, 3), (1, 3), (2, 3), (3, 3), (4, 3), (5, 3), (6, 3), (7, 40)], 8, 64, [.int .i64 0, .int .i64 0, .int .i64 0, .int .i64 0, .int .i64 0, .int .i64 0, .int .i64 0, .int .u32 0]⟩
abbrev bq : AC := ⟨.struct [(0, 3), (1, 3), (2, 3), (3, 3), (4, 3), (5, 3), (6, 3), (7, 40)], 8, 64, [.int .i64 0, .int .i64 0, .int .i64 0, .int .i64 0, .int .i64 0, .int .i64 0, .int .i64 0, .int .u32 0]⟩
abbrev bp : AC := ⟨.fn, 1, 8, [.val .nilFunc]⟩
abbrev bo : AC := ⟨.fn, 1, 8, [.val .nilFunc]⟩
abbrev bn : AC := ⟨.fn, 1, 8, [.val .nilFunc]⟩
abbrev bm : AC := ⟨.fn, 1, 8, [.val .nilFunc]⟩
abbrev bl : AC := ⟨.fn, 1, 8, [.val .nilFunc]⟩
abbrev bk : AC := ⟨.fn, 1, 8, [.val .nilFunc]⟩
abbrev bh : AC := ⟨.ptr 47, 1, 8, [.nilp]⟩
abbrev bg : AC := ⟨.fn, 1, 8, [.val .nilFunc]⟩
abbrev be : AC := ⟨.fn, 1, 8, [.val .nilFunc]⟩
abbrev bd : AC := ⟨.fn, 1, 8, [.val .nilFunc]⟩
abbrev bb : AC := ⟨.fn, 1, 8, [.val .nilFunc]⟩
abbrev ba : AC := ⟨.fn, 1, 8, [.val .nilFunc]⟩
abbrev a9 : AC := ⟨.fn, 1, 8, [.val .nilFunc]⟩
abbrev aZ : AC := ⟨.fn, 1, 8, [.val .nilFunc]⟩
abbrev aY : AC := ⟨.int .i64, 1, 8, [.int .i64 0]⟩
abbrev aX : AC := ⟨.other, 1, 0, []⟩
abbrev aW : AC := ⟨.fn, 1, 8, [.val .nilFunc]⟩
abbrev aV : AC := ⟨.int .u64, 1, 8, [.int .u64 0]⟩
abbrev aU : AC := ⟨.fn, 1, 8, [.val .nilFunc]⟩
abbrev aT : AC := ⟨.fn, 1, 8, [.val .nilFunc]⟩
abbrev aS : AC := ⟨.fn, 1, 8, [.val .nilFunc]⟩
abbrev aR : AC := ⟨.fn, 1, 8, [.val .nilFunc]⟩
abbrev aP : AC := ⟨.fn, 1, 8, [.val .nilFunc]⟩
abbrev aO : AC := ⟨.ptr 43, 1, 8, [.nilp]⟩
abbrev aN : AC := ⟨.fn, 1, 8, [.val .nilFunc]⟩
abbrev aM : AC := ⟨.fn, 1, 8, [.val .nilFunc]⟩
abbrev aL : AC := ⟨.fn, 1, 8, [.val .nilFunc]⟩
abbrev aK : AC := ⟨.slice 3, 1, 24, [.nil]⟩
abbrev aJ : AC := ⟨.fn, 1, 8, [.val .nilFunc]⟩
abbrev aI : AC := ⟨.fn, 1, 8, [.val .nilFunc]⟩
abbrev aH : AC := ⟨.fn, 1, 8, [.val .nilFunc]⟩
abbrev aG : AC := ⟨.fn, 1, 8, [.val .nilFunc]⟩
abbrev aF : AC := ⟨.fn, 1, 8, [.val .nilFunc]⟩
abbrev aE : AC := ⟨.fn, 1, 8, [.val .nilFunc]⟩
abbrev aD : AC := ⟨.fn, 1, 8, [.val .nilFunc]⟩
abbrev aC : AC := ⟨.fn, 1, 8, [.val .nilFunc]⟩
abbrev aB : AC := ⟨.fn, 1, 8, [.val .nilFunc]⟩
abbrev aA : AC := ⟨.fn, 1, 8, [.val .nilFunc]⟩
abbrev az : AC := ⟨.fn, 1, 8, [.val .nilFunc]⟩
abbrev ay : AC := ⟨.fn, 1, 8, [.val .nilFunc]⟩
abbrev aw : AC := ⟨.fn, 1, 8, [.val .nilFunc]⟩
abbrev av : AC := ⟨.array 6 40, 6, 24, [.int .u32 0, .int .u32 0, .int .u32 0, .int .u32 0, .int .u32 0, .int .u32 0]⟩
abbrev au : AC := ⟨.ptr 50, 1, 8, [.nilp]⟩
abbrev ap : AC := ⟨.fn, 1, 8, [.val .nilFunc]⟩
abbrev aj : AC := ⟨.fn, 1, 8, [.val .nilFunc]⟩
abbrev ai : AC := ⟨.fn, 1, 8, [.val .nilFunc]⟩
abbrev ah : AC := ⟨.fn, 1, 8, [.val .nilFunc]⟩
abbrev ag : AC := ⟨.struct [(0, 17), (1, 17), (2, 17), (3, 9)], 4, 40, [.nilp, .nilp, .nilp, .str ⟨#[]⟩]⟩
abbrev ae : AC := ⟨.struct [(0, 17), (1, 17), (2, 17), (3, 9)], 4, 40, [.nilp, .nilp, .nilp, .str ⟨#[]⟩]⟩
abbrev Z9 : AC := ⟨.array 0 16, 0, 0, []⟩
abbrev Z8 : AC := ⟨.other, 0, 0, []⟩
abbrev Z7 : AC := ⟨.other, 0, 0, []⟩
abbrev Z6 : AC := ⟨.int .u8, 1, 1, [.int .u8 0]⟩
abbrev Z5 : AC := ⟨.int .u8, 1, 1, [.int .u8 0]⟩
abbrev Z4 : AC := ⟨.fn, 1, 8, [.val .nilFunc]⟩
abbrev Z3 : AC := ⟨.ptr 5, 1, 8, [.nilp]⟩
abbrev Z2 : AC := ⟨.int .i32, 1, 4, [.int .i32 0]⟩
abbrev Z1 : AC := ⟨.int .i32, 1, 4, [.int .i32 0]⟩
abbrev Z0 : AC := ⟨.struct [(0, 12), (1, 12), (2, 40), (3, 157), (4, 5), (5, 5), (6, 158), (7, 159), (8, 160), (9, 161), (10, 162)], 11, 48, [.int .u64 0, .int .u64 0, .int .u32 0, .int .u8 0, .int .u8 0, .int .u8 0, .int .u8 0, .val .nilFunc, .nilp, .int .i32 0, .int .i32 0]⟩
abbrev ZZ : AC := ⟨.struct [(0, 12), (1, 12), (2, 40), (3, 157), (4, 5), (5, 5), (6, 158), (7, 159), (8, 160), (9, 161), (10, 162)], 11, 48, [.int .u64 0, .int .u64 0, .int .u32 0, .int .u8 0, .int .u8 0, .int .u8 0, .int .u8 0, .val .nilFunc, .nilp, .int .i32 0, .int .i32 0]⟩
abbrev ZY : AC := ⟨.other, 1, 8, [.nilp]⟩
def TI (t : Nat) : Option AC := bif Nat.blt t 166 then (bif Nat.blt t 83 then (bif Nat.blt t 41 then (bif Nat.blt t 20 then (bif Nat.blt t 10 then (bif Nat.blt t 5 then (bif Nat.blt t 2 then (bif Nat.blt t 1 then some fM else some fL) else (bif Nat.blt t 3 then some fK else (bif Nat.blt t 4 then some fJ else some fI))) else (bif Nat.blt t 7 then (bif Nat.blt t 6 then some fH else some fG) else (bif Nat.blt t 8 then some fF else (bif Nat.blt t 9 then some fD else some fB)))) else (bif Nat.blt t 15 then (bif Nat.blt t 12 then (bif Nat.blt t 11 then some eZ else some eY) else (bif Nat.blt t 13 then some eX else (bif Nat.blt t 14 then some eW else some eV))) else (bif Nat.blt t 17 then (bif Nat.blt t 16 then some eU else some eT) else (bif Nat.blt t 18 then some eS else (bif Nat.blt t 19 then some eR else some eQ))))) else (bif Nat.blt t 30 then (bif Nat.blt t 25 then (bif Nat.blt t 22 then (bif Nat.blt t 21 then some eP else some eO) else (bif Nat.blt t 23 then some eN else (bif Nat.blt t 24 then some eM else some eJ))) else (bif Nat.blt t 27 then (bif Nat.blt t 26 then some eI else some eH) else (bif Nat.blt t 28 then some eG else (bif Nat.blt t 29 then some eF else some eE)))) else (bif Nat.blt t 35 then (bif Nat.blt t 32 then (bif Nat.blt t 31 then some eD else some eC) else (bif Nat.blt t 33 then some eA else (bif Nat.blt t 34 then some ey else some ew))) else (bif Nat.blt t 38 then (bif Nat.blt t 36 then some er else (bif Nat.blt t 37 then some ep else some eo)) else (bif Nat.blt t 39 then some el else (bif Nat.blt t 40 then some ej else some eh)))))) else (bif Nat.blt t 62 then (bif Nat.blt t 51 then (bif Nat.blt t 46 then (bif Nat.blt t 43 then (bif Nat.blt t 42 then some ec else some d9) else (bif Nat.blt t 44 then some d8 else (bif Nat.blt t 45 then some d6 else some d5))) else (bif Nat.blt t 48 then (bif Nat.blt t 47 then some d4 else some dZ) else (bif Nat.blt t 49 then some dY else (bif Nat.blt t 50 then some dX else some dW)))) else (bif Nat.blt t 56 then (bif Nat.blt t 53 then (bif Nat.blt t 52 then some dV else some dU) else (bif Nat.blt t 54 then some dT else (bif Nat.blt t 55 then some dS else some dR))) else (bif Nat.blt t 59 then (bif Nat.blt t 57 then some dP else (bif Nat.blt t 58 then some dO else some dN)) else (bif Nat.blt t 60 then some dM else (bif Nat.blt t 61 then some dL else some dK))))) else (bif Nat.blt t 72 then (bif Nat.blt t 67 then (bif Nat.blt t 64 then (bif Nat.blt t 63 then some dJ else some dI) else (bif Nat.blt t 65 then some dH else (bif Nat.blt t 66 then some dG else some dF))) else (bif Nat.blt t 69 then (bif Nat.blt t 68 then some dE else some dD) else (bif Nat.blt t 70 then some dC else (bif Nat.blt t 71 then some dB else some dA)))) else (bif Nat.blt t 77 then (bif Nat.blt t 74 then (bif Nat.blt t 73 then some dz else some dy) else (bif Nat.blt t 75 then some dw else (bif Nat.blt t 76 then some dv else some dt))) else (bif Nat.blt t 80 then (bif Nat.blt t 78 then some dr else (bif Nat.blt t 79 then some dp else some dj)) else (bif Nat.blt t 81 then some dh else (bif Nat.blt t 82 then some dg else some de))))))) else (bif Nat.blt t 124 then (bif Nat.blt t 103 then (bif Nat.blt t 93 then (bif Nat.blt t 88 then (bif Nat.blt t 85 then (bif Nat.blt t 84 then some dd else some dc) else (bif Nat.blt t 86 then some db else (bif Nat.blt t 87 then some cZ else some cY))) else (bif Nat.blt t 90 then (bif Nat.blt t 89 then some cX else some cW) else (bif Nat.blt t 91 then some cV else (bif Nat.blt t 92 then some cU else some cS)))) else (bif Nat.blt t 98 then (bif Nat.blt t 95 then (bif Nat.blt t 94 then some cR else some cQ) else (bif Nat.blt t 96 then some cP else (bif Nat.blt t 97 then some cO else some cN))) else (bif Nat.blt t 100 then (bif Nat.blt t 99 then some cM else some cL) else (bif Nat.blt t 101 then some bu else (bif Nat.blt t 102 then some bt else some bs))))) else (bif Nat.blt t 113 then (bif Nat.blt t 108 then (bif Nat.blt t 105 then (bif Nat.blt t 104 then some br else some bq) else (bif Nat.blt t 106 then some bp else (bif Nat.blt t 107 then some bo else some bn))) else (bif Nat.blt t 110 then (bif Nat.blt t 109 then some bm else some bl) else (bif Nat.blt t 111 then some bk else (bif Nat.blt t 112 then some bh else some bg)))) else (bif Nat.blt t 118 then (bif Nat.blt t 115 then (bif Nat.blt t 114 then some be else some bd) else (bif Nat.blt t 116 then some bb else (bif Nat.blt t 117 then some ba else some a9))) else (bif Nat.blt t 121 then (bif Nat.blt t 119 then some aZ else (bif Nat.blt t 120 then some aY else some aX)) else (bif Nat.blt t 122 then some aW else (bif Nat.blt t 123 then some aV else some aU)))))) else (bif Nat.blt t 145 then (bif Nat.blt t 134 then (bif Nat.blt t 129 then (bif Nat.blt t 126 then (bif Nat.blt t 125 then some aT else some aS) else (bif Nat.blt t 127 then some aR else (bif Nat.blt t 128 then some aP else some aO))) else (bif Nat.blt t 131 then (bif Nat.blt t 130 then some aN else some aM) else (bif Nat.blt t 132 then some aL else (bif Nat.blt t 133 then some aK else some aJ)))) else (bif Nat.blt t 139 then (bif Nat.blt t 136 then (bif Nat.blt t 135 then some aI else some aH) else (bif Nat.blt t 137 then some aG else (bif Nat.blt t 138 then some aF else some aE))) else (bif Nat.blt t 142 then (bif Nat.blt t 140 then some aD else (bif Nat.blt t 141 then some aC else some aB)) else (bif Nat.blt t 143 then some aA else (bif Nat.blt t 144 then some az else some ay))))) else (bif Nat.blt t 155 then (bif Nat.blt t 150 then (bif Nat.blt t 147 then (bif Nat.blt t 146 then some aw else some av) else (bif Nat.blt t 148 then some au else (bif Nat.blt t 149 then some ap else some aj))) else (bif Nat.blt t 152 then (bif Nat.blt t 151 then some ai else some ah) else (bif Nat.blt t 153 then some ag else (bif Nat.blt t 154 then some ae else some Z9)))) else (bif Nat.blt t 160 then (bif Nat.blt t 157 then (bif Nat.blt t 156 then some Z8 else some Z7) else (bif Nat.blt t 158 then some Z6 else (bif Nat.blt t 159 then some Z5 else some Z4))) else (bif Nat.blt t 163 then (bif Nat.blt t 161 then some Z3 else (bif Nat.blt t 162 then some Z2 else some Z1)) else (bif Nat.blt t 164 then some Z0 else (bif Nat.blt t 165 then some ZZ else some ZY)))))))) else none
theorem Yk : (List.range 166).map TI = (List.range 166).map (Sd Go.Proofs.Try.prog) := by kernel_rfl
theorem Am : Ck Go.Proofs.Try.prog TI := by
  intro t i h
  by_cases c : t < 166
  . have h1 : ((List.range 166).map TI)[t]? = ((List.range 166).map (Sd Go.Proofs.Try.prog))[t]? := by rw [Yk]
    rw [List.getElem?_map, List.getElem?_map, List.getElem?_range c] at h1
    simp only [Option.map_some, Option.some.injEq] at h1
    rw [<- h1, h]
  . have h2 : Nat.blt t 166 = false := by
      rw [Bool.eq_false_iff]
      intro hc
      exact c (Nat.blt_eq.mp hc)
    unfold TI at h
    rw [h2] at h
    cases h
theorem mix : Go.Proofs.Try.prog.follows .mixedOrders = true := by kernel_rfl
structure Tac where
  op : Int
  d : Int
  a : Int
  b : Int
  k : Int
  base : Int
  size : Int
  n : Int
  deriving DecidableEq, Repr
structure Block where
  ins : List Tac
  fin : Int
  v : Int
  to : Int
  els : Int
  deriving DecidableEq, Repr
structure BFunc where
  regs : Int
  blocks : List Block
  deriving DecidableEq, Repr
structure Blocks where
  words : Int
  funcs : List BFunc
  deriving DecidableEq, Repr
structure Cert where
  same : List (List Bool)
  deriving DecidableEq, Repr
def Tac.cells (t : Tac) : List AV := [.int .i64 t.op, .int .i64 t.d, .int .i64 t.a, .int .i64 t.b, .int .i64 t.k, .int .i64 t.base, .int .i64 t.size, .int .u32 t.n]
def U7 (l : List Tac) : AV := .lst false (l.map Tac.cells)
def Block.cells (b : Block) : List AV := [U7 b.ins, .int .i64 b.fin, .int .i64 b.v, .int .i64 b.to, .int .i64 b.els]
def LC (l : List Block) : AV := .lst false (l.map Block.cells)
def BFunc.cells (f : BFunc) : List AV := [.int .i64 f.regs, LC f.blocks]
def A6 (l : List BFunc) : AV := .lst false (l.map BFunc.cells)
def Blocks.cells (b : Blocks) : List AV := [.int .i64 b.words, A6 b.funcs]
def Xk (l : List Bool) : AV := .lst false (l.map fun b => [.bool b])
def No (l : List Int) : AV := .lst false (l.map fun b => [.int .i64 b])
def Yv (l : List (List Bool)) : AV := .lst false (l.map fun r => [Xk r])
def Cert.cells (c : Cert) : List AV := [Yv c.same]
theorem Cg {α : Type} {l : List α} {f : α -> List AV} {k : Nat} {x : α} (h : l[k]? = some x) : (l.map f)[((k : Nat) : Int).toNat]? = some (f x) := by
  rw [Int.toNat_natCast, List.getElem?_map, h]; rfl
theorem At {α : Type} {l : List α} {k : Nat} (h : k < l.length) : ∃ x, l[k]? = some x := ⟨l[k], List.getElem?_eq_getElem h⟩
theorem Bw {α : Type} {l : List α} {k : Nat} {x : α} (h : l[k]? = some x) : l.take (k + 1) = l.take k ++ [x] := by
  rw [List.take_add_one, h]; rfl
def W0 (l : List Tac) : Prop := l.length <= maxLen
def Block.fits (x : Block) : Prop := x.ins.length <= maxLen
def Ld (l : List Block) : Prop := l.length <= maxLen /\ ∀ x ∈ l, x.fits
def BFunc.fits (f : BFunc) : Prop := Ld f.blocks
def ME (l : List BFunc) : Prop := l.length <= maxLen /\ ∀ f ∈ l, f.fits
def Blocks.fits (b : Blocks) : Prop := ME b.funcs
theorem Kz {α : Type} {l : List α} {f : α -> List AV} {H : AB} {ι : A2} {ex : Bool} {v : Value} (h : Rel H ι (.lst ex (l.map f)) v) :
    l.length <= maxLen /\ ∀ x ∈ l, ∀ (j : Nat) (y : AV), (f x)[j]? = some y -> ∃ u, Rel H AZ y u := by
  refine ⟨by have := WQ h; simpa using this, fun x hx j y hy => ?_⟩
  obtain ⟨i, hi⟩ := List.mem_iff_getElem?.1 hx
  rcases h.lst_inv with ⟨h0, _⟩ | ⟨_, b, off, cap, sz, c, vals, _, _, _, _, hr, _⟩
  . rw [List.map_eq_nil_iff] at h0; subst h0; simp at hi
  . exact ⟨_, hr i (f x) j y (by rw [List.getElem?_map, hi]; rfl) hy⟩
theorem Wv {l : List Tac} {H : AB} {ι : A2} {v : Value} (h : Rel H ι (U7 l) v) : W0 l := (Kz h).1
theorem KA {l : List Block} {H : AB} {ι : A2} {v : Value} (h : Rel H ι (LC l) v) : Ld l := by
  obtain ⟨h1, h2⟩ := Kz h
  exact ⟨h1, fun x hx => by obtain ⟨u, hu⟩ := h2 x hx 0 _ rfl; exact Wv hu⟩
theorem Og {cs : List AV} {H : AB} {ι : A2} {v : Value} (h : Rel H ι (.agg cs) v) {j : Nat} {x : AV} (hj : cs[j]? = some x) : ∃ u, Rel H ι x u := by
  obtain ⟨us, _, hl, hr⟩ := h.agg_inv
  have hlt : j < us.size := by rw [<- hl]; exact (List.getElem?_eq_some_iff.1 hj).1
  obtain ⟨u, hu⟩ := Be hlt
  exact ⟨u, hr j x u hj hu⟩
theorem St {f : BFunc} {H : AB} {ι : A2} {v : Value} (h : Rel H ι (.agg f.cells) v) : f.fits := by
  obtain ⟨u, hu⟩ := Og h (j := 1) rfl
  exact KA hu
theorem Ss {l : List BFunc} {H : AB} {ι : A2} {v : Value} (h : Rel H ι (A6 l) v) : ME l := by
  obtain ⟨h1, h2⟩ := Kz h
  exact ⟨h1, fun x hx => by obtain ⟨u, hu⟩ := h2 x hx 1 _ rfl; exact KA hu⟩
theorem Of {b : Blocks} {H : AB} {ι : A2} {v : Value} (h : Rel H ι (.agg b.cells) v) : b.fits := by
  obtain ⟨u, hu⟩ := Og h (j := 1) rfl
  exact Ss hu
theorem AGo.slot {P : Program} {s : Al} {Q : Exit -> Al -> Prop} {c : Code} (t : Nat) {x : AV} {φ : Prop} (ht : s.env t = some x) (hf : ∀ H ι v, Rel H ι x v -> φ) (h : φ -> AGo P c s Q) : AGo P c s Q :=
  V1 (fun H ι a w hs => by obtain ⟨v, _, hv⟩ := hs.env t x ht; exact hf H ι v hv) h
theorem Bi {α : Type} {β : Type} {l : List α} {f : α -> β} {k : Nat} (h : decide ((k : Int) < (((l.map f).length : Nat) : Int)) = true) : k < l.length := by simpa using h
theorem Bj {α : Type} {β : Type} {l : List α} {f : α -> β} {k : Nat} (h : decide ((k : Int) < (((l.map f).length : Nat) : Int)) = false) : l.length <= k := by simpa using h
theorem Tac.eqCells (x y : Tac) : Sv.eqCells x.cells y.cells = some (decide (x = y)) := by
  have h : Sv.eqCells x.cells y.cells = some (x.op == y.op && (x.d == y.d && (x.a == y.a && (x.b == y.b && (x.k == y.k && (x.base == y.base && (x.size == y.size && (x.n == y.n && true)))))))) := rfl
  rw [h]
  congr 1
  obtain ⟨a1, a2, a3, a4, a5, a6, a7, a8⟩ := x
  obtain ⟨b1, b2, b3, b4, b5, b6, b7, b8⟩ := y
  rw [Bool.eq_iff_iff]
  simp [Tac.mk.injEq]
section
variable {P : Program} {T : Nat -> Option AC} {o : Oper} {e : Az} {h : Ab}
theorem DB {f : Fn} {first captured : Array Operand} {xs cs : List AV} (ho : o.op = .makeFunc f first captured) (hx : Ba e first.toList = some xs) (hc : Ba e captured.toList = some cs) : QLoc P o e h [] (.fn f xs cs) := by
  intro H ι a w s hs g1 g2
  have hx' : Ba s.env first.toList = some xs := by
    rw [Eh (e := e) (fun x hx => g1 x (by rw [ho]; simp [Op.operands]; exact .inl (by simpa using hx)))]; exact hx
  have hc' : Ba s.env captured.toList = some cs := by
    rw [Eh (e := e) (fun x hx => g1 x (by rw [ho]; simp [Op.operands]; exact .inr (by simpa using hx)))]; exact hc
  have h1 := CH hs hx'
  have h2 := CH hs hc'
  refine ⟨.func f (first.map a.eval) (captured.map a.eval), .fn _ _ _ _ _ _ h1.1 h2.1 h1.2 h2.2, ?_⟩
  simp only [execOp, ho, Instr.makeFunc, Sem.run_bind, Sem.run_pure, Result.andThen_ok]
theorem Ft {H : AB} {ι : A2} {xs ys : List AV} {us vs : Array Value} (h1 : RelAll H ι xs us) (h2 : RelAll H ι ys vs) : RelAll H ι (xs ++ ys) (us ++ vs) := by
  refine ⟨by simp [h1.1, h2.1], fun j x v g1 g2 => ?_⟩
  by_cases hj : j < xs.length
  . rw [List.getElem?_append_left hj] at g1
    rw [Array.getElem?_append_left (by rw [<- h1.1]; exact hj)] at g2
    exact h1.2 j x v g1 g2
  . rw [List.getElem?_append_right (by omega)] at g1
    rw [Array.getElem?_append_right (by rw [<- h1.1]; omega), <- h1.1] at g2
    exact h2.2 _ x v g1 g2
theorem Oj (hT : Ck P T) {t : TypeId} {x y : Operand} {b n len m : Nat} {p : Bool} {sz : Nat} {es : List (List AV)} {i j : AC} {u : Nat} {k : IntKind} {z : Int} (ho : o.op = .slice t x none (some y) none) (hx : Aq e x = some (.ref b n 0 len)) (hy : Aq e y = some (.int k z)) (ht : T t = some i) (hk : i.k = .slice u) (hj : T u = some j)
    (hb : h b = some (.row p sz es)) (hn : n = es.length) (hz : z = (m : Int)) (hm : m <= len) : QLoc P o e h [b] (.ref b n 0 m) := by
  intro H ι a w s hs g1 g2
  have hx' : Aq s.env x = some (.ref b n 0 len) := by rw [g1 x (by rw [ho]; simp [Op.operands]), hx]
  have hy' : Aq s.env y = some (.int k z) := by rw [g1 y (by rw [ho]; simp [Op.operands]), hy]
  have hb' : s.h b = some (.row p sz es) := by rw [g2 b (by simp), hb]
  subst hz
  obtain ⟨info, d, e1, e2, e3, e4, e5, e6⟩ := An (hT _ _ ht)
  obtain ⟨info', d', e1', e2', e3', e4', e5', e6'⟩ := An (hT _ _ hj)
  have hd := A4 (P := P) (d := d) (e3 ▸ hk)
  subst hd
  have hvx := Ap hs hx'
  have hvy := (Ap hs hy').int_inv
  generalize hva : a.eval x = va at hvx
  obtain ⟨r, hl, ⟨r1, r2, r3, r4, r5, r6⟩, r7⟩ := hs.heap.obj b _ hb' rfl
  have hrun : ∀ (ad : Option Addr) (cap : Nat), m <= cap -> va = .slice ad len cap -> (execOp a.eval o).run P w = .ok (.value (.slice (if cap = 0 then ad else ad.map (·.add (0 * j.size))) (m - 0) (cap - 0))) w := fun ad cap hcap hv => by
    simp only [execOp, ho, hva, hv, hvy, Instr.sliceAt, Instr.slice, Option.map_none, Option.map_some, Sem.run_bind, Au e2, Result.andThen_ok, Dc e1', e4', Sem.run_pure]
    simp [Instr.sliceBounds, Instr.sliceBound, asIntOf, hcap]
  by_cases hsol : r.csz = 0
  . obtain ⟨hl0, ad, rfl, hsp⟩ := hvx.ref_dry hl (by omega) hsol (by omega)
    subst hl0
    obtain rfl : m = 0 := by omega
    refine ⟨_, ?_, hrun ad 0 (Nat.le_refl _) rfl⟩
    simpa using hvx
  . obtain ⟨hlen, cap, rfl, hlc, hcap, hmax⟩ := hvx.ref_live hl (by omega) hsol
    refine ⟨_, ?_, hrun _ cap (by omega) rfl⟩
    have := Rel.refL (H := H) ι b n 0 m cap r hl (by omega) (by omega) (by omega) hcap hmax
    have hadd : (if cap = 0 then some (⟨r.rb, 0 * r.sz, none⟩ : Addr) else (some (⟨r.rb, 0 * r.sz, none⟩ : Addr)).map (·.add (0 * j.size))) = some ⟨r.rb, 0 * r.sz, none⟩ := by
      split
      . rfl
      . simp [Addr.add]
    rw [hadd]
    simpa using this
theorem Qd (hT : Ck P T) {t t' : TypeId} {x y : Operand} {i i' j : AC} {u u' : Nat} {b n len : Nat} {p : Bool} {sz : Nat} {es : List (List AV)} {cs2 : List AV} {q : AV} {R : List Nat}
    (ho : o.op = .call { callee := .builtin .append, args := #[x, y], argTypes := #[t, t'] }) (hx : Aq e x = some (.ref b n 0 len)) (hy : Aq e y = some q) (hi : T t = some i) (hk : i.k = .slice u) (hj : T u = some j) (hi' : T t' = some i') (hk' : i'.k = .slice u')
    (hb : h b = some (.row p sz es)) (hn : n = es.length) (hlt : len < n) (hsz : sz = j.size) (hp : 0 < j.size)
    (hsrc : SrcOf h q R [cs2]) (hu2 : cs2.length = sz) (hpure : p = true -> cs2.all AV.isPure1 = true) :
    OLoc P o e h (b :: R) [(b, .row p sz (es.set len cs2))] (some (.ref b n 0 (len + 1))) := by
  intro H ι a w s Q hs g1 g2
  have hx' : Aq s.env x = some (.ref b n 0 len) := by rw [g1 x FB, hx]
  have hy' : Aq s.env y = some q := by rw [g1 y FB, hy]
  have hb' : s.h b = some (.row p sz es) := by rw [g2 b (by simp), hb]
  have hsrc' := hsrc.agree (h' := s.h) (fun c hc => g2 c (by simp [hc]))
  obtain ⟨info, d, e1, e2, e3, e4, e5, e6⟩ := An (hT _ _ hi)
  obtain ⟨infou, du, f1, f2, f3, f4, f5, f6⟩ := An (hT _ _ hj)
  obtain ⟨info', d', e1', e2', e3', e4', e5', e6'⟩ := An (hT _ _ hi')
  have hd := A4 (P := P) (d := d) (e3 ▸ hk)
  subst hd
  have hd' := A4 (P := P) (d := d') (e3' ▸ hk')
  subst hd'
  subst hsz; subst hn
  obtain ⟨r, hl, ⟨r1, r2, r3, r4, r5, r6⟩, r7⟩ := hs.heap.obj b _ hb' rfl
  have hvx := Ap hs hx'
  have hvy := Ap hs hy'
  generalize hva : a.eval x = va at hvx
  generalize hvb : a.eval y = vb at hvy
  have hexec : ∀ (v : Value) (w' : World), (Builtin.append_ #[t, t'] o.type #[va, vb]).run P w = .ok v w' -> (execOp a.eval o).run P w = .ok (.value v) w' := fun v w' hrun => by
    exact Wa
  obtain ⟨news, hsrcw, hnews⟩ := M6 hs.heap hsrc' hvy e2' hp (by intro cs h; simp at h; subst h; exact hu2) w rfl
  rw [<- f4] at hsrcw
  have hnl : news.length = j.size := by rw [hsrcw.newsLen, f4]; simp
  have hsol : r.csz ≠ 0 := fun h0 => by
    have : 0 < es.length * j.size := Nat.mul_pos (by omega) hp
    omega
  obtain ⟨hlen, cap, hvv, hlc, hcap, hmax⟩ := hvx.ref_live hl (by omega) hsol
  obtain ⟨c, TT, w1, w2, w3⟩ := r6 hsol
  simp only [Nat.zero_mul, Nat.zero_add] at hcap hvv
  have hcs : c.size = cap * j.size := by rw [w2, <- hcap, r1]
  have hmul : (len + 1) * j.size <= es.length * j.size := Nat.mul_le_mul_right _ (by omega)
  have hmul' : (len + 1) * j.size = len * j.size + j.size := by rw [Nat.add_mul, Nat.one_mul]
  have hroom : len + 1 <= cap := by
    refine Nat.le_of_mul_le_mul_right (c := j.size) ?_ hp
    rw [<- hcs, w2]; omega
  have hfit : len * infou.size + news.length <= c.size := by rw [hnl, f4, w2]; omega
  have hrun := Dm (P := P) (w := w) t t' o.type u infou e2 f1 r.rb len cap c TT w1 vb 1 news hsrcw hroom hfit
  rw [f4] at hrun hfit
  generalize hC : (c.toList.take (len * j.size) ++ news ++ c.toList.drop (len * j.size + news.length)).toArray = C at *
  have hCs : C.size = c.size := by rw [<- hC]; simp; omega
  have hget : ∀ k : Nat, C[k]? = if k < len * j.size then c[k]? else if k < len * j.size + j.size then news[k - len * j.size]? else c[k]? := fun k => by
    rw [<- hC]
    simp only [List.getElem?_toArray]
    have hm : (c.toList.take (len * j.size)).length = len * j.size := by simp; omega
    by_cases h1 : k < len * j.size
    . rw [if_pos h1, List.getElem?_append_left (by rw [List.length_append, hm]; omega), List.getElem?_append_left (by rw [hm]; exact h1), List.getElem?_take_of_lt h1, Array.getElem?_toList]
    . rw [if_neg h1]
      by_cases h2 : k < len * j.size + j.size
      . rw [if_pos h2, List.getElem?_append_left (by rw [List.length_append, hm, hnl]; exact h2), List.getElem?_append_right (by rw [hm]; omega), hm]
      . rw [if_neg h2, List.getElem?_append_right (by rw [List.length_append, hm, hnl]; omega), List.length_append, hm, hnl, List.getElem?_drop, Array.getElem?_toList]
        congr 1; omega
  have hll : LLe ι (Dq ι b r) := LLe.put fun r' hr' => by rw [hl] at hr'; cases hr'; exact .inl rfl
  have hlens : ∀ (i : Nat) (cs : List AV), (es.set len cs2)[i]? = some cs -> cs.length = j.size := fun i cs hc => by
    by_cases hi : len = i
    . subst hi; rw [List.getElem?_set_self hlt] at hc; cases hc; exact hu2
    . rw [List.getElem?_set_ne hi] at hc; exact r5 i cs hc
  have hrow : rowCells H (bif p then AZ else Dq ι b r) j.size (es.set len cs2) C := by
    refine ⟨hlens, fun i cs k y hc hk => ?_⟩
    have hkk : k < j.size := by
      rw [<- hlens i cs hc]
      exact (List.getElem?_eq_some_iff.1 hk).1
    have hi : i < es.length := by
      have := (List.getElem?_eq_some_iff.1 hc).1
      simpa using this
    by_cases hil : len = i
    . subst hil
      rw [List.getElem?_set_self hlt] at hc; cases hc
      obtain ⟨v, k1, k2, k3⟩ := hnews 0 cs2 k y rfl hk
      rw [Nat.zero_mul, Nat.zero_add] at k1
      refine ⟨v, by rw [hget, if_neg (by omega), if_pos (by omega), Nat.add_sub_cancel_left]; exact k1, ?_, k3⟩
      cases p with
      | false => exact k2.mono (KLe.refl _) hll
      | true => exact CR (List.all_eq_true.1 (hpure rfl) y (List.mem_of_getElem? hk)) k2
    . rw [List.getElem?_set_ne hil] at hc
      obtain ⟨v, k1, k2, k3⟩ := w3.2 i cs k y hc hk
      refine ⟨v, ?_, ?_, k3⟩
      . rw [hget]
        by_cases h1 : i < len
        . have : (i + 1) * j.size <= len * j.size := Nat.mul_le_mul_right _ (by omega)
          rw [Nat.add_mul, Nat.one_mul] at this
          rw [if_pos (by omega)]; exact k1
        . have : (len + 1) * j.size <= i * j.size := Nat.mul_le_mul_right _ (by omega)
          rw [if_neg (by omega), if_neg (by omega)]; exact k1
      . cases p with
        | false => exact k2.mono (KLe.refl _) hll
        | true => exact k2
  obtain ⟨u1, u2⟩ := hs.heap.upd (w' := w.setRow r.rb C) (o0 := .row p j.size es) (o' := .row p j.size (es.set len cs2)) (r' := r) hb' rfl
    (.inr ⟨r, hl, rfl, .inl rfl⟩) (fun _ => .inr ⟨r, hl, rfl, hsol, rfl⟩)
    (fun rb hlt' hne => setRow_other w r.rb rb _ (hne r hl rfl hsol)) (by simp) (EL _ _ _) (D1 _ _ _)
    ⟨r1, r2, by simp [r3], by simpa using r4, hrow.1, fun _ => ⟨C, TT, w1.setRow hCs, hCs.trans w2, hrow⟩⟩
  have hex := hexec _ _ (hvv ▸ hrun)
  unfold Oper.wp
  rw [hex]
  refine ⟨_, H, _, rfl, (fun x ex => ?_), u1, u2⟩
  cases ex
  have := Rel.refL (H := H) (Dq ι b r) b es.length 0 (len + 1) cap _ (Bn _ _ _) r3 (by omega) hroom (by rw [Nat.zero_add]; exact hcap) hmax
  simpa using this
def Ik (es : List (List AV)) (len : Nat) (cs : List AV) : List (List AV) := if len < es.length then es.set len cs else es ++ [cs]
theorem YA (hT : Ck P T) {t t' : TypeId} {x y : Operand} {i i' j : AC} {u u' : Nat} {b n len : Nat} {p : Bool} {sz : Nat} {es : List (List AV)} {cs2 : List AV} {q : AV} {R : List Nat}
    (ho : o.op = .call { callee := .builtin .append, args := #[x, y], argTypes := #[t, t'] }) (hx : Aq e x = some (.ref b n 0 len)) (hy : Aq e y = some q) (hi : T t = some i) (hk : i.k = .slice u) (hj : T u = some j) (hi' : T t' = some i') (hk' : i'.k = .slice u')
    (hb : h b = some (.row p sz es)) (hn : n = es.length) (hlt : len <= n) (hsz : sz = j.size) (hz : j.zero.length = j.size) (hp : 0 < j.size)
    (hsrc : SrcOf h q R [cs2]) (hu2 : cs2.length = sz) (hpure : p = true -> cs2.all AV.isPure1 = true) (hby : (es.length + 1) * j.bytes <= 140737488355328) (hml : es.length + 1 <= maxLen) :
    OLoc P o e h (b :: R) [(b, .row p sz (Ik es len cs2))] (some (.ref b (Ik es len cs2).length 0 (len + 1))) := by
  by_cases h1 : len < es.length
  . have e1 : Ik es len cs2 = es.set len cs2 := by simp [Ik, h1]
    rw [e1]
    have := Qd hT ho hx hy hi hk hj hi' hk' hb hn (by omega) hsz hp hsrc hu2 hpure
    rw [List.length_set, <- hn]; exact this
  . have e1 : Ik es len cs2 = es ++ [cs2] := by simp [Ik, h1]
    have hl : len = n := by omega
    subst hl
    rw [e1]
    have := E2 hT ho hx hy hi hk hj hi' hk' hb hn hsz hz hp hsrc (by intro cs h; simp at h; subst h; exact hu2) (fun hp cs h => by simp at h; subst h; exact hpure hp) (m := 1) rfl hby hml
    rw [show (es ++ [cs2]).length = len + 1 by simp [hn]]; exact this
end
theorem Aw {h : Ab} {b x : Nat} {o : AObj} {r : Option AObj} (hb : Nat.beq x b = false) (hr : h x = r) : hput h b o x = r := by simp only [hput, hb, cond_false, hr]
section
variable {P : Program} {T : Nat -> Option AC} {o : Oper} {e : Az} {h : Ab}
def XT (P : Program) (o : Oper) (e : Az) (h : Ab) (R : List Nat) (S : List (Nat × AObj) -> AV -> Prop) : Prop :=
  ∀ (H : AB) (ι : A2) (a : Act) (w : World) (s : Al) (Q : Exit -> Act -> World -> Prop), Sim H ι s a w ->
    (∀ x ∈ o.op.operands, Aq s.env x = Aq e x) -> (∀ b ∈ R, s.h b = h b) ->
    o.wp P a w (fun a' w' => ∃ W r v H' ι', S W r /\ a' = a.put o.dst v /\ Rel H' ι' r v /\ HeapRel H' ι' (hputs s.h W) w' /\ Step H ι s.h w H' ι' (hputs s.h W) w') Q
theorem AOps.ex {ops : Array Oper} {rest : List Oper} {n : Nat} {K : Al -> Prop} (d : Nat) {R : List Nat} {S : List (Nat × AObj) -> AV -> Prop} (hd : o.dst = some d) (hb : Nat.blt d n = true) (hg : Ay ops o e = some true) (ho : XT P o e h R S)
    (hr : ∀ W r, S W r -> AOps P ops rest ⟨n, Ad e d r, hputs h W⟩ K) : AOps P ops (o :: rest) ⟨n, e, h⟩ K := by
  intro H ι a w hs
  unfold wpList
  rw [Bx hs hg]
  simp only [if_true]
  refine .inl (Oper.wp_mono (fun a' w' hx => ?_) (ho H ι a w ⟨n, e, h⟩ _ hs (fun _ _ => rfl) (fun _ _ => rfl)))
  obtain ⟨W, r, v, H', ι', hS, rfl, h1, h2, h3⟩ := hx
  have hs' := hs.put (d := o.dst) (r := some r) h2 h3 (fun x ex => by cases ex; exact h1) (DZ hd hb)
  rw [hd] at hs' |-
  have := hr W r hS H' ι' _ w' hs'
  have key : ∀ (l : List Oper) (a1 : Act) (w1 : World), wpList P ops (Post H' ι' (hputs h W) w' (DV K fun _ _ => False)) l a1 w1 -> wpList P ops (Post H ι h w (DV K fun _ _ => False)) l a1 w1 := by
    have hpost : ∀ e a2 w2, Post H' ι' (hputs h W) w' (DV K fun _ _ => False) e a2 w2 -> Post H ι h w (DV K fun _ _ => False) e a2 w2 := fun e a2 w2 hp => Post.step hs.heap h2 h3 hp
    exact TZ
  exact key _ _ _ this
end
def EE (h : Ab) (κ : Nat -> Bool) : Ab := fun b => bif κ b then h b else some .free
def Ir (ι ι' : A2) (κ : Nat -> Bool) : A2 := fun b => bif κ b then ι' b else ι b
theorem Ti {H : AB} {ι : A2} {h : Ab} {w : World} {κ : Nat -> Bool} {hn : Ab} {H' : AB} {ι' : A2} {h' : Ab} {w' : World} (hr : HeapRel H ι h w)
    (hL : ∀ b, κ b = true -> ∃ o, h b = some o /\ o.avoid κ = true) (hW : ∀ b, κ b = false -> hn b = h b)
    (hk : ∀ b, κ b = true -> ∃ o, h' b = some o /\ hn b = some o /\ o.avoid κ = true)
    (hr' : HeapRel H' ι' h' w') (hst : Step H (lcut ι κ) (EE h κ) w H' ι' h' w') :
    HeapRel H' (Ir ι ι' κ) (hn) w' /\ Step H ι h w H' (Ir ι ι' κ) (hn) w' := by
  have mT : ∀ b, κ b = true -> Ir ι ι' κ b = ι' b := fun b hb => by simp only [Ir, hb, cond_true]
  have mF : ∀ b, ¬ κ b = true -> Ir ι ι' κ b = ι b := fun b hb => by
    have : κ b = false := by cases e : κ b with | false => rfl | true => exact absurd e hb
    simp only [Ir, this, cond_false]
  have cT : ∀ b, κ b = true -> lcut ι κ b = ι b := fun b hb => Cu hb
  have rT : ∀ b, κ b = true -> EE h κ b = h b := fun b hb => by simp only [EE, hb, cond_true]
  have rF : ∀ b, ¬ κ b = true -> EE h κ b = some .free := fun b hb => by
    have : κ b = false := by cases e : κ b with | false => rfl | true => exact absurd e hb
    simp only [EE, this, cond_false]
  have wF : ∀ b, ¬ κ b = true -> hn b = h b := fun b hb => hW b (by cases e : κ b with | false => rfl | true => exact absurd e hb)
  have own : ∀ rb, Gq (EE h κ) (lcut ι κ) rb -> Gq h ι rb := by
    rintro rb ⟨b, o, r, h1, h2, h3, h4, h5⟩
    by_cases hb : κ b = true
    . exact ⟨b, o, r, by rw [<- rT b hb]; exact h1, h2, A9 h3, h4, h5⟩
    . rw [rF b hb] at h1; cases h1; cases h2
  -- rows that the call didn't see are none of its
  have apart : ∀ b o r, ¬ κ b = true -> h b = some o -> o.alive = true -> ι b = some r -> r.solid -> ¬ Gq (EE h κ) (lcut ι κ) r.rb := by
    rintro b o r hb h1 h2 h3 h4 ⟨b', o', r', g1, g2, g3, g4, g5⟩
    by_cases hb' : κ b' = true
    . exact hr.inj b b' o o' r r' h1 h2 (by rw [<- rT b' hb']; exact g1) g2 h3 (A9 g3) h4 g4 (fun e => hb (e ▸ hb')) g5.symm
    . rw [rF b' hb'] at g1; cases g1; cases g2
  have lle : LLe ι (Ir ι ι' κ) := fun b r e => by
    by_cases hb : κ b = true
    . rw [mT b hb]; exact hst.lle b r (by rw [cT b hb]; exact e)
    . rw [mF b hb]; exact ⟨r, e, .inl rfl⟩
  have lle' : LLe (lcut ι' κ) (Ir ι ι' κ) := fun b r e => by
    by_cases hb : κ b = true
    . rw [mT b hb]; exact ⟨r, A9 e, .inl rfl⟩
    . have : κ b = false := by cases e : κ b with | false => rfl | true => exact absurd e hb
      simp only [lcut, this, cond_false] at e; cases e
  have blk : ∀ b o r, ¬ κ b = true -> h b = some o -> o.alive = true -> ι b = some r -> r.solid -> w'.heap[r.rb]? = w.heap[r.rb]? := fun b o r hb h1 h2 h3 h4 =>
    hst.keep r.rb (hr.lt ⟨b, o, r, h1, h2, h3, h4, rfl⟩) (apart b o r hb h1 h2 h3 h4)
  have noK : ∀ b o r, ¬ κ b = true -> h b = some o -> o.alive = true -> ι b = some r -> r.solid -> H r.rb = none -> H' r.rb = none := fun b o r hb h1 h2 h3 h4 h5 => by
    exact Zn
  -- a row of the call's, afterwards: not one of those that it didn't see
  have apart' : ∀ b b' o r r', ¬ κ b = true -> κ b' = true -> h b = some o -> o.alive = true -> ι b = some r -> r.solid -> ι' b' = some r' -> r'.solid -> r.rb ≠ r'.rb := fun b b' o r r' hb hb' h1 h2 h3 h4 g1 g2 e => by
    exact ZF
  refine ⟨⟨hr'.know, fun b hb => ?_, fun b o h1 h2 => ?_, fun b b' o o' r r' h1 h2 h3 h4 h5 h6 s1 s2 hne => ?_, hr'.glob⟩, ⟨hst.size, hst.os, hst.out, fun rb hlt hno => hst.keep rb hlt (fun h => hno (own rb h)), hst.kle, fun b hb => ?_, lle, fun b e => ?_, fun b r' e es => ?_, fun b e => ?_⟩⟩
  . by_cases hbL : κ b = true
    . obtain ⟨o, k1, k2, _⟩ := hk b hbL
      rw [k2] at hb; cases hb
      rw [mT b hbL]; exact hr'.free b k1
    . rw [wF b hbL] at hb; rw [mF b hbL]; exact hr.free b hb
  . by_cases hbL : κ b = true
    . obtain ⟨o', k1, k2, k3⟩ := hk b hbL
      exact XA
    . rw [wF b hbL] at h1
      exact zt101
  . by_cases hb : κ b = true <;> by_cases hb' : κ b' = true
    . obtain ⟨q, k1, k2, _⟩ := hk b hb
      exact Zg
    . rw [wF b' hb'] at h3; rw [mF b' hb'] at h6; rw [mT b hb] at h5
      exact fun e => apart' b' b o' r' r hb' hb h3 h4 h6 s2 h5 s1 e.symm
    . rw [wF b hb] at h1; rw [mF b hb] at h5; rw [mT b' hb'] at h6
      exact apart' b b' o r r' hb hb' h1 h2 h5 s1 h6 s2
    . rw [wF b hb] at h1; rw [mF b hb] at h5; rw [wF b' hb'] at h3; rw [mF b' hb'] at h6
      exact hr.inj b b' o o' r r' h1 h2 h3 h4 h5 h6 s1 s2 hne
  . rcases hst.knew b hb with g | g | g
    . exact .inl g
    . exact .inr (.inl g)
    . exact .inr (.inr (own b g))
  . by_cases hb : κ b = true
    . obtain ⟨o, k1, _⟩ := hL b hb; rw [k1] at e; cases e
    . exact mF b hb
  . by_cases hb : κ b = true
    . rw [mT b hb] at e
      exact zt106
    . rw [mF b hb] at e; exact .inl e
  . by_cases hb : κ b = true
    . obtain ⟨o, k1, _⟩ := hL b hb; rw [k1] at e; cases e
    . rw [wF b hb]; exact e
def EDropK (k : Nat -> Bool) (e' e : Az) : Prop := ∀ t x, e' t = some x -> e t = some x /\ x.avoid k = true
def HDropK (k : Nat -> Bool) (h' h : Ab) : Prop := ∀ b o, h' b = some o -> (h b = some o /\ (o.alive = true -> k b = true /\ o.avoid k = true)) \/ (o = .free /\ k b = false)
theorem EDropK.new (k : Nat -> Bool) (e : Az) : EDropK k Bt e := fun _ _ h => by cases h
theorem EDropK.put {k : Nat -> Bool} {e' e : Az} {t : Nat} {v : AV} (h : EDropK k e' e) (hv : e t = some v) (ha : v.avoid k = true) : EDropK k (Ad e' t v) e := fun u x hx => by
  by_cases hu : u = t
  . subst hu; rw [Co] at hx; cases hx; exact ⟨hv, ha⟩
  . rw [CZ _ _ hu] at hx; exact h u x hx
theorem HDropK.none (k : Nat -> Bool) (h : Ab) : HDropK k hNone h := fun _ _ h => by cases h
theorem HDropK.put {k : Nat -> Bool} {h' h : Ab} {b : Nat} {o : AObj} (hh : HDropK k h' h) (ho : h b = some o) (hb : k b = true) (ha : o.avoid k = true) : HDropK k (hput h' b o) h := fun c x hx => by
  by_cases hc : c = b
  . subst hc; rw [AA] at hx; cases hx; exact .inl ⟨ho, fun _ => ⟨hb, ha⟩⟩
  . rw [Aj _ _ hc] at hx; exact hh c x hx
structure DropK (k : Nat -> Bool) (s'' s' : Al) : Prop where
  n : s''.n = s'.n
  e : EDropK k s''.env s'.env
  h : HDropK k s''.h s'.h
theorem DropK.mk' {k : Nat -> Bool} {n : Nat} {e' e : Az} {h' h : Ab} (h1 : EDropK k e' e) (h2 : HDropK k h' h) : DropK k ⟨n, e', h'⟩ ⟨n, e, h⟩ := ⟨rfl, h1, h2⟩
theorem Sim.cutK {H : AB} {ι : A2} {s s' : Al} {a : Act} {w : World} {k : Nat -> Bool} (hs : Sim H ι s a w) (hd : DropK k s' s) : Sim H (lcut ι k) s' a w := by
  have hal : ∀ b o, s'.h b = some o -> o.alive = true -> s.h b = some o /\ k b = true /\ o.avoid k = true := fun b o h1 h2 => by
    rcases hd.h b o h1 with ⟨g1, g2⟩ | ⟨g1, _⟩
    . exact ⟨g1, g2 h2⟩
    . subst g1; cases h2
  refine ⟨hs.n.trans hd.n.symm, hs.d, fun t x hx => ?_, ⟨hs.heap.know, fun b hb => ?_, fun b o h1 h2 => ?_, fun b b' o o' r r' h1 h2 h3 h4 h5 h6 => ?_, hs.heap.glob⟩⟩
  . obtain ⟨g1, g2⟩ := hd.e t x hx
    obtain ⟨v, v1, v2⟩ := hs.env t x g1
    exact ⟨v, v1, Df v2 g2⟩
  . rcases hd.h b _ hb with ⟨g1, _⟩ | ⟨_, g2⟩
    . have := hs.heap.free b g1
      unfold lcut; rw [this]; cases k b <;> rfl
    . unfold lcut; rw [show k b = false from g2]; rfl
  . obtain ⟨g1, g2, g3⟩ := hal b o h1 h2
    obtain ⟨r, r1, r2, r3⟩ := hs.heap.obj b o g1 h2
    exact ⟨r, by rw [Cu (k := k) g2]; exact r1, FJ r2 g3, r3⟩
  . exact hs.heap.inj b b' o o' r r' (hal b o h1 h2).1 h2 (hal b' o' h3 h4).1 h4 (A9 h5) (A9 h6)
theorem Step.cutK {H : AB} {ι : A2} {h h1 h' : Ab} {w : World} {H' : AB} {ι' : A2} {w' : World} {k : Nat -> Bool} (hr : HeapRel H ι h w) (hf : ∀ b, k b = false -> h b = some .free)
    (st : Step H ι h w H' ι' h1 w') (hd : HDropK k h' h1) : Step H ι h w H' (lcut ι' k) h' w' where
  size := st.size
  os := st.os
  out := st.out
  keep := st.keep
  kle := st.kle
  knew := st.knew
  lle := fun b r e => by
    cases hb : k b with
    | false => rw [hr.free b (hf b hb)] at e; cases e
    | true => rw [Cu (k := k) hb]; exact st.lle b r e
  lframe := fun b e => by
    cases hb : k b with
    | false => rw [hf b hb] at e; cases e
    | true => rw [Cu (k := k) hb]; exact st.lframe b e
  newrb := fun b r' e => st.newrb b r' (A9 e)
  dom := fun b e => by
    exact Zd
section
variable {P : Program} {s : Al} {Q : Exit -> Al -> Prop}
theorem AGo.cutK {c : Code} {K : Al -> Prop} (k : Nat -> Bool) (hf : ∀ b, k b = false -> s.h b = some .free) (h : AGo P c s (DV (fun s1 => ∃ s2, DropK k s2 s1 /\ K s2) Q)) : AGo P c s (DV K Q) := fun H ι a w hs =>
  wp_mono (h H ι a w hs) fun e a' w' hp => by
    obtain ⟨s', H', ι', q, r, t⟩ := hp
    cases e with
    | normal =>
      obtain ⟨s2, d, k2⟩ := q
      exact ⟨s2, H', _, k2, r.cutK d, t.cutK hs.heap hf d.h⟩
    | _ => exact ⟨s', H', ι', q, r, t⟩
theorem Dj {γ : Type} {c : Code} (k : Nat -> Bool) (inv : γ -> Al) (F : γ -> Prop) (μ : γ -> Nat) (g0 : γ) (h0 : Sub (inv g0) s) (hF : F g0) (hf : ∀ g b, k b = false -> (inv g).h b = some .free)
    (round : ∀ g, F g -> AGo P c (inv g) (DV (fun s' => ∃ g', DropK k (inv g') s' /\ F g' /\ μ g' < μ g) Q)) : AGo P (.loop c) s Q :=
  Ee inv F μ g0 h0 hF fun g hg => AGo.cutK k (hf g) ((round g hg).mono fun e s'' hq => by
    cases e with
    | normal => obtain ⟨g', h1, h2, h3⟩ := hq; exact ⟨inv g', h1, g', Sub.refl _, h2, h3⟩
    | _ => exact hq)
def Zb (Q : Exit -> Al -> Prop) : Exit -> Al -> Prop
  | .goto _, _ => False
  | e, s => Q e s
theorem AGo.scope {c : Code} (h : AGo P c s (Zb Q)) : AGo P (.scope c) s Q := fun H ι a w hs =>
  wp_scope_straight (wp_mono (h H ι a w hs) fun e a' w' hp => by
    obtain ⟨s', H', ι', q, r, t⟩ := hp
    cases e with
    | goto l => exact q.elim
    | _ => exact ⟨s', H', ι', q, r, t⟩)
end
section
variable {P : Program} {T : Nat -> Option AC} {o : Oper} {e : Az} {h : Ab}
def MU (P : Program) (o : Oper) (e : Az) (h hn : Ab) (r : AV) : Prop :=
  ∀ (H : AB) (ι : A2) (a : Act) (w : World) (n : Nat) (Q : Exit -> Act -> World -> Prop), Sim H ι ⟨n, e, h⟩ a w ->
    o.wp P a w (fun a' w' => ∃ v H' ι', a' = a.put o.dst v /\ Rel H' ι' r v /\ HeapRel H' ι' hn w' /\ Step H ι h w H' ι' hn w') Q
theorem WL {f : FuncId} {fn : Func} {args : Array Operand} {tys : Array TypeId} {xs : List AV} {r : AV} {hc hw hn : Ab} (κ : Nat -> Bool) (ho : o.op = .call { callee := .value (.func f), args := args, argTypes := tys }) (hf : P.funcs[f]? = some fn) (hnm : (fn.name == "runtime.NumGoroutine") = false) (hb : fn.body.isSome = true)
    (hx : Ba e args.toList = some xs) (hxa : xs.all (AV.avoid κ) = true) (hL : ∀ b, κ b = true -> ∃ q, h b = some q /\ q.avoid κ = true) (hres' : EE h κ = hc) (hW : ∀ b, κ b = false -> hn b = h b)
    (hk : ∀ b, κ b = true -> ∃ q, hw b = some q /\ hn b = some q /\ q.avoid κ = true) (hra : r.avoid κ = true)
    (hcall : ACall P f xs hc (fun r' h' => r' = r /\ HSub hw h')) : MU P o e h hn r := by
  intro H ι a w n Q hs
  have hraa := CH hs hx
  have hra' : RelAll H (lcut ι κ) xs (args.map a.eval) := ⟨hraa.1, fun j x v h1 h2 => Df (hraa.2 j x v h1 h2) (DU hxa h1)⟩
  have hrc : HeapRel H (lcut ι κ) (EE h κ) w := by
    exact ZK
  have hcalls := hcall H (lcut ι κ) w _ hra' (hres' ▸ hrc)
  have hexec : (execOp a.eval o).run P w = .ok (.enter f (args.map a.eval)) w := by
    simp [execOp, ho, resolve, Act.eval, Deferred.ofValue, invoke, Cp hf hnm hb]
  exact ZI
theorem AOps.call {ops : Array Oper} {rest : List Oper} {n : Nat} {K : Al -> Prop} (d : Nat) {hn : Ab} {r : AV} (hd : o.dst = some d) (hb : Nat.blt d n = true) (hg : Ay ops o e = some true) (ho : MU P o e h hn r)
    (hr : AOps P ops rest ⟨n, Ad e d r, hn⟩ K) : AOps P ops (o :: rest) ⟨n, e, h⟩ K := by
  intro H ι a w hs
  unfold wpList
  rw [Bx hs hg]
  simp only [if_true]
  refine .inl (Oper.wp_mono (fun a' w' hx => ?_) (ho H ι a w n _ hs))
  obtain ⟨v, H', ι', rfl, h1, h2, h3⟩ := hx
  have hs' := hs.put (d := o.dst) (r := some r) h2 h3 (fun x ex => by cases ex; exact h1) (DZ hd hb)
  rw [hd] at hs' |-
  have := hr H' ι' _ w' hs'
  have key : ∀ (l : List Oper) (a1 : Act) (w1 : World), wpList P ops (Post H' ι' hn w' (DV K fun _ _ => False)) l a1 w1 -> wpList P ops (Post H ι h w (DV K fun _ _ => False)) l a1 w1 := by
    have hpost : ∀ e a2 w2, Post H' ι' hn w' (DV K fun _ _ => False) e a2 w2 -> Post H ι h w (DV K fun _ _ => False) e a2 w2 := fun e a2 w2 hp => Post.step hs.heap h2 h3 hp
    exact TZ
  exact key _ _ _ this
theorem WK {f : FuncId} {fn : Func} {args : Array Operand} {tys : Array TypeId} {xs : List AV} {r : AV} (R : List Nat) (W : List (Nat × AObj)) (ho : o.op = .call { callee := .value (.func f), args := args, argTypes := tys }) (hf : P.funcs[f]? = some fn) (hnm : (fn.name == "runtime.NumGoroutine") = false) (hb : fn.body.isSome = true)
    (hx : Ba e args.toList = some xs) (hcall : ∀ h' : Ab, (∀ b ∈ R, h' b = h b) -> ACall P f xs h' (fun r' h'' => r' = r /\ h'' = hputs h' W)) : OLoc P o e h R W (some r) := by
  intro H ι a w s Q hs g1 g2
  have hx' : Ba s.env args.toList = some xs := by
    exact V9
  have hcalls := hcall s.h g2 H ι w _ (CH hs hx') hs.heap
  have hexec : (execOp a.eval o).run P w = .ok (.enter f (args.map a.eval)) w := by
    simp [execOp, ho, resolve, Act.eval, Deferred.ofValue, invoke, Cp hf hnm hb]
  unfold Oper.wp
  rw [hexec]
  refine hcalls.mono fun en w' hh => ?_
  obtain ⟨v, r', h', H', ι', rfl, ⟨rfl, rfl⟩, k1, k2, k3⟩ := hh
  exact ⟨v, H', ι', rfl, fun x ex => by cases ex; exact k1, k2, k3⟩
theorem Rv (hT : Ck P T) {t : TypeId} {x y : Operand} {i j : AC} {u : Nat} {k k' : IntKind} {zi zj : Int} (ho : o.op = .makeSlice t x y) (hx : Aq e x = some (.int k zi)) (hy : Aq e y = some (.int k' zj)) (hni : zi = 0) (hnj : zj = 0) (hi : T t = some i) (hk : i.k = .slice u) (hj : T u = some j)
    (hz : j.zero.length = j.size) (hp : 0 < j.size) (h1 : j.zero.all AV.cell1 = true) : OLoc P o e h [] [] (some (.lst false [])) := by
  intro H ι a w s Q hs g1 g2
  have hx' : Aq s.env x = some (.int k zi) := by rw [g1 x (by rw [ho]; simp [Op.operands]), hx]
  have hy' : Aq s.env y = some (.int k' zj) := by rw [g1 y (by rw [ho]; simp [Op.operands]), hy]
  have hvx := (Ap hs hx').int_inv
  have hvy := (Ap hs hy').int_inv
  subst hni; subst hnj
  obtain ⟨info, d, e1, e2, e3, e4, e5, e6⟩ := An (hT _ _ hi)
  obtain ⟨info', d', e1', e2', e3', e4', e5', e6'⟩ := An (hT _ _ hj)
  have hd := A4 (P := P) (d := d) (e3 ▸ hk)
  subst hd
  obtain ⟨z, hz1, hz2⟩ := C9 e6' hz hp
  have hrun := run_make (P := P) w t u info' z e2 e1' hz1 k k' 0 0 (by omega) (by omega) (by simp) (by omega)
  have hexec : (execOp a.eval o).run P w = .ok (.value (.slice (some ⟨w.heap.size, 0, none⟩) 0 0)) (w.alloc (.cells (madeCells z.cells (0 * info'.size)) u)) := by
    simp only [execOp, ho, hvx, hvy, Sem.run_bind, hrun, Result.andThen_ok, Sem.run_pure, Int.toNat_zero]
  unfold Oper.wp
  rw [hexec]
  have hold : ∀ rb, rb < w.heap.size -> (w.alloc (.cells (madeCells z.cells (0 * info'.size)) u)).heap[rb]? = w.heap[rb]? := fun rb hlt => heap_alloc_old w _ hlt
  refine ⟨_, H, ι, rfl, (fun x ex => ?_), hs.heap.grow hold, Step.grow hold (by simp) rfl rfl⟩
  cases ex
  exact .lst0 _ _ _ _ (fun h => by cases h) (Nat.zero_le _) (fun _ => rfl) trivial
theorem I0 (hT : Ck P T) {t t' : TypeId} {x : Operand} {i : AC} {u : Nat} (ho : o.op = .binOp .eql t x (.const (.slice none 0 0)) t') (ht : T t = some i) (hk : i.k = .slice u) (a : Act) (w : World) {ad : Option Addr} {n c : Nat} (hv : a.eval x = .slice ad n c) :
    (execOp a.eval o).run P w = .ok (.value (.bool ad.isNone)) w := by
  obtain ⟨info, d, e1, e2, e3, e4, e5, e6⟩ := An (hT _ _ ht)
  have hd := A4 (P := P) (d := d) (e3 ▸ hk)
  subst hd
  have hc : a.eval (.const (.slice none 0 0)) = .slice none 0 0 := rfl
  have hg : (eqGuard .eql t x (.const (.slice none 0 0)) (.slice ad n c) (.slice none 0 0)).run P w = .ok () w := by unfold eqGuard; simp
  simp only [execOp, ho, hv, hc, Sem.run_bind, hg, Result.andThen_ok, Lib.run_eql_slice_nil w t u ad n c 0 0 e2, Sem.run_pure]
theorem Ru (hT : Ck P T) {t t' : TypeId} {x : Operand} {i : AC} {u : Nat} (ho : o.op = .binOp .eql t x (.const (.slice none 0 0)) t') (hx : Aq e x = some .nil) (ht : T t = some i) (hk : i.k = .slice u) : QLoc P o e h [] (.bool true) := by
  intro H ι a w s hs g1 g2
  have hx' : Aq s.env x = some .nil := by rw [g1 x (by rw [ho]; simp [Op.operands]), hx]
  exact ⟨_, .bool _ _, I0 hT ho ht hk a w (Ap hs hx').nil_inv⟩
theorem Wy (hT : Ck P T) {t t' : TypeId} {x : Operand} {i : AC} {u b n off len : Nat} {p : Bool} {sz : Nat} {es : List (List AV)} (ho : o.op = .binOp .eql t x (.const (.slice none 0 0)) t') (hx : Aq e x = some (.ref b n off len)) (ht : T t = some i) (hk : i.k = .slice u)
    (hb : h b = some (.row p sz es)) (hn : n = es.length) (hpos : 0 < n) : QLoc P o e h [b] (.bool false) := by
  intro H ι a w s hs g1 g2
  have hx' : Aq s.env x = some (.ref b n off len) := by rw [g1 x (by rw [ho]; simp [Op.operands]), hx]
  have hb' : s.h b = some (.row p sz es) := by rw [g2 b (by simp), hb]
  obtain ⟨r, hl, ⟨r1, r2, r3, r4, r5, r6⟩, r7⟩ := hs.heap.obj b _ hb' rfl
  have hsol : r.csz ≠ 0 := fun h0 => by
    have : 0 < es.length * sz := Nat.mul_pos (by omega) r2
    omega
  obtain ⟨hlen, cap, hvv, _⟩ := (Ap hs hx').ref_live hl (by omega) hsol
  exact ⟨_, .bool _ _, I0 hT ho ht hk a w hvv⟩
theorem UL (hT : Ck P T) {t t' : TypeId} {x : Operand} {i : AC} {u : Nat} {ex : Bool} {es : List (List AV)} (ho : o.op = .binOp .eql t x (.const (.slice none 0 0)) t') (hx : Aq e x = some (.lst ex es)) (ht : T t = some i) (hk : i.k = .slice u) :
    XT P o e h [] (fun W r => W = [] /\ ∃ v, r = .bool v) := by
  intro H ι a w s Q hs g1 g2
  have hx' : Aq s.env x = some (.lst ex es) := by rw [g1 x (by rw [ho]; simp [Op.operands]), hx]
  obtain ⟨ad, cap, hv⟩ := (Ap hs hx').lst_len
  unfold Oper.wp
  rw [I0 hT ho ht hk a w hv]
  exact ⟨[], _, _, H, ι, ⟨rfl, _, rfl⟩, rfl, .bool _ _, hs.heap, Step.refl _ _ _ _⟩
theorem KK (hT : Ck P T) {t : TypeId} {x : Operand} {i : AC} {u : Nat} {ex : Bool} (ho : o.op = .call { callee := .builtin .clear, args := #[x], argTypes := #[t] }) (hx : Aq e x = some (.lst ex [])) (ht : T t = some i) (hk : i.k = .slice u) : OLoc P o e h [] [] (some (.tup [])) := by
  intro H ι a w s Q hs g1 g2
  have hx' : Aq s.env x = some (.lst ex []) := by rw [g1 x FB, hx]
  obtain ⟨info, d, e1, e2, e3, e4, e5, e6⟩ := An (hT _ _ ht)
  have hd := A4 (P := P) (d := d) (e3 ▸ hk)
  subst hd
  obtain ⟨ad, cap, hv⟩ := (Ap hs hx').lst_len
  have hrun : (Builtin.clear_ #[t] o.type #[.slice ad 0 cap]).run P w = .ok (.tuple #[]) w := by
    cases ad <;> simp [Builtin.clear_, run_underlying e2]
  have hexec : (execOp a.eval o).run P w = .ok (.value (.tuple #[])) w := by
    simp only [execOp, ho, resolve, invoke, builtin, Sem.run_bind, Sem.run_pure, Result.andThen_ok, List.map_toArray, List.map_cons, List.map_nil]
    rw [show a.eval x = .slice ad 0 cap from hv, hrun]
    rfl
  unfold Oper.wp
  rw [hexec]
  exact ⟨_, H, ι, rfl, (fun x ex => by cases ex; exact .tup _ _ _ rfl (fun j x v h => by simp at h)), hs.heap, Step.refl _ _ _ _⟩
theorem Rw (hT : Ck P T) {t : TypeId} {x : Operand} {i j : AC} {u b n : Nat} {es : List (List AV)} {c0 : AV} (ho : o.op = .call { callee := .builtin .clear, args := #[x], argTypes := #[t] }) (hx : Aq e x = some (.ref b n 0 n)) (ht : T t = some i) (hk : i.k = .slice u) (hj : T u = some j)
    (hb : h b = some (.row true 1 es)) (hn : n = es.length) (hpos : 0 < n) (hz : j.zero = [c0]) (hsz : j.size = 1) (h1 : c0.cell1 = true) (hpu : c0.isPure1 = true) : OLoc P o e h [b] [(b, .row true 1 (List.replicate n [c0]))] (some (.tup [])) := by
  intro H ι a w s Q hs g1 g2
  have hx' : Aq s.env x = some (.ref b n 0 n) := by rw [g1 x FB, hx]
  have hb' : s.h b = some (.row true 1 es) := by rw [g2 b (by simp), hb]
  obtain ⟨info, d, e1, e2, e3, e4, e5, e6⟩ := An (hT _ _ ht)
  obtain ⟨info', d', e1', e2', e3', e4', e5', e6'⟩ := An (hT _ _ hj)
  have hd := A4 (P := P) (d := d) (e3 ▸ hk)
  subst hd
  obtain ⟨z, hz1, hz2⟩ := C9 e6' (by rw [hz, hsz]; rfl) (by omega)
  rw [hz] at hz2
  obtain ⟨z1, z2⟩ := Dh (H := H) (ι := AZ) hz2
  obtain ⟨cv, hcv⟩ : ∃ cv, z.cells = #[cv] := by
    exact Xz
  have hcr : Rel H AZ c0 cv := z2 0 c0 cv rfl (by rw [hcv]; rfl)
  have hc1 : cv.oneCell' = true := cell1_rel hcr h1
  subst hn
  obtain ⟨r, hl, ⟨r1, r2, r3, r4, r5, r6⟩, r7⟩ := hs.heap.obj b _ hb' rfl
  have hsol : r.csz ≠ 0 := fun h0 => by omega
  obtain ⟨hlen, cap, hvv, hlc, hcap, hmax⟩ := (Ap hs hx').ref_live hl (by omega) hsol
  obtain ⟨c, TT, w1, w2, w3⟩ := r6 hsol
  rw [r1] at hvv
  simp only [Nat.zero_mul] at hvv
  have hzc : (Builtin.zeroCells z.cells es.length).toList = List.replicate es.length cv := by
    rw [hcv]
    simp [Builtin.zeroCells]
    apply List.ext_getElem
    . simp
    . intro i h1 h2
      simp [Nat.mod_one]
  have hfit : 0 + 0 + (List.replicate es.length cv).length <= c.size := by rw [List.length_replicate, w2]; omega
  have hst := Cy P r.rb 0 TT (List.replicate es.length cv) 0 c w w1 hfit (by intro v hv; rw [List.eq_of_mem_replicate hv]; exact hc1)
  simp only [Nat.zero_add, List.take_zero, List.nil_append, List.length_replicate] at hst
  have hrun : (Builtin.clear_ #[t] o.type #[.slice (some ⟨r.rb, 0, none⟩) es.length cap]).run P w = .ok (.tuple #[]) (w.setRow r.rb (List.replicate es.length cv ++ c.toList.drop es.length).toArray) := by
    obtain ⟨m, hm⟩ : ∃ m, es.length = m + 1 := ⟨es.length - 1, by omega⟩
    rw [hm] at hzc hst |-
    simp [Builtin.clear_, run_underlying e2, zeroValue, typeInfo, e1', hz1, hzc, hst]
  have hexec : (execOp a.eval o).run P w = .ok (.value (.tuple #[])) (w.setRow r.rb (List.replicate es.length cv ++ c.toList.drop es.length).toArray) := by
    simp only [execOp, ho, resolve, invoke, builtin, Sem.run_bind, Sem.run_pure, Result.andThen_ok, List.map_toArray, List.map_cons, List.map_nil]
    rw [hvv, hrun]
    rfl
  generalize hC : (List.replicate es.length cv ++ c.toList.drop es.length).toArray = C at *
  have hCs : C.size = c.size := by rw [<- hC]; simp; omega
  have hrow : rowCells H AZ 1 (List.replicate es.length [c0]) C := by
    refine ⟨fun i cs e => by rw [List.eq_of_mem_replicate (List.mem_of_getElem? e)]; rfl, fun i cs k y e1 e2 => ?_⟩
    have hi : i < es.length := by have := (List.getElem?_eq_some_iff.1 e1).1; simpa using this
    have := List.eq_of_mem_replicate (List.mem_of_getElem? e1)
    subst this
    have hk0 : k = 0 := by have := (List.getElem?_eq_some_iff.1 e2).1; simp at this; omega
    subst hk0
    simp at e2
    subst e2
    refine ⟨cv, ?_, hcr, h1⟩
    rw [<- hC]
    simp only [List.getElem?_toArray]
    rw [List.getElem?_append_left (by simp; omega), List.getElem?_replicate, if_pos (by omega)]
  obtain ⟨u1, u2⟩ := hs.heap.upd (w' := w.setRow r.rb C) (o0 := .row true 1 es) (o' := .row true 1 (List.replicate es.length [c0])) (r' := r) hb' rfl
    (.inr ⟨r, hl, rfl, .inl rfl⟩) (fun _ => .inr ⟨r, hl, rfl, hsol, rfl⟩)
    (fun rb hlt' hne => setRow_other w r.rb rb _ (hne r hl rfl hsol)) (by simp) (EL _ _ _) (D1 _ _ _)
    ⟨r1, r2, by simp [r3], by simpa using r4, hrow.1, fun _ => ⟨C, TT, w1.setRow hCs, hCs.trans w2, hrow⟩⟩
  unfold Oper.wp
  rw [hexec]
  exact ⟨_, H, _, rfl, (fun x ex => by cases ex; exact .tup _ _ _ rfl (fun j x v h => by simp at h)), u1, u2⟩
end
section
variable {P : Program} {Q : Exit -> Al -> Prop} {s : Al} {c : Code}
end
section
variable {P : Program} {T : Nat -> Option AC} {o : Oper} {e : Az} {h : Ab}
end
def As (l : List UInt8) : List (List AV) := l.map fun b => [AV.int .u8 b.toNat]
theorem KG : ∀ (l : List UInt8) (s : ByteArray), (l.map (fun b : UInt8 => ((b.toNat : Nat) : Int))).foldl (fun r n => r.push (UInt8.ofNat n.toNat)) s = ⟨s.data ++ l.toArray⟩
  | [], s => by simp
  | b :: r, s => by
    simp only [List.map_cons, List.foldl_cons, Int.toNat_natCast, UInt8.ofNat_toNat]
    rw [KG r]
    show ByteArray.mk (s.data.push b ++ r.toArray) = _
    congr 1
    apply Array.toList_inj.1
    simp
theorem UD (l : List UInt8) : (l.map (fun b : UInt8 => ((b.toNat : Nat) : Int))).foldl (fun r n => r.push (UInt8.ofNat n.toNat)) ByteArray.empty = ⟨l.toArray⟩ := by
  rw [KG]
  show ByteArray.mk (#[] ++ l.toArray) = _
  simp
section
variable {P : Program} {T : Nat -> Option AC} {o : Oper} {e : Az} {h : Ab}
theorem F6 (hT : Ck P T) {t u : TypeId} {x : Operand} {l : List UInt8} {ex : Bool} {i j k : AC} {v : Nat} (ho : o.op = .convert t u x) (hx : Aq e x = some (.lst ex (As l))) (hi : T t = some i) (hik : i.k = .slice v) (hv : T v = some k) (hk : k.k = .int .u8) (hj : T u = some j) (hjk : j.k = .string) :
    QLoc P o e h [] (.str ⟨l.toArray⟩) := by
  intro H ι a w s hs g1 g2
  have hx' : Aq s.env x = some (.lst ex (As l)) := by rw [g1 x (by rw [ho]; simp [Op.operands]), hx]
  obtain ⟨info, d, e1, e2, e3, e4, e5, e6⟩ := An (hT _ _ hi)
  obtain ⟨info', d', e1', e2', e3', e4', e5', e6'⟩ := An (hT _ _ hj)
  obtain ⟨info'', d'', e1'', e2'', e3'', e4'', e5'', e6''⟩ := An (hT _ _ hv)
  have hd := A4 (P := P) (d := d) (e3 ▸ hik)
  subst hd
  have hd := EK (P := P) (d := d') (e3' ▸ hjk)
  subst hd
  have hd := M4 (P := P) (d := d'') (e3'' ▸ hk)
  subst hd
  have hvx := Ap hs hx'
  generalize hva : a.eval x = va at hvx
  refine ⟨_, .str _ _, ?_⟩
  simp only [execOp, ho, hva, Sem.run_bind]
  have key : (Go.convert t u va).run P w = .ok (.string ⟨l.toArray⟩) w := by
    rcases hvx.lst_inv with ⟨hl, ad, cap, rfl, h1, h2, h3, h4⟩ | ⟨hne, b, off, cap, sz, c, vals, rfl, hb, hsz', hv', hr, hc1, hex, hcap, hmax⟩
    . have hl0 : l = [] := by simpa [As] using hl
      subst hl0
      cases ad with
      | none => simp [Go.convert, Au e2, Au e2', Au e2'', Conv.bytesToString, Sem.run_pure]; rfl
      | some ad =>
        rw [run_convert_bytes_string w t u v (some ad) 0 cap e2 e2'' e2']
        rw [run_bytesToString w ad 0 cap [] (by simpa using run_loadCells (P := P) (w := w) ad 0 (fun _ => undef) (fun j hj => by omega))]
        rfl
    . rw [run_convert_bytes_string w t u v (some ⟨b, off, none⟩) (As l).length cap e2 e2'' e2']
      obtain ⟨TT, fr, hbw⟩ := hs.heap.know b c hb
      have hlen : (As l).length = l.length := by simp [As]
      rw [run_bytesToString w _ _ cap (l.map (fun b : UInt8 => ((b.toNat : Nat) : Int))) ?_, UD]
      have hld := run_loadCells_list (P := P) (w := w) ⟨b, off, none⟩ (l.map (fun b : UInt8 => Value.int .u8 b.toNat)) (fun j y hj => by
        rw [List.getElem?_map] at hj
        cases hlj : l[j]? with
        | none => rw [hlj] at hj; cases hj
        | some n =>
          rw [hlj] at hj
          cases hj
          have hbc : (As l)[j]? = some [AV.int .u8 n.toNat] := by simp [As, hlj]
          have hsz : sz = 1 := (hsz' j _ hbc).symm
          subst hsz
          have q1 := hv' j _ 0 _ hbc rfl
          have q2 := (hr j _ 0 _ hbc rfl).int_inv
          rw [Ed, GU hbw]
          rw [q2, Nat.mul_one, Nat.add_zero] at q1
          exact q1)
      rw [hlen]
      simpa [List.map_map, Function.comp_def] using hld
  simp only [key, Result.andThen_ok, Sem.run_pure]
end
section
variable {P : Program} {T : Nat -> Option AC} {o : Oper} {e : Az} {h : Ab}
end
section
variable {P : Program} {T : Nat -> Option AC} {o : Oper} {e : Az} {h : Ab}
def Ry (f : Bool) (b : Nat) (es : List (List AV)) : AV := bif f then .lst true es else .ref b es.length 0 es.length
def K4 (f : Bool) (sz : Nat) (es : List (List AV)) : AObj := bif f then .free else .row true sz es
theorem SD (hT : Ck P T) {t t' : TypeId} {x y : Operand} {i i' j : AC} {u u' : Nat} {f ex2 : Bool} {sz : Nat} {es es2 : List (List AV)} (b : Nat)
    (ho : o.op = .call { callee := .builtin .append, args := #[x, y], argTypes := #[t, t'] }) (hx : Aq e x = some (Ry f b es)) (hy : Aq e y = some (.lst ex2 es2)) (hi : T t = some i) (hk : i.k = .slice u) (hj : T u = some j) (hi' : T t' = some i') (hk' : i'.k = .slice u')
    (hb : h b = some (K4 f sz es)) (hsz : sz = j.size) (hz : j.zero.length = j.size) (hp : 0 < j.size)
    (hu : ∀ cs ∈ es, cs.length = sz) (hpu : ∀ cs ∈ es, cs.all AV.isPure1 = true) (hu2 : ∀ cs ∈ es2, cs.length = sz) (hpure : ∀ cs ∈ es2, cs.all AV.isPure1 = true)
    (hby : (es.length + es2.length) * j.bytes <= 140737488355328) (hml : es.length + es2.length <= maxLen) :
    OLoc P o e h [b] [(b, K4 (f && es2.isEmpty) sz (es ++ es2))] (some (Ry (f && es2.isEmpty) b (es ++ es2))) := by
  cases f with
  | false =>
    have := E2 hT ho hx hy hi hk hj hi' hk' hb rfl hsz hz hp (.lst ex2 es2) hu2 (fun _ => hpure) (m := es2.length) rfl hby hml
    simpa [Ry, K4] using this
  | true =>
    simp only [Ry, K4, cond_true] at hx hb
    cases hes2 : es2 with
    | nil =>
      subst hes2
      simp only [List.isEmpty_nil, Bool.and_self, List.append_nil, K4, Ry, cond_true]
      intro H ι a w s Q hs g1 g2
      have hx' : Aq s.env x = some (.lst true es) := by rw [g1 x FB, hx]
      have hy' : Aq s.env y = some (.lst ex2 []) := by rw [g1 y FB, hy]
      have hb' : s.h b = some .free := by rw [g2 b (by simp), hb]
      obtain ⟨info, d, e1, e2, e3, e4, e5, e6⟩ := An (hT _ _ hi)
      obtain ⟨infou, du, f1, f2, f3, f4, f5, f6⟩ := An (hT _ _ hj)
      obtain ⟨info', d', e1', e2', e3', e4', e5', e6'⟩ := An (hT _ _ hi')
      have hd := A4 (P := P) (d := d) (e3 ▸ hk)
      subst hd
      have hd' := A4 (P := P) (d := d') (e3' ▸ hk')
      subst hd'
      have hvx := Ap hs hx'
      have hvy := Ap hs hy'
      generalize hva : a.eval x = va at hvx
      generalize hvb : a.eval y = vb at hvy
      obtain ⟨news, hsrcw, hnews⟩ := M6 hs.heap (SrcOf.lst ex2 []) hvy e2' hp (by intro cs h; cases h) w rfl
      rw [<- f4] at hsrcw
      have hnn : news = [] := List.eq_nil_of_length_eq_zero (by rw [hsrcw.newsLen]; simp)
      subst hnn
      have hsame : hputs s.h [(b, .free)] = s.h := by
        funext c
        by_cases hc : c = b
        . subst hc; simp [hputs, AA, hb']
        . simp [hputs, Aj _ _ hc]
      have hexec : ∀ (v : Value) (w' : World), (Builtin.append_ #[t, t'] o.type #[va, vb]).run P w = .ok v w' -> (execOp a.eval o).run P w = .ok (.value v) w' := fun v w' hrun => by
        exact Wa
      have hrun : (Builtin.append_ #[t, t'] o.type #[va, vb]).run P w = .ok va w := by
        rcases hvx.lst_inv with ⟨rfl, ad, cap, rfl, h1, h2, h3, h4⟩ | ⟨hne, b0, off, cap, sz0, c, vals, rfl, hb0, hsz', hv, hr, hc1, hex, hcap, hmax⟩
        . have := h1 rfl
          subst this
          exact GF t t' o.type u infou e2 f1 ad vb hsrcw
        . have hsrc0 : Src P infou.size t' vb 0 [] w := hsrcw
          have h1 := hsrc0.len
          have h2 := hsrc0.cells
          rcases hsrcw.kind with ⟨e', hk⟩ | hk <;> simp [Builtin.append_, run_underlying e2, run_underlying hk, sizeOf, typeInfo, f1, h1, h2, hcap, storeCells]
      unfold Oper.wp
      rw [hexec _ _ hrun, hsame]
      exact ⟨va, H, ι, rfl, (fun x ex => by have := Option.some.inj ex; subst this; exact hvx), hs.heap, Step.refl _ _ _ _⟩
    | cons y0 r0 =>
      rw [<- hes2]
      have hpos : 0 < es2.length := by rw [hes2]; simp
      have hie : es2.isEmpty = false := by rw [hes2]; rfl
      simp only [hie, Bool.and_false, K4, Ry, cond_false]
      subst hsz
      refine Et hb (by simp) hp fun H ι a w s hs g1 g2 => ?_
      have hx' : Aq s.env x = some (.lst true es) := by rw [g1 x FB, hx]
      have hy' : Aq s.env y = some (.lst ex2 es2) := by rw [g1 y FB, hy]
      obtain ⟨info, d, e1, e2, e3, e4, e5, e6⟩ := An (hT _ _ hi)
      obtain ⟨infou, du, f1, f2, f3, f4, f5, f6⟩ := An (hT _ _ hj)
      obtain ⟨info', d', e1', e2', e3', e4', e5', e6'⟩ := An (hT _ _ hi')
      have hd := A4 (P := P) (d := d) (e3 ▸ hk)
      subst hd
      have hd' := A4 (P := P) (d := d') (e3' ▸ hk')
      subst hd'
      obtain ⟨z, hz1, hz2⟩ := C9 f6 hz hp
      have hzl : z.cells.size = j.size := by rw [<- hz]; simpa using (Dh (H := H) (ι := AZ) hz2).1.symm
      have hvx := Ap hs hx'
      have hvy := Ap hs hy'
      generalize hva : a.eval x = va at hvx
      generalize hvb : a.eval y = vb at hvy
      have hexec : ∀ (v : Value) (w' : World), (Builtin.append_ #[t, t'] o.type #[va, vb]).run P w = .ok v w' -> (execOp a.eval o).run P w = .ok (.value v) w' := fun v w' hrun => by
        exact Wa
      obtain ⟨news, hsrcw, hnews⟩ := M6 hs.heap (SrcOf.lst ex2 es2) hvy e2' hp hu2 w rfl
      rw [<- f4] at hsrcw
      have hnl : news.length = es2.length * j.size := by rw [hsrcw.newsLen, f4]
      have h63 : ((es.length + es2.length : Nat) : Int) <= 9223372036854775807 := by
        have := hml; simp only [maxLen] at this; omega
      -- what stands there already
      obtain ⟨base, olds, hv, hold, hol, holdr⟩ : ∃ (base : Option Addr) (olds : List Value), va = .slice base es.length es.length /\ (Builtin.firstCells infou.size es.length (.slice base es.length es.length)).run P w.drew = .ok olds.toArray w.drew /\ olds.length = es.length * j.size /\
          (∀ (i : Nat) (cs : List AV) (k : Nat) (x : AV), es[i]? = some cs -> cs[k]? = some x -> ∃ v, olds[i * j.size + k]? = some v /\ Rel H AZ x v /\ x.cell1 = true) := by
        rcases hvx.lst_inv with ⟨rfl, ad, cap, rfl, h1, h2, h3, h4⟩ | ⟨hne, b0, off, cap, sz0, c, vals, rfl, hb0, hsz', hv, hr, hc1, hex, hcap, hmax⟩
        . have := h1 rfl
          subst this
          refine ⟨ad, [], rfl, ?_, by simp, fun i cs k x h1 => by simp at h1⟩
          cases ad <;> simp [Builtin.firstCells, loadCells, loadCellsFrom]
        . have hcl := hex rfl
          subst hcl
          obtain ⟨TT, fr, hbw⟩ := hs.heap.know b0 c hb0
          have hss : sz0 = j.size := by
            cases es with
            | nil => exact absurd rfl hne
            | cons cs es => rw [<- hsz' 0 cs (by simp), hu cs (by simp)]
          subst hss
          have hget : ∀ k, k < es.length * j.size -> ∃ v, c[off + k]? = some v := fun k hk => by
            have hi : k / j.size < es.length := Nat.div_lt_of_lt_mul (by rw [Nat.mul_comm]; exact hk)
            have hm : k % j.size < j.size := Nat.mod_lt _ hp
            have hjj : k / j.size * j.size + k % j.size = k := by rw [Nat.mul_comm]; exact Nat.div_add_mod k j.size
            have h1 : es[k / j.size]? = some es[k / j.size] := List.getElem?_eq_getElem hi
            have h2 : (es[k / j.size])[k % j.size]? = some ((es[k / j.size])[k % j.size]'(by rw [hsz' _ _ h1]; exact hm)) := List.getElem?_eq_getElem _
            have := hv _ _ _ _ h1 h2
            rw [Nat.add_assoc, hjj] at this
            exact ⟨_, this⟩
          have hfit : off + es.length * j.size <= c.size := by
            rcases Nat.eq_zero_or_pos (es.length * j.size) with h0 | h0
            . have := List.length_pos_iff.2 hne
              have := Nat.mul_pos this hp
              omega
            . obtain ⟨v, hv⟩ := hget (es.length * j.size - 1) (by omega)
              have := (Array.getElem?_eq_some_iff.1 hv).1
              omega
          have hg : ∀ k, k < es.length * j.size -> ((c.toList.drop off).take (es.length * j.size))[k]? = c[off + k]? := fun k hk => by
            rw [List.getElem?_take_of_lt hk, List.getElem?_drop, Array.getElem?_toList]
          have hl : ((c.toList.drop off).take (es.length * j.size)).length = es.length * j.size := by simp; omega
          refine ⟨_, (c.toList.drop off).take (es.length * j.size), rfl, ?_, hl, fun i cs k x h1 h2 => ?_⟩
          . rw [f4]
            refine run_firstCells_some (P := P) w.drew j.size es.length ⟨b0, off, none⟩ es.length es.length _ hl (fun k v hk => ?_)
            have hkl : k < es.length * j.size := by
              have := (List.getElem?_eq_some_iff.1 hk).1
              omega
            rw [hg k hkl] at hk
            rw [Ed, World.cell?_drew, GU hbw]
            exact hk
          . have hi : i < es.length := (List.getElem?_eq_some_iff.1 h1).1
            have hkk : k < j.size := by rw [<- hsz' i cs h1]; exact (List.getElem?_eq_some_iff.1 h2).1
            have h3 := hv i cs k x h1 h2
            exact ⟨_, by rw [hg _ (Cd hi hkk), <- Nat.add_assoc]; exact h3, hr i cs k x h1 h2, hc1 i cs k x h1 h2⟩
      have hfit : Builtin.nextslicecap (es.length + es2.length) es.length * infou.bytes <= 281474976710656 := growslice_fits (by omega) (by rw [f5]; exact hby)
      have hrun := run_append_grow_src (P := P) w t t' o.type u infou z e2 f1 hz1 base es.length es.length olds hold vb es2.length news hsrcw (by omega) h63 hfit
      have hge := grownCap_ge w (es.length + es2.length) es.length u
      have hcm : grownCap w (es.length + es2.length) es.length u <= maxLen := grownCap_le_maxLen w _ es.length u hml
      generalize hcc : grownCap w (es.length + es2.length) es.length u = nc at *
      generalize hC : (olds ++ news).toArray ++ Builtin.zeroCells z.cells (nc - (es.length + es2.length)) = C at *
      have hCs : C.size = nc * j.size := by
        rw [<- hC, Array.size_append, size_zeroCells, hzl]
        simp only [List.size_toArray, List.length_append, hol, hnl, <- Nat.add_mul]
        congr 1; omega
      have hCg : ∀ k, k < olds.length + news.length -> C[k]? = (olds ++ news)[k]? := fun k hk => by
        rw [<- hC, Array.getElem?_append_left (by simp; omega)]
        simp
      have hnewsp : ∀ (i : Nat) (cs : List AV) (k : Nat) (y : AV), es2[i]? = some cs -> cs[k]? = some y -> ∃ v, news[i * j.size + k]? = some v /\ Rel H AZ y v /\ y.cell1 = true := fun i cs k y h1 h2 => by
        obtain ⟨v, k1, k2, k3⟩ := hnews i cs k y h1 h2
        exact ⟨v, k1, CR (List.all_eq_true.1 (hpure cs (List.mem_of_getElem? h1)) y (List.mem_of_getElem? h2)) k2, k3⟩
      refine ⟨_, C, u, w.drew, rfl, rfl, rfl, ?_, Ev hol hnl hu2 (fun i cs h => hu cs (List.mem_of_getElem? h)) holdr hnewsp hCg, hexec _ _ (hv ▸ hrun), ?_⟩
      . rw [List.length_append, hCs]; exact Nat.mul_le_mul_right _ hge
      . have := Rel.refL (H := H) (Dq ι b ⟨w.heap.size, j.size, (es ++ es2).length, C.size⟩) b (es ++ es2).length 0 (es ++ es2).length nc _ (Bn _ _ _) rfl (by omega) (by rw [List.length_append]; exact hge) (by simp [hCs]) hcm
        simpa using this
end
theorem Ghost.trans {s s' s'' : Al} (g1 : Ghost s s') (g2 : Ghost s' s'') : Ghost s s'' := fun H ι a w hs => by
  obtain ⟨H1, ι1, h1, s1⟩ := g1 H ι a w hs
  obtain ⟨H2, ι2, h2, s2⟩ := g2 H1 ι1 a w h1
  exact ⟨H2, ι2, h2, Step.trans hs.heap s1 h1.heap s2⟩
theorem SH {H : AB} {ι : A2} {v : Value} (h : Rel H ι .nil v) : Rel H ι (.lst false []) v := by
  rw [h.nil_inv]; exact .lst0 _ _ _ _ (fun h => by cases h) (Nat.zero_le _) (fun _ => rfl) trivial
theorem Di {h : Ab} {k b : Nat} (hh : HSub (Bl k) h) (hb : b < k) : HSub (Bl k) (hrm h b) := fun c x hx => by
  have hne : c ≠ b := fun e => by
    subst e
    have h1 : Nat.blt c k = true := by rw [Nat.blt_eq]; exact hb
    simp only [Bl, h1, cond_true] at hx
    cases hx
  rw [Fv _ hne]; exact hh c x hx
def RQ (K : IntKind) (l : List Int) : List AV := l.map fun n => .int K n
def Xr (K : IntKind) (l : List Int) : Array Value := (l.map fun n => Value.int K n).toArray
section
variable {P : Program}
end
abbrev Xw := List (List Int × AV)
def ST (K : IntKind) (m : Xw) : List (AV × AV) := m.map fun p => (.agg (RQ K p.1), p.2)
inductive EntRelA (H : AB) (K : IntKind) : Xw -> List MapEntry -> Prop
  | nil : EntRelA H K [] []
  | cons (z : List Int) (v : AV) (m : Xw) (e : MapEntry) (es : List MapEntry) (hk : e.key = .agg (Xr K z)) (hv : Rel H AZ v e.val) (h : EntRelA H K m es) : EntRelA H K ((z, v) :: m) (e :: es)
theorem WR (H : AB) (K : IntKind) (z : List Int) : Rel H AZ (.agg (RQ K z)) (.agg (Xr K z)) :=
  .agg _ _ _ (by simp [RQ, Xr]) fun j x u h1 h2 => by
    simp only [RQ, List.getElem?_map, Option.map_eq_some_iff] at h1
    obtain ⟨n, hn, rfl⟩ := h1
    have : u = .int K n := by simpa [Xr, hn] using h2.symm
    subst this
    exact .int _ _ _
theorem EntRelA.out {H : AB} {K : IntKind} {m : Xw} {es : List MapEntry} (h : EntRelA H K m es) : (ST K m).length = es.length /\ ∀ (j : Nat) (k v : AV), (ST K m)[j]? = some (k, v) -> ∃ e, es[j]? = some e /\ Rel H AZ k e.key /\ Rel H AZ v e.val := by
  induction h with
  | nil => exact ⟨rfl, fun j k v h => by simp [ST] at h⟩
  | cons z v m e es hk hv h ih =>
    refine ⟨by simpa [ST] using ih.1, fun j k u hj => ?_⟩
    cases j with
    | zero =>
      simp [ST] at hj
      obtain ⟨rfl, rfl⟩ := hj
      exact ⟨e, rfl, by rw [hk]; exact WR _ _ _, hv⟩
    | succ j =>
      obtain ⟨e', k1, k2⟩ := ih.2 j k u (by simpa [ST] using hj)
      exact ⟨e', by simpa using k1, k2⟩
section
variable {P : Program} {T : Nat -> Option AC} {o : Oper} {e : Az} {h : Ab}
end
def HF (b : Nat) (es : List (List AV)) : AV := Ry es.isEmpty b es
def Mc (sz : Nat) (es : List (List AV)) : AObj := K4 es.isEmpty sz es
def fz (b : Nat) (es : List (List AV)) : AV := bif es.isEmpty then .lst false [] else .ref b es.length 0 es.length
def fy (es : List (List AV)) : AObj := bif es.isEmpty then .free else .row true 1 es
theorem M7 {α : Type} (l : List α) (x : α) : (l ++ [x]).isEmpty = false := by cases l <;> rfl
theorem N1 (b : Nat) (es : List (List AV)) (x : List AV) : HF b (es ++ [x]) = .ref b (es.length + 1) 0 (es.length + 1) := by
  simp [HF, M7, Ry]
theorem N0 (sz : Nat) (es : List (List AV)) (x : List AV) : Mc sz (es ++ [x]) = .row true sz (es ++ [x]) := by
  simp [Mc, M7, K4]
theorem SV (f : Bool) (b : Nat) (es : List (List AV)) : (Ry f b es).cells = [Ry f b es] := by cases f <;> rfl
theorem Sg (b : Nat) (es : List (List AV)) : (HF b es).cells = [HF b es] := SV _ _ _
theorem Sh (b : Nat) (es : List (List AV)) : (HF b es).cell1 = true := by unfold HF Ry; cases es.isEmpty <;> rfl
theorem FC {k : Nat -> Bool} {b : Nat} (es : List (List AV)) (h : k b = true) : (HF b es).avoid k = true := by unfold HF Ry; cases es.isEmpty <;> simp [AV.avoid, AV.flat, h]
theorem L6 {k : Nat -> Bool} {b : Nat} (es : List (List AV)) (h : k b = true) : (fz b es).avoid k = true := by unfold fz; cases es.isEmpty <;> simp [AV.avoid, AV.flat, h]
theorem Db {k : Nat -> Bool} (sz : Nat) (es : List (List AV)) : (Mc sz es).avoid k = true := by unfold Mc K4; cases es.isEmpty <;> rfl
theorem L5 {k : Nat -> Bool} (es : List (List AV)) : (fy es).avoid k = true := by unfold fy; cases es.isEmpty <;> rfl
section
variable {P : Program} {T : Nat -> Option AC} {o : Oper} {e : Az} {h : Ab}
theorem UI (hT : Ck P T) {t : TypeId} {x y : Operand} {b m k off : Nat} {p : Bool} {sz : Nat} {es : List (List AV)} {cs : List AV} {q : AV} {i : AC} (ho : o.op = .store t x y) (hd : o.dst = none) (hx : Aq e x = some (.ptr b m k off)) (hy : Aq e y = some q) (hi : T t = some i) (his : i.size = 1)
    (hb : h b = some (.row p sz es)) (hm : m = es.length) (hk : es[k]? = some cs) (hq : q.cells = [q]) (hfit : off + 1 <= sz) (h1 : q.cell1 = true) (hp : p = true -> q.isPure1 = true) :
    OLoc P o e h [b] [(b, .row p sz (es.set k (Dl cs off [q])))] none := by
  have := o_store hT ho hd hx hy hi hb hm hk (by rw [hq, his]; rfl) (by rw [his]; exact hfit) (by rw [hq]; simp [h1]) (fun h => by rw [hq]; simp [hp h])
  rwa [hq] at this
theorem o_append1J (hT : Ck P T) {t t' : TypeId} {x y : Operand} {i i' j : AC} {u u' : Nat} {ex2 : Bool} {sz : Nat} {es : List (List AV)} {x0 : List AV} {b : Nat}
    (ho : o.op = .call { callee := .builtin .append, args := #[x, y], argTypes := #[t, t'] }) (hx : Aq e x = some (HF b es)) (hy : Aq e y = some (.lst ex2 [x0])) (hi : T t = some i) (hk : i.k = .slice u) (hj : T u = some j) (hi' : T t' = some i') (hk' : i'.k = .slice u')
    (hb : h b = some (Mc sz es)) (hsz : sz = j.size) (hz : j.zero.length = j.size) (hp : 0 < j.size)
    (hu : ∀ cs ∈ es, cs.length = sz) (hpu : ∀ cs ∈ es, cs.all AV.isPure1 = true) (hu2 : x0.length = sz) (hpure : x0.all AV.isPure1 = true)
    (hby : (es.length + 1) * j.bytes <= 140737488355328) (hml : es.length + 1 <= maxLen) :
    OLoc P o e h [b] [(b, Mc sz (es ++ [x0]))] (some (HF b (es ++ [x0]))) := by
  have := SD (f := es.isEmpty) hT b ho hx hy hi hk hj hi' hk' hb hsz hz hp hu hpu (by simpa using hu2) (by simpa using hpure) hby hml
  have e1 : (es.isEmpty && [x0].isEmpty) = (es ++ [x0]).isEmpty := by rw [M7]; simp
  rw [e1] at this
  exact this
end
theorem DW {n : Nat} {e : Az} {h : Ab} (b : Nat) {sz : Nat} {es es' : List (List AV)} (hb : h b = some (.row false sz es)) (hl : es'.length = es.length)
    (hw : ∀ (i : Nat) (cs cs' : List AV), es[i]? = some cs -> es'[i]? = some cs' -> cs'.length = cs.length /\ ∀ (j : Nat) (x y : AV), cs[j]? = some x -> cs'[j]? = some y -> (x.cell1 = true -> y.cell1 = true) /\ ∀ H ι v, Rel H ι x v -> Rel H ι y v) : Ghost ⟨n, e, h⟩ ⟨n, e, hput h b (.row false sz es')⟩ := fun H ι a w hs => by
  obtain ⟨r, hr, ⟨r1, r2, r3, r4, r5, r6⟩, r7⟩ := hs.heap.obj b _ hb rfl
  have hlput : Dq ι b r = ι := by
    funext c
    by_cases hc : c = b
    . subst hc; rw [Bn, hr]
    . rw [Dv _ _ hc]
  have hget : ∀ (i : Nat) (cs' : List AV), es'[i]? = some cs' -> ∃ cs, es[i]? = some cs := fun i cs' hi => by
    have : i < es'.length := (List.getElem?_eq_some_iff.1 hi).1
    exact ⟨es[i]'(by omega), List.getElem?_eq_getElem (by omega)⟩
  have := hs.heap.upd (o' := .row false sz es') (r' := r) (w' := w) hb rfl (.inr ⟨r, hr, rfl, .inl rfl⟩) (fun hsol => .inr ⟨r, hr, rfl, hsol, rfl⟩) (fun _ _ _ => rfl) (Nat.le_refl _) rfl rfl
    ⟨r1, r2, by rw [hl]; exact r3, by rw [hl]; exact r4, fun i cs' hi => by
      obtain ⟨cs, hc⟩ := hget i cs' hi
      rw [(hw i cs cs' hc hi).1]; exact r5 i cs hc, fun hsol => by
      obtain ⟨c, T, c1, c2, c3, c4⟩ := r6 hsol
      refine ⟨c, T, c1, c2, fun i cs' hi => ?_, ?_⟩
      . obtain ⟨cs, hc⟩ := hget i cs' hi
        rw [(hw i cs cs' hc hi).1]; exact r5 i cs hc
      rw [hlput]
      intro i cs' j y hi hj
      obtain ⟨cs, hc⟩ := hget i cs' hi
      obtain ⟨w1, w2⟩ := hw i cs cs' hc hi
      have hjlt : j < cs'.length := (List.getElem?_eq_some_iff.1 hj).1
      have hx : cs[j]? = some (cs[j]'(by omega)) := List.getElem?_eq_getElem (by omega)
      obtain ⟨v, v1, v2, v3⟩ := c4 i cs j _ hc hx
      obtain ⟨g1, g2⟩ := w2 j _ y hx hj
      exact ⟨v, v1, g2 _ _ _ v2, g1 v3⟩⟩
  rw [hlput] at this
  exact ⟨H, ι, ⟨hs.n, hs.d, hs.env, this.1⟩, this.2⟩
section
variable {P : Program} {T : Nat -> Option AC} {o : Oper} {e : Az} {h : Ab}
end
section
variable {P : Program} {T : Nat -> Option AC} {o : Oper} {e : Az} {h : Ab}
theorem Qe (hT : Ck P T) {t t' : TypeId} {x y : Operand} {i i' j : AC} {u u' : Nat} {ex2 : Bool} {sz : Nat} {es : List (List AV)} {x0 : List AV} {b : Nat}
    (ho : o.op = .call { callee := .builtin .append, args := #[x, y], argTypes := #[t, t'] }) (hx : Aq e x = some (HF b es)) (hy : Aq e y = some (.lst ex2 [x0])) (hi : T t = some i) (hk : i.k = .slice u) (hj : T u = some j) (hi' : T t' = some i') (hk' : i'.k = .slice u')
    (hb : h b = some (Mc sz es)) (hsz : sz = j.size) (hz : j.zero.length = j.size) (hp : 0 < j.size)
    (hu : ∀ cs ∈ es, cs.length = sz) (hpu : ∀ cs ∈ es, cs.all AV.isPure1 = true) (hu2 : x0.length = sz) (hpure : x0.all AV.isPure1 = true)
    (hby : (es.length + 1) * j.bytes <= 140737488355328) (hml : es.length + 1 <= maxLen) :
    OLoc P o e h [b] [(b, .row true sz (es ++ [x0]))] (some (.ref b (es.length + 1) 0 (es.length + 1))) := by
  have := o_append1J hT ho hx hy hi hk hj hi' hk' hb hsz hz hp hu hpu hu2 hpure hby hml
  rwa [N1, N0] at this
end
def fam (base : Ab) (F : Nat -> AObj) : Ab := fun c => bif Nat.ble 16 c then some (F (c - 16)) else base c
theorem AJ (base : Ab) (F : Nat -> AObj) (x : Nat) : fam base F (x + 16) = some (F x) := by
  have : Nat.ble 16 (x + 16) = true := by rw [Nat.ble_eq]; omega
  simp only [fam, this, cond_true, Nat.add_sub_cancel]
theorem GO (base : Ab) (F : Nat -> AObj) {c : Nat} (h : c < 16) : fam base F c = base c := by
  have : Nat.ble 16 c = false := by rw [<- Bool.not_eq_true, Nat.ble_eq]; omega
  simp only [fam, this, cond_false]
def SF : List AObj -> Nat -> AObj
  | [], _ => .free
  | o :: _, 0 => o
  | _ :: L, n + 1 => SF L n
def nb (L : List AObj) : Ab := fun c => some (SF L c)
def kf (k0 : Nat) : Nat -> Bool := fun c => Nat.blt c k0 || Nat.ble 16 c
theorem kf_hi (k0 x : Nat) : kf k0 (x + 16) = true := by
  have : Nat.ble 16 (x + 16) = true := by rw [Nat.ble_eq]; omega
  simp [kf, this]
theorem U1 {k0 c : Nat} (h : kf k0 c = false) : k0 <= c /\ c < 16 := by
  simp only [kf, Bool.or_eq_false_iff] at h
  obtain ⟨h1, h2⟩ := h
  rw [<- Bool.not_eq_true, Nat.blt_eq] at h1
  rw [<- Bool.not_eq_true, Nat.ble_eq] at h2
  omega
theorem nth_out : ∀ {L : List AObj} {c : Nat}, L.length <= c -> SF L c = .free
  | [], _, _ => rfl
  | _ :: L, 0, h => absurd h (by simp)
  | _ :: L, c + 1, h => nth_out (L := L) (by simpa using h)
def LowAt (h : Ab) (k : Nat -> Bool) : Nat -> List AObj -> Prop
  | _, [] => True
  | i, o :: L => (h i = some o /\ o.avoid k = true) /\ LowAt h k (i + 1) L
theorem LowAt.get {h : Ab} {k : Nat -> Bool} : ∀ {L : List AObj} {i c : Nat}, LowAt h k i L -> c < L.length -> h (i + c) = some (SF L c) /\ (SF L c).avoid k = true
  | [], _, _, _, hc => absurd hc (by simp)
  | o :: L, i, 0, hl, _ => hl.1
  | o :: L, i, c + 1, hl, hc => by
    have := LowAt.get (L := L) (i := i + 1) (c := c) hl.2 (by simpa using hc)
    rw [show i + (c + 1) = i + 1 + c by omega]
    exact this
theorem Fk {L : List AObj} {F : Nat -> AObj} {k0 : Nat} (hk : L.length = k0) {c : Nat} (h : kf k0 c = false) : fam (nb L) F c = some .free := by
  obtain ⟨h1, h2⟩ := U1 h
  rw [GO _ _ h2]
  show some (SF L c) = _
  rw [nth_out (by omega)]
theorem Hc {L : List AObj} {F : Nat -> AObj} {k0 : Nat} {h : Ab} (hk : L.length = k0) (h1 : LowAt h (kf k0) 0 L) (h2 : ∀ x, h (x + 16) = some (F x)) (h3 : ∀ x, (F x).avoid (kf k0) = true) : HDropK (kf k0) (fam (nb L) F) h := by
  intro c o ho
  cases hc : kf k0 c with
  | false =>
    rw [Fk hk hc] at ho
    cases ho
    exact .inr ⟨rfl, rfl⟩
  | true =>
    by_cases h16 : 16 <= c
    . obtain ⟨x, rfl⟩ : ∃ x, c = x + 16 := ⟨c - 16, by omega⟩
      rw [AJ] at ho; cases ho
      exact .inl ⟨h2 x, fun _ => ⟨rfl, h3 x⟩⟩
    . have hlt : c < k0 := by
        simp only [kf, Bool.or_eq_true, Nat.blt_eq, Nat.ble_eq] at hc
        omega
      rw [GO _ _ (by omega)] at ho
      have ho' : some (SF L c) = some o := ho
      cases ho'
      have := h1.get (c := c) (by omega)
      rw [Nat.zero_add] at this
      exact .inl ⟨this.1, fun _ => ⟨rfl, this.2⟩⟩
theorem EA {L : List AObj} {F : Nat -> AObj} {k0 : Nat} {h : Ab} (hk : L.length = k0) (h1 : LowAt h (kf k0) 0 L) (h2 : ∀ x, h (x + 16) = some (F x)) (h3 : ∀ c, k0 <= c -> c < 16 -> h c = some .free) : HSub (fam (nb L) F) h := by
  intro c o ho
  by_cases h16 : 16 <= c
  . obtain ⟨x, rfl⟩ : ∃ x, c = x + 16 := ⟨c - 16, by omega⟩
    rw [AJ] at ho; cases ho
    exact h2 x
  . rw [GO _ _ (by omega)] at ho
    have ho' : some (SF L c) = some o := ho
    cases ho'
    by_cases hlt : c < k0
    . have := h1.get (c := c) (by omega)
      rw [Nat.zero_add] at this
      exact this.1
    . rw [nth_out (by omega)]
      exact h3 c (by omega) (by omega)
theorem WS {h : Ab} {F : Nat -> AObj} (hh : ∀ x, h (x + 16) = some (F x)) (z : Nat) (o : AObj) : ∀ x, hput h (z + 16) o (x + 16) = some (if x = z then o else F x) := fun x => by
  by_cases hx : x = z
  . subst hx; rw [AA, if_pos rfl]
  . rw [Aj _ _ (by omega), if_neg hx]; exact hh x
def Hy (φ : Nat -> Nat) (l : List Nat) (m : List Nat) : Prop := ∀ b ∈ l, φ b ∈ m
def Kq (φ : Nat -> Nat) : List (List Nat × List Nat) -> List (List Nat × List Nat) -> Prop
  | [], [] => True
  | s :: S, m :: M => Hy φ s.1 m.1 /\ Hy φ s.2 m.2 /\ Kq φ S M
  | _, _ => False
theorem HG {φ : Nat -> Nat} : ∀ {S M : List (List Nat × List Nat)} {i : Nat} {s : List Nat × List Nat}, Kq φ S M -> S[i]? = some s -> ∃ m, M[i]? = some m /\ Hy φ s.1 m.1 /\ Hy φ s.2 m.2
  | [], _, _, _, _, h => by simp at h
  | _ :: _, [], _, _, hs, _ => hs.elim
  | s :: S, m :: M, 0, _, hs, h => by simp at h; subst h; exact ⟨m, rfl, hs.1, hs.2.1⟩
  | s :: S, m :: M, i + 1, t, hs, h => by
    simp only [List.getElem?_cons_succ] at h |-
    exact HG hs.2.2 h
theorem GA {φ : Nat -> Nat} : ∀ {S M : List (List Nat × List Nat)} {i : Nat}, Kq φ S M -> S[i]? = none -> M[i]? = none
  | [], [], _, _, _ => by simp
  | [], _ :: _, _, hs, _ => hs.elim
  | _ :: _, [], _, hs, _ => hs.elim
  | s :: S, m :: M, 0, _, h => by simp at h
  | s :: S, m :: M, i + 1, hs, h => by
    simp only [List.getElem?_cons_succ] at h |-
    exact GA hs.2.2 h
theorem TD {φ : Nat -> Nat} {x y x' y' : List Nat × List Nat} (hx1 : Hy φ x.1 x'.1) (hx2 : Hy φ x.2 x'.2) (hy1 : Hy φ y.1 y'.1) (hy2 : Hy φ y.2 y'.2) (h : Cb x' y' = true) : Cb x y = true := by
  simp only [Cb, Bool.and_eq_true, List.all_eq_true, Bool.not_eq_true', List.contains_eq_mem, decide_eq_false_iff_not] at h |-
  exact ⟨fun b hb => ⟨fun hc => (h.1 (φ b) (hx2 b hb)).1 (hy1 b hc), fun hc => (h.1 (φ b) (hx2 b hb)).2 (hy2 b hc)⟩, fun b hb hc => h.2 (φ b) (hy2 b hb) (hx1 b hc)⟩
theorem Xc {ops : Array Oper} (φ : Nat -> Nat) {S M : List (List Nat × List Nat)} (hs : Kq φ S M) (h : V3 ops M = true) : V3 ops S = true := by
  unfold V3 at h |-
  rw [List.all_eq_true] at h |-
  intro j hj
  have hjj := h j hj
  cases ho : ops[j]? with
  | none => rw [ho] at hjj; cases hjj
  | some oj =>
    rw [ho] at hjj
    cases hsj : S[j]? with
    | none => rw [GA hs hsj] at hjj; cases hjj
    | some sj =>
      obtain ⟨mj, hmj, c1, c2⟩ := HG hs hsj
      rw [hmj] at hjj
      simp only [Bool.and_eq_true] at hjj |-
      refine ⟨hjj.1, ?_⟩
      rw [List.all_eq_true]
      intro i hi
      have hii := List.all_eq_true.1 hjj.2 i hi
      cases hoi : ops[i]? with
      | none => rw [hoi] at hii; cases hii
      | some oi =>
        rw [hoi] at hii
        cases hsi : S[i]? with
        | none => rw [GA hs hsi] at hii; cases hii
        | some si =>
          obtain ⟨mi, hmi, d1, d2⟩ := HG hs hsi
          rw [hmi] at hii
          simp only [Bool.or_eq_true, Bool.and_eq_true] at hii |-
          rcases hii with hii | hii
          . exact .inl hii
          . exact .inr ⟨hii.1, TD d1 d2 c1 c2 hii.2⟩
theorem B0 {P : Program} {ops : Array Oper} {n : Nat} {e : Az} {h : Ab} {acc : List (List Nat × List Nat)} {K : Al -> Prop} (φ : Nat -> Nat) (M : List (List Nat × List Nat)) (hs : Kq φ acc M) (hc : V3 ops M = true) (hk : K ⟨n, e, h⟩) : DOps P ops n [] e h acc K := DOps.nil (Xc φ hs hc) hk
theorem AllL.of {p : Nat -> Prop} : ∀ {L : List Nat}, (∀ b ∈ L, p b) -> AllL L p
  | [], _ => trivial
  | b :: L, h => ⟨h b (by simp), AllL.of fun c hc => h c (by simp [hc])⟩
def famW (f : Nat -> Nat) (o : Nat -> AObj) (n : Nat) : List (Nat × AObj) := (List.range n).map fun i => (f i, o i)
def YO (f : Nat -> Nat) (n : Nat) : List Nat := (List.range n).map f
theorem famL_mem {f : Nat -> Nat} {n b : Nat} : b ∈ YO f n ↔ ∃ i, i < n /\ b = f i := by
  unfold YO
  simp only [List.mem_map, List.mem_range]
  exact ⟨fun ⟨i, h1, h2⟩ => ⟨i, h1, h2.symm⟩, fun ⟨i, h1, h2⟩ => ⟨i, h1, h2.symm⟩⟩
theorem GP {f : Nat -> Nat} {o : Nat -> AObj} {n b : Nat} (h : Ab) (hb : ∀ i, i < n -> b ≠ f i) : hputs h (famW f o n) b = h b := by
  refine Mz fun p hp => ?_
  unfold famW at hp
  simp only [List.mem_map, List.mem_range] at hp
  obtain ⟨i, hi, rfl⟩ := hp
  exact fun e => hb i hi e.symm
theorem S3 (f : Nat -> Nat) (o : Nat -> AObj) (n : Nat) : famW f o (n + 1) = famW f o n ++ [(f n, o n)] := by
  unfold famW; rw [List.range_succ, List.map_append]; rfl
theorem K9 : ∀ (h : Ab) (W : List (Nat × AObj)) (b : Nat) (o : AObj), hputs h (W ++ [(b, o)]) = hput (hputs h W) b o
  | h, [], b, o => rfl
  | h, (c, q) :: W, b, o => by
    rw [List.cons_append]
    exact K9 (hput h c q) W b o
theorem RI {f : Nat -> Nat} {o : Nat -> AObj} (hf : ∀ i j, f i = f j -> i = j) : ∀ {n : Nat} (h : Ab) {i : Nat}, i < n -> hputs h (famW f o n) (f i) = some (o i)
  | 0, _, _, hi => absurd hi (by omega)
  | n + 1, h, i, hi => by
    rw [S3, K9]
    by_cases e : i = n
    . subst e; exact AA _ _ _
    . rw [Aj _ _ (fun x => e (hf _ _ x))]
      exact RI hf h (by omega)
theorem Vh (f : Nat -> Nat) (o : Nat -> AObj) (n : Nat) (p : Nat × AObj -> Bool) (h : ∀ i, i < n -> p (f i, o i) = true) : (famW f o n).all p = true := by
  rw [List.all_eq_true]
  intro x hx
  unfold famW at hx
  simp only [List.mem_map, List.mem_range] at hx
  obtain ⟨i, hi, rfl⟩ := hx
  exact h i hi
section
variable {P : Program} {T : Nat -> Option AC} {o : Oper} {e : Az} {h : Ab}
theorem Wz (hT : Ck P T) {t : TypeId} {x : Operand} {f : Nat} {cs : List AV} {r : AV} {i j : AC} {fs : List (Nat × Nat)} {off u : Nat} (ho : o.op = .field t x f) (hx : Aq e x = some (.agg cs)) (hi : T t = some i) (hk : i.k = .struct fs)
    (hf : fs[f]? = some (off, u)) (hj : T u = some j) (hc : j.k.isCell = true) (hr : cs[off]? = some r) : QLoc P o e h [] r := by
  intro H ι a w s hs h1 h2
  have hx' : Aq s.env x = some (.agg cs) := by rw [h1 x (by rw [ho]; simp [Op.operands]), hx]
  obtain ⟨info, d, e1, e2, e3, e4, e5, e6⟩ := An (hT _ _ hi)
  obtain ⟨info', d', f1, f2, f3, f4, f5, f6⟩ := An (hT _ _ hj)
  obtain ⟨A, rfl, rfl, hz⟩ := D0 (P := P) (d := d) (e3 ▸ hk)
  rw [List.getElem?_map, Array.getElem?_toList] at hf
  cases ef : A[f]? with
  | none => rw [ef] at hf; cases hf
  | some g =>
    rw [ef] at hf
    simp only [Option.map_some, Option.some.injEq, Prod.mk.injEq] at hf
    obtain ⟨rfl, rfl⟩ := hf
    obtain ⟨us, hv, hl, hrel⟩ := (Ap hs hx').agg_inv
    have hlt : g.offset < us.size := by rw [<- hl]; exact (List.getElem?_eq_some_iff.1 hr).1
    have hagg : K5 d' = false := by
      have := Rh (P := P) (d := d') (by rw [<- f3]; exact hc)
      cases d' <;> first | rfl | exact absurd rfl (this.1 _) | exact absurd rfl (this.2 _ _)
    refine ⟨us[g.offset], hrel g.offset r _ hr (Array.getElem?_eq_getElem hlt), ?_⟩
    simp only [execOp, ho, Instr.field, hv, Sem.run_bind, Sem.run_pure, Result.andThen_ok, Au e2, ef, asAgg, part, G4 f2, hagg, Bool.false_eq_true, if_false, Array.getElem?_eq_getElem hlt]
end
def UE (h : Ab) : AV -> Option (List Nat × List AV)
  | .loc cs => some ([], cs)
  | .ptr b n i o => match h b with
    | some (.row p sz es) => match Nat.beq n es.length, es[i]? with
      | true, some cs => some ([b], cs.drop o)
      | _, _ => none
    | _ => none
  | _ => none
theorem P9 {h : Ab} {p : AV} {R : List Nat} {cs : List AV} (e : UE h p = some (R, cs)) : PtsTo h p R cs := by
  unfold UE at e
  split at e
  . simp only [Option.some.injEq, Prod.mk.injEq] at e
    obtain ⟨rfl, rfl⟩ := e
    exact .loc _
  . split at e
    . rename_i b n i o p sz es hb
      split at e
      . rename_i cs h1 h2
        simp only [Option.some.injEq, Prod.mk.injEq] at e
        obtain ⟨rfl, rfl⟩ := e
        exact .ptr _ _ _ _ _ _ _ _ hb (Nat.eq_of_beq_eq_true h1) h2
      . cases e
    . cases e
  . cases e
def cD (T : Nat -> Option AC) (o : Op) (e : Az) (h : Ab) : Option (List Nat × AV) :=
  match o with
  | .move x => match Aq e x with
    | some p => some ([], p)
    | none => none
  | .assign x => match Aq e x with
    | some p => some ([], p)
    | none => none
  | .load t x => match Aq e x, T t with
    | some p, some i => match UE h p with
      | some (R, cs) => match HO i cs with
        | some r => some (R, r)
        | none => none
      | none => none
    | _, _ => none
  | .fieldAddr t x f => match Aq e x, T t with
    | some p, some i => match i.k with
      | .struct fs => match fs[f]? with
        | some (off, u) => match HM p off with
          | some r => some ([], r)
          | none => none
        | none => none
      | _ => none
    | _, _ => none
  | .binOp op t x y t' => match Aq e x, Aq e y with
    | some p, some q => match A3 op p q with
      | some r => some ([], r)
      | none => none
    | _, _ => none
  | .unOp .not t x => match Aq e x with
    | some (.bool b) => some ([], .bool (!b))
    | _ => none
  | .pick c x y => match Aq e c with
    | some (.bool true) => match Aq e x with
      | some p => some ([], p)
      | none => none
    | some (.bool false) => match Aq e y with
      | some p => some ([], p)
      | none => none
    | _ => none
  | .extract x k => match Aq e x with
    | some (.tup vs) => match vs[k]? with
      | some r => some ([], r)
      | none => none
    | _ => none
  | .nilCheck x => match Aq e x with
    | some p => match (match p with | .loc _ | .ptr .. => true | _ => false) with
      | true => some ([], p)
      | false => none
    | none => none
  | .field t x f => match Aq e x, T t with
    | some (.agg cs), some i => match i.k with
      | .struct fs => match fs[f]? with
        | some (off, u) => match T u with
          | some j => match j.k.isCell, cs[off]? with
            | true, some r => some ([], r)
            | _, _ => none
          | none => none
        | none => none
      | _ => none
    | _, _ => none
  | .convert t u x => match Aq e x, T t, T u with
    | some (.int k' n), some i, some j => match j.k with
      | .int k => some ([], .int k (k.wrap n))
      | _ => none
    | _, _, _ => none
  | .call ⟨.builtin .len, args, tys⟩ => match args.toList, tys.toList with
    | [x], [t] => match Aq e x, T t with
      | some p, some i => match (match p with | .str _ => (match i.k with | .string => true | _ => false) | _ => (match i.k with | .slice _ => true | _ => false)), KY p with
        | true, some n => some ([], .int .i64 n)
        | _, _ => none
      | _, _ => none
    | _, _ => none
  | _ => none
theorem RP {α : Type} {a : Array α} {x : α} (h : a.toList = [x]) : a = #[x] := Array.ext' h
section
variable {P : Program} {T : Nat -> Option AC} {o : Oper} {e : Az} {h : Ab} {R : List Nat} {r : AV}
theorem Ou (hT : Ck P T) (hq : cD T o.op e h = some (R, r)) : QLoc P o e h R r := by
  unfold cD at hq
  split at hq
  . rename_i x ho
    split at hq
    . rename_i p hp
      simp only [Option.some.injEq, Prod.mk.injEq] at hq
      obtain ⟨rfl, rfl⟩ := hq
      exact F5 (.inl ho) hp
    . cases hq
  . rename_i x ho
    split at hq
    . rename_i p hp
      simp only [Option.some.injEq, Prod.mk.injEq] at hq
      obtain ⟨rfl, rfl⟩ := hq
      exact F5 (.inr ho) hp
    . cases hq
  . rename_i t x ho
    split at hq
    . rename_i p i hp hi
      split at hq
      . rename_i R' cs hc
        split at hq
        . rename_i r' hr
          simp only [Option.some.injEq, Prod.mk.injEq] at hq
          obtain ⟨rfl, rfl⟩ := hq
          exact Ar hT ho hp hi (P9 hc) hr
        . cases hq
      . cases hq
    . cases hq
  . rename_i t x f ho
    split at hq
    . rename_i p i hp hi
      split at hq
      . rename_i fs hk
        split at hq
        . rename_i off u hf
          split at hq
          . rename_i r' hr
            simp only [Option.some.injEq, Prod.mk.injEq] at hq
            obtain ⟨rfl, rfl⟩ := hq
            exact Ax hT ho hp hi hk hf hr
          . cases hq
        . cases hq
      . cases hq
    . cases hq
  . rename_i op t x y t' ho
    split at hq
    . rename_i p q hp hq'
      split at hq
      . rename_i r' hr
        simp only [Option.some.injEq, Prod.mk.injEq] at hq
        obtain ⟨rfl, rfl⟩ := hq
        exact AI ho hp hq' hr
      . cases hq
    . cases hq
  . rename_i t x ho
    split at hq
    . rename_i b hp
      simp only [Option.some.injEq, Prod.mk.injEq] at hq
      obtain ⟨rfl, rfl⟩ := hq
      exact On ho hp
    . cases hq
  . rename_i c x y ho
    split at hq
    . rename_i hc
      split at hq
      . rename_i p hp
        simp only [Option.some.injEq, Prod.mk.injEq] at hq
        obtain ⟨rfl, rfl⟩ := hq
        exact GH true ho hc rfl hp
      . cases hq
    . rename_i hc
      split at hq
      . rename_i p hp
        simp only [Option.some.injEq, Prod.mk.injEq] at hq
        obtain ⟨rfl, rfl⟩ := hq
        exact Ij false ho hc rfl hp
      . cases hq
    . cases hq
  . rename_i x k ho
    split at hq
    . rename_i vs hp
      split at hq
      . rename_i r' hr
        simp only [Option.some.injEq, Prod.mk.injEq] at hq
        obtain ⟨rfl, rfl⟩ := hq
        exact FI ho hp hr
      . cases hq
    . cases hq
  . rename_i x ho
    split at hq
    . rename_i p hp
      split at hq
      . rename_i hc
        simp only [Option.some.injEq, Prod.mk.injEq] at hq
        obtain ⟨rfl, rfl⟩ := hq
        exact AH ho hp (by cases p <;> first | rfl | cases hc)
      . cases hq
    . cases hq
  . rename_i t x f ho
    split at hq
    . rename_i cs i hp hi
      split at hq
      . rename_i fs hk
        split at hq
        . rename_i off u hf
          split at hq
          . rename_i j hj
            split at hq
            . rename_i r' hc hr
              simp only [Option.some.injEq, Prod.mk.injEq] at hq
              obtain ⟨rfl, rfl⟩ := hq
              exact Wz hT ho hp hi hk hf hj hc hr
            . cases hq
          . cases hq
        . cases hq
      . cases hq
    . cases hq
  . rename_i t u x ho
    split at hq
    . rename_i k' n i j hp hi hj
      split at hq
      . rename_i k hk
        simp only [Option.some.injEq, Prod.mk.injEq] at hq
        obtain ⟨rfl, rfl⟩ := hq
        exact I7 hT ho hp hi hj hk
      . cases hq
    . cases hq
  . rename_i args tys ho
    split at hq
    . rename_i x t ha ht
      split at hq
      . rename_i p i hp hi
        split at hq
        . rename_i n hk hn
          simp only [Option.some.injEq, Prod.mk.injEq] at hq
          obtain ⟨rfl, rfl⟩ := hq
          exact XM hT (ho.trans (by rw [RP ha, RP ht])) hp hi (by cases p <;> exact hk) hn
        . cases hq
      . cases hq
    . cases hq
  . cases hq
end
def UA (T : Nat -> Option AC) (ops : Array Oper) (n : Nat) : Nat -> List Oper -> Az -> Ab -> Option (List Oper × Az)
  | 0, l, e, _ => some (l, e)
  | k + 1, o :: l, e, h => match o.dst with
    | some d => match Nat.blt d n, Ay ops o e with
      | true, some true => match cD T o.op e h with
        | some (_, r) => UA T ops n k l (Ad e d r) h
        | none => none
      | true, some false => UA T ops n k l (Ad e d (.tup [])) h
      | _, _ => none
    | none => none
  | _ + 1, [], _, _ => none
section
variable {P : Program} {T : Nat -> Option AC} {ops : Array Oper} {n : Nat} {h : Ab} {K : Al -> Prop}
theorem aQ (hT : Ck P T) : ∀ (k : Nat) {l l' : List Oper} {e e' : Az}, UA T ops n k l e h = some (l', e') -> AOps P ops l' ⟨n, e', h⟩ K -> AOps P ops l ⟨n, e, h⟩ K
  | 0, l, l', e, e', hq, hr => by
    simp only [UA, Option.some.injEq, Prod.mk.injEq] at hq
    obtain ⟨rfl, rfl⟩ := hq
    exact hr
  | k + 1, [], _, _, _, hq, _ => by cases hq
  | k + 1, o :: l, l', e, e', hq, hr => by
    unfold UA at hq
    split at hq
    . rename_i d hd
      split at hq
      . rename_i hb hg
        split at hq
        . rename_i R r hv
          exact AOps.s d hd hb hg (Ou hT hv) (aQ hT k hq hr)
        . cases hq
      . rename_i hb hg
        exact AOps.k d hd hb hg (aQ hT k hq hr)
      . cases hq
    . cases hq
end
def Ot (T : Nat -> Option AC) (ops : Array Oper) (n : Nat) : Nat -> List Oper -> Az -> Ab -> List (List Nat × List Nat) -> Option (List Oper × Az × List (List Nat × List Nat))
  | 0, l, e, _, acc => some (l, e, acc)
  | k + 1, o :: l, e, h, acc => match o.dst with
    | some d => match Nat.blt d n, Ay ops o e with
      | true, some true => match cD T o.op e h with
        | some (R, r) => Ot T ops n k l (Ad e d r) h (acc ++ [(R, [])])
        | none => none
      | true, some false => Ot T ops n k l (Ad e d (.tup [])) h (acc ++ [([], [])])
      | _, _ => none
    | none => none
  | _ + 1, [], _, _, _ => none
section
variable {P : Program} {T : Nat -> Option AC} {ops : Array Oper} {n : Nat} {h : Ab} {K : Al -> Prop}
theorem dQ (hT : Ck P T) : ∀ (k : Nat) {l l' : List Oper} {e e' : Az} {acc acc' : List (List Nat × List Nat)}, Ot T ops n k l e h acc = some (l', e', acc') -> DOps P ops n l' e' h acc' K -> DOps P ops n l e h acc K
  | 0, l, l', e, e', acc, acc', hq, hr => by
    simp only [Ot, Option.some.injEq, Prod.mk.injEq] at hq
    obtain ⟨rfl, rfl, rfl⟩ := hq
    exact hr
  | k + 1, [], _, _, _, _, _, hq, _ => by cases hq
  | k + 1, o :: l, l', e, e', acc, acc', hq, hr => by
    unfold Ot at hq
    split at hq
    . rename_i d hd
      split at hq
      . rename_i hb hg
        split at hq
        . rename_i R r hv
          exact DOps.s d hd hb hg (Ou hT hv) (dQ hT k hq hr)
        . cases hq
      . rename_i hb hg
        exact VZ d hd hb hg (dQ hT k hq hr)
      . cases hq
    . cases hq
end
section
variable {P : Program} {T : Nat -> Option AC} {ops : Array Oper} {rest : List Oper} {n : Nat} {e : Az} {h : Ab} {K : Al -> Prop} {acc : List (List Nat × List Nat)} {d : Nat} {t ty : TypeId} {ps : String} {af : Array Edge} {x y : Operand}
theorem wK {op : Op} {g : Nat × Bool} (hr : AOps P ops rest ⟨n, Ad e d (.tup []), h⟩ K) (hb : Nat.blt d n = true := by exact rfl) (hg : Ay ops ⟨some d, op, ty, ps, af, some g⟩ e = some false := by exact rfl) : AOps P ops (⟨some d, op, ty, ps, af, some g⟩ :: rest) ⟨n, e, h⟩ K := ak d hr rfl hb hg
theorem wS {b m k off sz : Nat} {p : Bool} {es : List (List AV)} {cs : List AV} {q : AV} {i : AC} (hT : Ck P T) (hr : AOps P ops rest ⟨n, e, hputs h [(b, .row p sz (es.set k (Dl cs off q.cells)))]⟩ K) (hx : Aq e x = some (.ptr b m k off) := by exact rfl) (hy : Aq e y = some q := by exact rfl) (hi : T t = some i := by exact rfl)
    (hb : h b = some (.row p sz es) := by exact rfl) (hm : m = es.length := by exact rfl) (hk : es[k]? = some cs := by exact rfl) (hq : q.cells.length = i.size := by exact rfl) (hfit : off + i.size <= sz := by decide) (h1 : q.cells.all AV.cell1 = true := by exact rfl) (hp : p = true -> q.cells.all AV.isPure1 = true := by first | exact fun _ => rfl | (intro h; cases h)) :
    AOps P ops (⟨none, .store t x y, ty, ps, af, none⟩ :: rest) ⟨n, e, h⟩ K := AOps.w rfl rfl (o_store hT rfl rfl hx hy hi hb hm hk hq hfit h1 hp) hr
theorem vS {b m k off sz : Nat} {p : Bool} {es : List (List AV)} {cs : List AV} {q : AV} {i : AC} (hT : Ck P T) (hr : DOps P ops n rest e (hputs h [(b, .row p sz (es.set k (Dl cs off q.cells)))]) (acc ++ [([b], [b])]) K) (hx : Aq e x = some (.ptr b m k off) := by exact rfl) (hy : Aq e y = some q := by exact rfl) (hi : T t = some i := by exact rfl)
    (hb : h b = some (.row p sz es) := by exact rfl) (hm : m = es.length := by exact rfl) (hk : es[k]? = some cs := by exact rfl) (hq : q.cells.length = i.size := by exact rfl) (hfit : off + i.size <= sz := by decide) (h1 : q.cells.all AV.cell1 = true := by exact rfl) (hp : p = true -> q.cells.all AV.isPure1 = true := by first | exact fun _ => rfl | (intro h; cases h)) :
    DOps P ops n (⟨none, .store t x y, ty, ps, af, none⟩ :: rest) e h acc K := DOps.w rfl rfl (o_store hT rfl rfl hx hy hi hb hm hk hq hfit h1 hp) hr
end
inductive Gs : Nat -> Prop
  | mk (n : Nat) : Gs n
theorem cn {n : Nat} (_ : Gs (n + 1)) : Gs n := .mk n
theorem wk (n : Nat) {p q : Prop} (k : q) (w : Gs n -> q -> p := by
  intro g_ k_
  repeat (replace g_ := cn g_; first | refine aQ Am 1 rfl ?_ | refine an ?_ | refine asq ?_ | refine agr ?_ | refine act ?_ | refine BM ?_ | refine V4 ?_ | refine wK ?_ | refine DO ?_ | refine dQ Am 1 rfl ?_ | refine wS Am ?_ | refine DOps.nil (by kernel_rfl) ?_ | refine AGo.draw mix ?_ | refine AGo.block ?_ | refine AGo.exit ?_ | refine vS Am ?_ | refine aq _ (Fg Am rfl rfl rfl rfl rfl (by decide) rfl rfl rfl) ?_ | refine dq _ (Fg Am rfl rfl rfl rfl rfl (by decide) rfl rfl rfl) ?_ | refine ak _ ?_ | refine dk _ ?_)
  exact k_) : p := w (.mk n) k
end Go.Proofs.Ytmfihmkopmgelaa.Sv
namespace Go.Proofs.Ytmfihmkopmgelaa.Sv
open Go Go.ChangeShapes Go.WideShapes Go.ChangeAt Go.RowKit
def B3 (W : World) : AB := fun b => match W.heap[b]? with
  | some (.cells c _ _) => some c
  | _ => none
theorem OO (W : World) (hg : GlobOk (B3 W)) : NG (B3 W) W where
  know := fun b c h => by
    unfold B3 at h
    split at h
    . rename_i c' T fr e; cases h; exact ⟨T, fr, e⟩
    . cases h
  glob := hg
theorem Fw {W : World} {a : Addr} {v : Value} (h : W.cell? a = some v) : ∃ c, B3 W a.block = some c /\ a.spot = none /\ c[a.off]? = some v := by
  unfold World.cell? at h
  split at h
  . rename_i c T fr e
    split at h
    . cases h
    . rename_i hs
      refine ⟨c, by simp [B3, e], ?_, h⟩
      cases e2 : a.spot with
      | none => rfl
      | some x => simp [e2] at hs
  . cases h
def Reads (W : World) (cs : List Value) (xs : List AV) : Prop := xs.length = cs.length /\ ∀ (j : Nat) (x : AV) (v : Value), xs[j]? = some x -> cs[j]? = some v -> Rel (B3 W) AZ x v /\ x.cell1 = true
section
variable {H : Type}
def Dec (enc : TypeId × Value -> H) (P : Program) (W : World) (t : TypeId) {α : Type} (f : α -> List AV) (Q : α -> Prop) : Prop :=
  ∀ (fuel : Nat) (cs : List Value) (x : DataW H × List MemPlace), DataW.trod enc P W 0 (fun _ => true) true fuel t cs = some x -> (x.1.weights P t).all (· <= reachBytes) = true -> ∃ a, Reads W cs (f a) /\ Q a
variable {enc : TypeId × Value -> H} {P : Program} {W : World} {t e : TypeId}
theorem Reads.one {v : Value} {x : AV} (h : Rel (B3 W) AZ x v) (h1 : x.cell1 = true) : Reads W [v] [x] := ⟨rfl, fun j y u hy hu => by
  cases j with
  | zero => simp at hy hu; subst hy; subst hu; exact ⟨h, h1⟩
  | succ j => simp at hy⟩
theorem Dec.int {k : IntKind} (ht : P.underlying t = some (.int k)) : Dec enc P W t (fun n : Int => [.int k n]) (fun n => (Lit.int k n).wf = true) := fun fuel cs x h _ => by
  obtain ⟨n, rfl, rfl, hw⟩ := DataW.trod_int ht h
  exact ⟨n, .one (.int _ _ _) rfl, hw⟩
theorem Dec.bool (ht : P.underlying t = some .bool) : Dec enc P W t (fun b : Bool => [.bool b]) (fun _ => True) := fun fuel cs x h _ => by
  obtain ⟨b, rfl, rfl⟩ := DataW.trod_bool ht h
  exact ⟨b, .one (.bool _ _) rfl, trivial⟩
theorem Dec.string (ht : P.underlying t = some .string) : Dec enc P W t (fun s : ByteArray => [.str s]) (fun s => s.size <= maxLen /\ s.size <= reachBytes) := fun fuel cs x h hw => by
  obtain ⟨s, rfl, rfl, hs⟩ := DataW.trod_string ht h
  refine ⟨s, .one (.str _ _) rfl, hs, ?_⟩
  simpa [DataW.weights] using hw
theorem GQ {α : Type} {R : Nat -> α -> Prop} : ∀ n : Nat, (∀ i, i < n -> ∃ a, R i a) -> ∃ l : List α, l.length = n /\ ∀ i a, l[i]? = some a -> R i a
  | 0, _ => ⟨[], rfl, fun i a h => by simp at h⟩
  | n + 1, h => by
    obtain ⟨l, h1, h2⟩ := GQ n (fun i hi => h i (by omega))
    obtain ⟨a, ha⟩ := h n (by omega)
    refine ⟨l ++ [a], by simp [h1], fun i b hb => ?_⟩
    by_cases hi : i < n
    . rw [List.getElem?_append_left (by omega)] at hb; exact h2 i b hb
    . rw [List.getElem?_append_right (by omega)] at hb
      have : i = n := by
        rcases Nat.lt_or_ge (i - l.length) 1 with h | h
        . omega
        . rw [List.getElem?_eq_none (by simpa using h)] at hb; cases hb
      subst this
      simp [h1] at hb
      subst hb; exact ha
theorem weightsAll_get : ∀ {ds : List (DataW H)} {d : DataW H} {i : Nat}, (DataW.weightsAll P e ds).all (· <= reachBytes) = true -> ds[i]? = some d -> (d.weights P e).all (· <= reachBytes) = true
  | [], _, _, _, h => by simp at h
  | d :: r, d', 0, hw, h => by
    simp at h; subst h
    simp only [DataW.weightsAll, List.all_append, Bool.and_eq_true] at hw
    exact hw.1
  | d :: r, d', i + 1, hw, h => by
    simp only [DataW.weightsAll, List.all_append, Bool.and_eq_true] at hw
    exact weightsAll_get (ds := r) hw.2 (by simpa using h)
theorem Dec.slice {α : Type} {f : α -> List AV} {Q : α -> Prop} (ht : P.underlying t = some (.slice e)) (hc : 0 < P.cellsOf e) (he : Dec enc P W e f Q) :
    Dec enc P W t (fun l : List α => [.lst false (l.map f)]) (fun l => l.length * P.bytesOf e <= reachBytes /\ ∀ a ∈ l, Q a) := fun fuel cs x h hw => by
  rcases DataW.trod_slice ht h with ⟨rfl, rfl⟩ | ⟨a, len, cap, elems, rest, n, rfl, rfl, rfl, hb, hl, hm, hlen, hel, hsp, hns⟩
  . exact ⟨[], .one (.lst0 _ _ _ _ (fun h => by cases h) (Nat.zero_le _) (fun _ => rfl) trivial) rfl, by simp, fun a h => by cases h⟩
  simp only [DataW.weights, ht, List.all_cons, List.all_append, Bool.and_eq_true, decide_eq_true_eq, List.length_map] at hw
  obtain ⟨w1, w2, w3⟩ := hw
  have key : ∀ i, i < len -> ∃ y, ∃ cs', W.cells? 0 (a.add (i * P.cellsOf e)) (P.cellsOf e) = some cs' /\ Reads W cs' (f y) /\ Q y := fun i hi => by
    have h1 := hel i hi
    have hlt : i < elems.length := by omega
    rw [List.getElem?_eq_getElem hlt] at h1
    rw [Option.bind_eq_some_iff] at h1
    obtain ⟨cs', c1, c2⟩ := h1
    obtain ⟨y, y1, y2⟩ := he _ _ _ c2 (weightsAll_get w2 (i := i) (by rw [List.getElem?_map, List.getElem?_eq_getElem hlt]; rfl))
    exact ⟨y, cs', c1, y1, y2⟩
  obtain ⟨l, l1, l2⟩ := GQ len key
  have hQ : ∀ y ∈ l, Q y := fun y hy => by
    obtain ⟨i, hi⟩ := List.mem_iff_getElem?.1 hy
    obtain ⟨cs', _, _, q⟩ := l2 i y hi
    exact q
  have hbytes : l.length * P.bytesOf e <= reachBytes := by
    refine Nat.le_trans (Nat.mul_le_mul_right _ ?_) w1
    omega
  refine ⟨l, .one ?_ rfl, hbytes, hQ⟩
  by_cases h0 : len = 0
  . have : l = [] := List.length_eq_zero_iff.1 (by omega)
    subst this; subst h0
    exact .lst0 _ _ _ _ (fun h => by cases h) hm (fun h => by cases h) trivial
  . obtain ⟨y0, cs0, k1, k2, k3⟩ := key 0 (by omega)
    obtain ⟨_, m1, m2⟩ := World.cells?_some k1
    have hz : cs0[0]? = some cs0[0] := List.getElem?_eq_getElem (by omega)
    have hcell := m2 0 hc
    rw [hz] at hcell
    have ha0 : (a.add (0 * P.cellsOf e)).add 0 = a := by simp [Addr.add]
    rw [ha0] at hcell
    obtain ⟨c, hH, hspot, _⟩ := Fw hcell
    obtain ⟨ab, ao, asp⟩ := a
    simp only at hspot hH
    subst hspot
    have hsz : ∀ (i : Nat) (xs : List AV), (l.map f)[i]? = some xs -> xs.length = P.cellsOf e /\ ∀ (j : Nat) (x : AV), xs[j]? = some x -> ∃ v, c[ao + i * P.cellsOf e + j]? = some v /\ Rel (B3 W) AZ x v /\ x.cell1 = true := fun i xs hi => by
      exact ZJ
    have := Rel.lst (H := B3 W) AZ false (l.map f) ab ao cap (P.cellsOf e) c (fun i j => (c[ao + i * P.cellsOf e + j]?).getD undef) (fun hh => by rw [List.map_eq_nil_iff] at hh; subst hh; simp at l1; omega) hH
      (fun i xs hi => (hsz i xs hi).1) (fun i xs j x hi hj => by obtain ⟨v, v1, _⟩ := (hsz i xs hi).2 j x hj; rw [v1]; rfl)
      (fun i xs j x hi hj => by obtain ⟨v, v1, v2, _⟩ := (hsz i xs hi).2 j x hj; rw [v1]; exact v2) (fun i xs j x hi hj => by obtain ⟨v, v1, v2, v3⟩ := (hsz i xs hi).2 j x hj; exact v3) (fun h => by cases h) (by simp [l1]; exact hl) hm
    rw [List.length_map, l1] at this
    exact this
variable {T : Nat -> Option AC}
theorem Fb {i : AC} (hT : Ck P T) (hi : T t = some i) : P.cellsOf t = i.size := by
  obtain ⟨info, d, e1, e2, e3, e4, e5, e6⟩ := An (hT _ _ hi)
  simp [Program.cellsOf, e1, e4]
theorem Ly {i : AC} (hT : Ck P T) (hi : T t = some i) : P.bytesOf t = i.bytes := by
  obtain ⟨info, d, e1, e2, e3, e4, e5, e6⟩ := An (hT _ _ hi)
  simp [Program.bytesOf, e1, e5]
theorem CO {k : IntKind} {i : AC} (hT : Ck P T) (hi : T t = some i) (hk : i.k = .int k) : Dec enc P W t (fun n : Int => [.int k n]) (fun n => (Lit.int k n).wf = true) := by
  obtain ⟨info, d, e1, e2, e3, e4, e5, e6⟩ := An (hT _ _ hi)
  have hd := M4 (P := P) (d := d) (e3 ▸ hk)
  subst hd
  exact Dec.int e2
theorem TP {i : AC} (hT : Ck P T) (hi : T t = some i) (hk : i.k = .bool) : Dec enc P W t (fun b : Bool => [.bool b]) (fun _ => True) := by
  obtain ⟨info, d, e1, e2, e3, e4, e5, e6⟩ := An (hT _ _ hi)
  have hd := M5 (P := P) (d := d) (e3 ▸ hk)
  subst hd
  exact Dec.bool e2
theorem Ps {i : AC} (hT : Ck P T) (hi : T t = some i) (hk : i.k = .string) : Dec enc P W t (fun s : ByteArray => [.str s]) (fun s => s.size <= maxLen /\ s.size <= reachBytes) := by
  obtain ⟨info, d, e1, e2, e3, e4, e5, e6⟩ := An (hT _ _ hi)
  have hd := EK (P := P) (d := d) (e3 ▸ hk)
  subst hd
  exact Dec.string e2
theorem Dec.slice' {α : Type} {f : α -> List AV} {Q : α -> Prop} {i j : AC} {u : Nat} (hT : Ck P T) (hi : T t = some i) (hk : i.k = .slice u) (hj : T u = some j) (hp : 0 < j.size) (he : Dec enc P W u f Q) :
    Dec enc P W t (fun l : List α => [.lst false (l.map f)]) (fun l => l.length * j.bytes <= reachBytes /\ ∀ a ∈ l, Q a) := by
  obtain ⟨info, d, e1, e2, e3, e4, e5, e6⟩ := An (hT _ _ hi)
  have hd := A4 (P := P) (d := d) (e3 ▸ hk)
  subst hd
  have := Dec.slice (enc := enc) (W := W) e2 (by rw [Fb hT hj]; exact hp) he
  rwa [Ly hT hj] at this
theorem weightsEach_get : ∀ {ts : List TypeId} {ds : List (DataW H)} {t : TypeId} {d : DataW H} {i : Nat}, (DataW.weightsEach P ts ds).all (· <= reachBytes) = true -> ts[i]? = some t -> ds[i]? = some d -> (d.weights P t).all (· <= reachBytes) = true
  | [], _, _, _, _, _, h, _ => by simp at h
  | _ :: _, [], _, _, _, _, _, h => by simp at h
  | t :: ts, d :: ds, t', d', 0, hw, h1, h2 => by
    simp at h1 h2; subst h1; subst h2
    simp only [DataW.weightsEach, List.all_append, Bool.and_eq_true] at hw
    exact hw.1
  | t :: ts, d :: ds, t', d', i + 1, hw, h1, h2 => by
    simp only [DataW.weightsEach, List.all_append, Bool.and_eq_true] at hw
    exact weightsEach_get (ts := ts) (ds := ds) hw.2 (by simpa using h1) (by simpa using h2)
def cm (enc : TypeId × Value -> H) (P : Program) (W : World) (T : Nat -> Option AC) (cs : List Value) (fs : List (Nat × Nat)) : Prop :=
  ∀ (i off u : Nat), fs[i]? = some (off, u) -> ∀ {α : Type} {f : α -> List AV} {Q : α -> Prop}, Dec enc P W u f Q -> ∃ a, Reads W ((cs.drop off).take (P.cellsOf u)) (f a) /\ Q a
theorem H8 {i : AC} {fs : List (Nat × Nat)} (hT : Ck P T) (hi : T t = some i) (hk : i.k = .struct fs) {fuel : Nat} {cs : List Value} {x : DataW H × List MemPlace} (h : DataW.trod enc P W 0 (fun _ => true) true fuel t cs = some x) (hw : (x.1.weights P t).all (· <= reachBytes) = true) :
    cs.length = i.size /\ cm enc P W T cs fs := by
  obtain ⟨info, d, e1, e2, e3, e4, e5, e6⟩ := An (hT _ _ hi)
  obtain ⟨A, rfl, rfl, _⟩ := D0 (P := P) (d := d) (e3 ▸ hk)
  obtain ⟨xs, n, rfl, rfl, hl, hxl, hx⟩ := DataW.trod_struct e2 h
  refine ⟨by rw [hl, Fb hT hi], fun j off u hj α f Q hd => ?_⟩
  rw [List.getElem?_map, Option.map_eq_some_iff] at hj
  obtain ⟨F, hF, hF2⟩ := hj
  simp only [Prod.mk.injEq] at hF2
  obtain ⟨rfl, rfl⟩ := hF2
  have hFa : A[j]? = some F := by simpa using hF
  have hjlt : j < xs.length := by rw [hxl]; exact (Array.getElem?_eq_some_iff.1 hFa).1
  have h1 := hx j F hFa
  rw [List.getElem?_eq_getElem hjlt] at h1
  simp only [DataW.weights, e2] at hw
  exact hd _ _ _ h1 (weightsEach_get hw (i := j) (by rw [List.getElem?_map, hF]; rfl) (by rw [List.getElem?_map, List.getElem?_eq_getElem hjlt]; rfl))
theorem Reads.nil (W : World) (cs : List Value) : Reads W (cs.take 0) [] := ⟨by simp, fun j x v h => by simp at h⟩
theorem Reads.app {cs : List Value} {off n : Nat} {xs ys : List AV} (h1 : Reads W (cs.take off) xs) (h2 : Reads W ((cs.drop off).take n) ys) (ho : off <= cs.length) : Reads W (cs.take (off + n)) (xs ++ ys) := by
  have hl1 : xs.length = off := by rw [h1.1, List.length_take]; omega
  refine ⟨by rw [List.length_append, h2.1, hl1]; simp only [List.length_take, List.length_drop]; omega, fun j x v hx hv => ?_⟩
  rw [List.take_add] at hv
  by_cases hj : j < off
  . rw [List.getElem?_append_left (by omega)] at hx
    rw [List.getElem?_append_left (by rw [List.length_take]; omega)] at hv
    exact h1.2 j x v hx hv
  . rw [List.getElem?_append_right (by omega)] at hx
    rw [List.getElem?_append_right (by rw [List.length_take]; omega)] at hv
    have hll : (List.take off cs).length = off := by rw [List.length_take]; omega
    rw [hll] at hv
    rw [hl1] at hx
    exact h2.2 _ x v hx hv
theorem Reads.all {cs : List Value} {n : Nat} {xs : List AV} (h : Reads W (cs.take n) xs) (hn : cs.length = n) : Reads W cs xs := by
  rwa [List.take_of_length_le (by omega)] at h
theorem arg_one {α : Type} {f : α -> List AV} {Q : α -> Prop} {v : Value} {d : DataW H} {ps : List MemPlace} (h : DataW.Trod enc P W 0 (fun _ => true) true t v d ps) (hw : (d.weights P t).all (· <= reachBytes) = true) (hd : Dec enc P W t f Q) : ∃ a, Reads W v.cells.toList (f a) /\ Q a := by
  obtain ⟨fuel, hf⟩ := h
  exact hd _ _ _ hf hw
theorem Reads.val {v : Value} {xs : List AV} (h : Reads W v.cells.toList xs) (hv : ∃ cs, v = .agg cs) : Rel (B3 W) AZ (.agg xs) v := by
  obtain ⟨cs, rfl⟩ := hv
  exact .agg _ _ _ (by simpa [Value.cells] using h.1) fun j x u h1 h2 => (h.2 j x u h1 (by simpa [Value.cells] using h2)).1
theorem Reads.val1 {v : Value} {x : AV} (h : Reads W v.cells.toList [x]) (hv : ∀ cs, v ≠ .agg cs) : Rel (B3 W) AZ x v := by
  have hc : v.cells.toList = [v] := by cases v <;> first | rfl | exact absurd rfl (hv _)
  rw [hc] at h
  exact (h.2 0 x v rfl rfl).1
theorem Qc {b0 : Nat} {v : Value} {i : AC} {fs : List (Nat × Nat)} (hT : Ck P T) (hi : T t = some i) (hk : i.k = .struct fs) (h : Value.okWide P W .any b0 t v) : ∃ cs, v = .agg cs := by
  obtain ⟨info, d, e1, e2, e3, e4, e5, e6⟩ := An (hT _ _ hi)
  obtain ⟨A, rfl, _, _⟩ := D0 (P := P) (d := d) (e3 ▸ hk)
  unfold Value.okWide at h
  rw [e2] at h
  obtain ⟨cs, h1, _⟩ := h
  exact ⟨cs, h1⟩
theorem Grow.kept {H0 H' : AB} {W W' : World} (g : Grow H0 W H' W') (may : MemPlace -> Prop) : W.keptBut W' may := by
  refine ⟨g.os, g.out, fun i hi => ?_⟩
  rw [g.keep i hi]
  split <;> simp_all
theorem UF {f : Func} {s : ChangeSpec} {apart fresh handsOn : Bool} {W W' : World} {args : Array Value} {v : Value} {ds gs : List (DataW H)} {before pa pv : List MemPlace}
    (hW : DataW.Whole enc P f.params.toList s.vars apart W args.toList ds gs before)
    (hres : ∀ (b : Nat) (sp : Nat -> Bool) (hd : Bool), DataW.TrodAll enc P W' b sp hd f.resultTypes.toList (v.resultList f.resultTypes.size) (s.fn H (ds ++ gs)).results [])
    (hargs : ∀ sp : Nat -> Bool, (∀ p ∈ before, sp p.block = true) -> DataW.TrodAll enc P W' 0 sp true f.params.toList args.toList (s.fn H (ds ++ gs)).args pa)
    (hvars : ∀ sp : Nat -> Bool, (∀ p ∈ before, sp p.block = true) -> DataW.TrodVars enc P W' sp s.vars (s.fn H (ds ++ gs)).vars pv)
    (hps : before = pa ++ pv) (hk : ∀ may : MemPlace -> Prop, W.keptBut W' may) : s.post enc P f apart fresh handsOn false W args v W' := by
  have hold : ∀ p ∈ before, (fun b => decide (b < W.heap.size)) p.block = true := fun p hp => by simpa using hW.lt p hp
  exact ⟨ds, gs, before, [], pa, pv, hW, hres _ _ _, hargs _ hold, hvars _ hold, hk _, fun h => by cases h⟩
theorem Hq (hl : laidOutB P = true) {W' : World} {sp : Nat -> Bool} : ∀ {ts : List TypeId} {vs : List Value} {ds : List (DataW H)} {ps : List MemPlace}, ts.all (fun t => P.readableRec t && decide (t < P.types.size)) = true ->
    DataW.TrodAll enc P W 0 (fun _ => true) true ts vs ds ps -> (∀ p ∈ ps, W.sameAt W' p) -> (∀ p ∈ ps, sp p.block = true) -> DataW.TrodAll enc P W' 0 sp true ts vs ds ps
  | [], vs, ds, ps, _, h, _, _ => by
    obtain ⟨rfl, rfl, rfl⟩ := trodAll_nil h
    rfl
  | t :: ts, vs, ds, ps, hr, h, h1, h2 => by
    obtain ⟨v, vs', d, ds', p, q, rfl, rfl, rfl, hd, hrest⟩ := trodAll_cons h
    simp only [List.all_cons, Bool.and_eq_true, decide_eq_true_eq] at hr
    exact ⟨p, q, WideElems.Trod_stays hl hr.1.1 hr.1.2 hd (fun x hx => h1 x (by simp [hx])) (fun x hx => h2 x (by simp [hx])), Hq hl hr.2 hrest (fun x hx => h1 x (by simp [hx])) (fun x hx => h2 x (by simp [hx])), rfl⟩
theorem Grow.same {H0 H' : AB} {W W' : World} (g : Grow H0 W H' W') {p : MemPlace} (hp : p.block < W.heap.size) : W.sameAt W' p := by
  cases p with
  | cell b off =>
    have := g.keep b hp
    show W'.cell? _ = W.cell? _
    unfold World.cell?
    simp only [this]
  | map b => exact g.keep b hp
theorem SS {f : FuncId} {fn : Func} {s : ChangeSpec} {args : Array Value} {ds gs : List (DataW H)} {before : List MemPlace} {tb : TypeId} {xs : List AV} (hl : laidOutB P = true) (hvs : s.vars = []) (hr : fn.params.toList.all (fun t => P.readableRec t && decide (t < P.types.size)) = true)
    (hres : fn.resultTypes = #[tb]) (hb : P.underlying tb = some .bool) (hs1 : (s.fn H (ds ++ gs)).results = [.lit (.bool true)]) (hs2 : (s.fn H (ds ++ gs)).args = ds) (hs3 : (s.fn H (ds ++ gs)).vars = [])
    (hW : DataW.Whole enc P fn.params.toList s.vars false W args.toList ds gs before) (hrel : RelAll (B3 W) AZ xs args) (hc : APure P f xs (fun r => r = .bool true)) (hg : GlobOk (B3 W)) {fresh handsOn : Bool} :
    Calls P f args W fun e W' => ∃ v, e = .returned v /\ s.post enc P fn false fresh handsOn false W args v W' := by
  have hW' := hW
  obtain ⟨p, q, hA, hV, rfl, hfz, hnd⟩ := hW
  rw [hvs] at hV
  obtain ⟨rfl, rfl⟩ := trodVars_none hV
  have hlt : ∀ x ∈ p ++ [], x.block < W.heap.size := fun x hx => hW'.lt x hx
  refine (hc (B3 W) W args hrel (OO W hg)).mono fun e W' hx => ?_
  obtain ⟨v, r, H', rfl, rfl, h3, h4⟩ := hx
  have hv := h3.bool_inv
  subst hv
  refine ⟨_, rfl, UF (pa := p) (pv := []) hW' (fun b sp hd => ?_) (fun sp hsp => ?_) (fun sp hsp => ?_) rfl (fun may => h4.kept may)⟩
  . rw [hs1, hres]
    exact trodAll_mk1 (shut_bool hb true)
  . rw [hs2]
    exact Hq hl hr hA (fun x hx => h4.same (hlt x (by simp [hx]))) (fun x hx => hsp x (by simp [hx]))
  . rw [hs3, hvs]; rfl
theorem RelAll.nil {K : AB} {ι : A2} : RelAll K ι [] #[] := ⟨rfl, fun j x v h => by simp at h⟩
theorem RelAll.cons {K : AB} {ι : A2} {x : AV} {xs : List AV} {v : Value} {vs : List Value} (h : Rel K ι x v) (hs : RelAll K ι xs ⟨vs⟩) : RelAll K ι (x :: xs) ⟨v :: vs⟩ := by
  refine ⟨by have := hs.1; simp at this |-; exact this, fun j y u h1 h2 => ?_⟩
  cases j with
  | zero => simp at h1 h2; subst h1; subst h2; exact h
  | succ j => exact hs.2 j y u (by simpa using h1) (by simpa using h2)
end
end Go.Proofs.Ytmfihmkopmgelaa.Sv
namespace Go.Proofs.Ytmfihmkopmgelaa.Sv
open Go
def setsOp (op : Int) : Bool := op == 1 || (op == 2 || (op == 3 || (op == 4 || (op == 6 || op == 8))))
def Tac.sets (t : Tac) : Int := bif setsOp t.op then t.d else -1
def use1 (op : Int) : Bool := op == 2 || (op == 5 || (op == 6 || op == 9))
def use2 (op : Int) : Bool := op == 3 || op == 7
def Tac.uses (t : Tac) : List Int := bif use1 t.op then [t.a] else bif use2 t.op then [t.a, t.b] else []
theorem Uh (t : Tac) : t.uses.length <= 2 := by
  unfold Tac.uses
  cases use1 t.op <;> cases use2 t.op <;> simp
def AY (i n : Int) : Bool := decide (0 <= i) && decide (i < n)
theorem Rg (op : Int) : (use1 op && use2 op) = false := by
  rw [Bool.eq_false_iff]; intro h
  simp only [use1, use2, Bool.and_eq_true, Bool.or_eq_true, beq_iff_eq] at h
  omega
def baseOp (op : Int) : Bool := op == 4 || op == 5
def HB (op : Int) : Bool := op == 6 || op == 7
def Tac.want (t : Tac) : Tac where
  op := t.op
  d := bif setsOp t.op then t.d else 0
  a := bif use1 t.op || use2 t.op then t.a else 0
  b := bif use2 t.op then t.b else 0
  k := bif t.op == 3 then t.k else 0
  base := bif baseOp t.op || (HB t.op || t.op == 10) then t.base else 0
  size := bif HB t.op then t.size else 0
  n := bif t.op == 1 then t.n else 0
def Tac.same (x y : Tac) : Bool := x.op == y.op && (x.d == y.d && (x.a == y.a && (x.b == y.b && (x.k == y.k && (x.base == y.base && (x.size == y.size && (x.n == y.n && true)))))))
theorem NF (x y : Tac) : x.same y = true ↔ x = y := by
  have h1 := Tac.eqCells x y
  have h2 : Sv.eqCells x.cells y.cells = some (x.same y) := rfl
  rw [h1] at h2
  have h3 : decide (x = y) = x.same y := by simpa using h2
  rw [<- h3, decide_eq_true_iff]
def Tac.rest (t : Tac) (f words : Int) : Bool :=
  bif t.op == 3 then decide (4 <= t.k) && decide (t.k <= 15)
  else bif baseOp t.op then AY t.base words
  else bif HB t.op then decide (1 <= t.size) && (decide (t.size <= 4096) && (decide (0 <= t.base) && decide (t.base <= words - t.size)))
  else bif t.op == 10 then AY t.base f
  else true
def Tac.fits (t : Tac) (f regs words : Int) : Bool :=
  decide (1 <= t.op) && (decide (t.op <= 10) && ((!setsOp t.op || AY t.d regs) && (t.uses.all (fun r => AY r regs) && (t.rest f words && t.same t.want))))
theorem N5 {t : Tac} (h : decide (t.sets >= 0) = true) : setsOp t.op = true := by
  unfold Tac.sets at h
  cases e : setsOp t.op with
  | true => rfl
  | false => rw [e] at h; simp at h
theorem fits_op {t : Tac} {f regs words : Int} (h : ¬ (1 <= t.op /\ t.op <= 10)) : t.fits f regs words = false := by
  rw [Bool.eq_false_iff]
  intro h2
  simp only [Tac.fits, Bool.and_eq_true, decide_eq_true_eq] at h2
  exact h ⟨h2.1, h2.2.1⟩
theorem YL {t : Tac} {f regs words : Int} (h : setsOp t.op = true) (h2 : AY t.d regs = false) : t.fits f regs words = false := by
  simp [Tac.fits, h, h2]
theorem Vd {t : Tac} {f regs words : Int} (h : t.uses.all (fun r => AY r regs) = false) : t.fits f regs words = false := by
  simp only [Tac.fits, h, Bool.false_and, Bool.and_false]
theorem MC {t : Tac} {f regs words : Int} (h : t.rest f words = false) : t.fits f regs words = false := by
  simp only [Tac.fits, h, Bool.false_and, Bool.and_false]
theorem S2 {t : Tac} {f regs words : Int} (h1 : decide (t.op < 1) = false) (h2 : decide (t.op > 10) = false) (hd : (!setsOp t.op || AY t.d regs) = true) (hu : t.uses.all (fun r => AY r regs) = true) (hr : t.rest f words = true) : t.fits f regs words = t.same t.want := by
  have h1' : decide (1 <= t.op) = true := by simp at h1 |-; omega
  have h2' : decide (t.op <= 10) = true := by simp at h2 |-; omega
  simp only [Tac.fits, h1', h2', hd, hu, hr, Bool.true_and]
def Block.ends (b : Block) (blocks regs : Int) : Bool :=
  bif b.fin == 1 then AY b.to blocks && (b.v == 0 && b.els == 0)
  else bif b.fin == 2 then AY b.to blocks && (AY b.els blocks && AY b.v regs)
  else b.fin == 3 && (b.v == 0 && (b.to == 0 && b.els == 0))
def Block.ok (x : Block) (blocks regs number words : Int) : Bool := x.ends blocks regs && x.ins.all (fun t => t.fits number regs words)
def BFunc.one (f : BFunc) (number words : Int) : Bool :=
  decide (0 <= f.regs) && (decide (f.regs <= 4000) && (!f.blocks.isEmpty && f.blocks.all (fun x => x.ok f.blocks.length f.regs number words)))
def Blocks.right (b : Blocks) : Bool :=
  decide (0 <= b.words) && (decide (b.words <= 1048576) && (!b.funcs.isEmpty && b.funcs.zipIdx.all (fun p => p.1.one (p.2 : Int) b.words)))
theorem WF {f : BFunc} {number words : Int} (h : ¬ (0 <= f.regs /\ f.regs <= 4000 /\ f.blocks.length ≠ 0)) : f.one number words = false := by
  rw [Bool.eq_false_iff]; intro h2
  simp only [BFunc.one, Bool.and_eq_true, decide_eq_true_eq, Bool.not_eq_true', List.isEmpty_eq_false_iff] at h2
  exact h ⟨h2.1, h2.2.1, fun e => h2.2.2.1 (List.length_eq_zero_iff.1 e)⟩
theorem Nh {f : BFunc} {number words : Int} (h1 : 0 <= f.regs) (h2 : f.regs <= 4000) (h3 : f.blocks.length ≠ 0) : f.one number words = f.blocks.all (fun x => x.ok f.blocks.length f.regs number words) := by
  have h3' : f.blocks.isEmpty = false := by
    rw [List.isEmpty_eq_false_iff]; intro e; rw [e] at h3; exact h3 rfl
  simp only [BFunc.one, decide_eq_true h1, decide_eq_true h2, h3', Bool.not_false, Bool.true_and]
theorem Sp {b : Blocks} (h : ¬ (0 <= b.words /\ b.words <= 1048576 /\ b.funcs.length ≠ 0)) : b.right = false := by
  rw [Bool.eq_false_iff]; intro h2
  simp only [Blocks.right, Bool.and_eq_true, decide_eq_true_eq, Bool.not_eq_true', List.isEmpty_eq_false_iff] at h2
  exact h ⟨h2.1, h2.2.1, fun e => h2.2.2.1 (List.length_eq_zero_iff.1 e)⟩
theorem Mf {b : Blocks} (h1 : 0 <= b.words) (h2 : b.words <= 1048576) (h3 : b.funcs.length ≠ 0) : b.right = b.funcs.zipIdx.all (fun p => p.1.one (p.2 : Int) b.words) := by
  have h3' : b.funcs.isEmpty = false := by
    rw [List.isEmpty_eq_false_iff]; intro e; rw [e] at h3; exact h3 rfl
  simp only [Blocks.right, decide_eq_true h1, decide_eq_true h2, h3', Bool.not_false, Bool.true_and]
theorem FT {α : Type} {l : List α} {p : α -> Bool} {k : Nat} {x : α} (hx : l[k]? = some x) (h : (l.take k).all p = true) (hp : p x = true) : (l.take (k + 1)).all p = true := by
  rw [Bw hx, List.all_append, h]; simp [hp]
theorem Dg {α : Type} {l : List α} {p : α -> Bool} {k : Nat} {x : α} (hx : l[k]? = some x) (hp : p x = false) : l.all p = false := by
  rw [Bool.eq_false_iff]
  intro h
  rw [List.all_eq_true.1 h x (List.mem_of_getElem? hx)] at hp
  cases hp
theorem all_end {α : Type} {l : List α} {p : α -> Bool} {k : Nat} (h : (l.take k).all p = true) (hk : l.length <= k) : l.all p = true := by
  rwa [List.take_of_length_le hk] at h
theorem sum_succ {α : Type} {l : List α} {p : α -> Nat} {k : Nat} {x : α} (hx : l[k]? = some x) : ((l.take (k + 1)).map p).sum = ((l.take k).map p).sum + p x := by
  rw [Bw hx, List.map_append, List.sum_append]; simp
theorem CF {α : Type} {l : List α} {k : Nat} {x : α} (hx : l[k]? = some x) : l.zipIdx[k]? = some (x, k) := by
  rw [List.getElem?_zipIdx, hx]; simp
def fV : Nat := 140737488355328
theorem Cert.ext' {c d : Cert} (h : c.same = d.same) : c = d := by cases c; cases d; simp_all
theorem BFunc.ext' {f g : BFunc} (h1 : f.regs = g.regs) (h2 : f.blocks = g.blocks) : f = g := by cases f; cases g; simp_all
def Ef (op a b : Int) : Int × Int := bif b == 0 then (0, 14) else bif op == 7 then (IntKind.u32.wrap (a.tdiv b), 0) else (a.tmod b, 0)
def ET (op a b : Int) : Int := bif decide (b > 31) then 0 else bif op == 12 then IntKind.u32.wrap (a * 2 ^ (min b.toNat IntKind.u32.bits)) else a.fdiv (2 ^ (min b.toNat IntKind.u32.bits))
def C0 (op a b : Int) : Int := bif (op == 14 && decide (a < b)) || (op == 15 && a == b) then 1 else 0
def BC (op a b : Int) : Int × Int :=
  bif op == 4 then (IntKind.u32.wrap (a + b), 0)
  else bif op == 5 then (IntKind.u32.wrap (a - b), 0)
  else bif op == 6 then (IntKind.u32.wrap (a * b), 0)
  else bif op == 7 || op == 8 then Ef op a b
  else bif op == 9 then (IntKind.u32.wrap ((BitVec.ofInt IntKind.u32.bits a &&& BitVec.ofInt IntKind.u32.bits b).toNat), 0)
  else bif op == 10 then (IntKind.u32.wrap ((BitVec.ofInt IntKind.u32.bits a ||| BitVec.ofInt IntKind.u32.bits b).toNat), 0)
  else bif op == 11 then (IntKind.u32.wrap ((BitVec.ofInt IntKind.u32.bits a ^^^ BitVec.ofInt IntKind.u32.bits b).toNat), 0)
  else bif op == 12 || op == 13 then (ET op a b, 0)
  else bif op == 14 || op == 15 then (C0 op a b, 0)
  else (0, 1)
def Ra (p : Int × Int) : AV := .tup [.int .u32 p.1, .int .i64 p.2]
def CD (n : Int) : Prop := 0 <= n /\ n < 4294967296
theorem El (n : Int) : CD (IntKind.u32.wrap n) := by
  rw [IntKind.wrap_u32]; constructor <;> omega
theorem G2 {op a b : Int} (ha : CD a) (hb : CD b) : CD (BC op a b).1 := by
  unfold BC
  cases op == 4 <;> simp only [cond_true, cond_false] <;> try exact El _
  cases op == 5 <;> simp only [cond_true, cond_false] <;> try exact El _
  cases op == 6 <;> simp only [cond_true, cond_false] <;> try exact El _
  cases op == 7 || op == 8
  . simp only [cond_false]
    cases op == 9 <;> simp only [cond_true, cond_false] <;> try exact El _
    cases op == 10 <;> simp only [cond_true, cond_false] <;> try exact El _
    cases op == 11 <;> simp only [cond_true, cond_false] <;> try exact El _
    cases op == 12 || op == 13
    . simp only [cond_false]
      cases op == 14 || op == 15
      . simp only [cond_false]; constructor <;> omega
      . simp only [cond_true, C0]
        cases (op == 14 && decide (a < b)) || (op == 15 && a == b) <;> simp only [cond_true, cond_false] <;> constructor <;> omega
    . simp only [cond_true, ET]
      cases decide (b > 31) <;> simp only [cond_true, cond_false]
      . cases op == 12 <;> simp only [cond_true, cond_false]
        . have hp : (0 : Int) < 2 ^ (min b.toNat IntKind.u32.bits) := Int.pow_pos (by omega)
          rw [Int.fdiv_eq_ediv_of_nonneg _ (Int.le_of_lt hp)]
          refine ⟨Int.ediv_nonneg ha.1 (Int.le_of_lt hp), ?_⟩
          have := Int.ediv_le_self (2 ^ (min b.toNat IntKind.u32.bits)) ha.1
          have := ha.2
          omega
        . exact El _
      . constructor <;> omega
  . simp only [cond_true, Ef]
    cases hz : b == 0 <;> simp only [cond_true, cond_false]
    . cases op == 7 <;> simp only [cond_true, cond_false]
      . rw [Int.tmod_eq_emod_of_nonneg ha.1]
        have hb0 : b ≠ 0 := by simpa using hz
        refine ⟨Int.emod_nonneg _ hb0, ?_⟩
        have := Int.emod_lt_of_pos a (show 0 < b by have := hb.1; omega)
        have := hb.2
        omega
      . exact El _
    . constructor <;> omega
theorem isW_zero : CD 0 := by constructor <;> omega
section
variable {P : Program} {T : Nat -> Option AC} {o : Oper} {e : Az} {h : Ab}
end
def U6 (l : List Tac) : Prop := ∀ t ∈ l, CD t.n
def BFunc.all (f : BFunc) : Cert := ⟨List.replicate f.blocks.length (List.replicate f.regs.toNat true)⟩
end Go.Proofs.Ytmfihmkopmgelaa.Sv
namespace Go.Proofs.Ytmfihmkopmgelaa.Sv
open Go Go.ChangeShapes Go.WideShapes Go.ChangeAt Go.RowKit
def IR (n : Int) : Prop := -9223372036854775808 <= n /\ n <= 9223372036854775807
theorem EV {n : Int} (h : (Lit.int .i64 n).wf = true) : IR n := by
  simpa [Lit.wf, IntKind.min, IntKind.max, IntKind.signed, IntKind.bits, IR] using h
theorem Yi {n : Int} (h : (Lit.int .u32 n).wf = true) : CD n := by
  simp [Lit.wf, IntKind.min, IntKind.max, IntKind.signed, IntKind.bits] at h
  exact ⟨h.1, by omega⟩
structure Tac.Ok (t : Tac) : Prop where
  op : IR t.op
  d : IR t.d
  a : IR t.a
  b : IR t.b
  k : IR t.k
  base : IR t.base
  size : IR t.size
  n : CD t.n
structure Block.Ok (x : Block) : Prop where
  len : x.ins.length * 64 <= reachBytes
  ins : ∀ t ∈ x.ins, t.Ok
  fin : IR x.fin
  v : IR x.v
  to : IR x.to
  els : IR x.els
structure BFunc.Ok (f : BFunc) : Prop where
  regs : IR f.regs
  len : f.blocks.length * 56 <= reachBytes
  blocks : ∀ x ∈ f.blocks, x.Ok
structure Blocks.Ok (b : Blocks) : Prop where
  words : IR b.words
  len : b.funcs.length * 32 <= reachBytes
  funcs : ∀ f ∈ b.funcs, f.Ok
section
variable {H : Type} {enc : TypeId × Value -> H} {P : Program} {W : World} {T : Nat -> Option AC}
theorem Gi {cs : List Value} {off u : Nat} {xs ys : List AV} {j : AC} (hT : Ck P T) (hj : T u = some j) {n : Nat} (hn : j.size = n) (h1 : Reads W (cs.take off) xs) (h2 : Reads W ((cs.drop off).take (P.cellsOf u)) ys) (ho : off <= cs.length) : Reads W (cs.take (off + n)) (xs ++ ys) := by
  rw [Fb hT hj, hn] at h2
  exact h1.app h2 ho
end
theorem DA {b : Blocks} (h : b.right = true) : 0 <= b.words /\ b.words <= 1048576 /\ b.funcs ≠ [] /\ ∀ (i : Nat) (f : BFunc), b.funcs[i]? = some f -> f.one (i : Int) b.words = true := by
  simp only [Blocks.right, Bool.and_eq_true, decide_eq_true_eq, Bool.not_eq_true', List.isEmpty_eq_false_iff] at h
  exact ⟨h.1, h.2.1, h.2.2.1, fun i f hf => List.all_eq_true.1 h.2.2.2 (f, i) (List.mem_of_getElem? (CF hf))⟩
theorem Ek {f : BFunc} {i w : Int} (h : f.one i w = true) : 0 <= f.regs /\ f.regs <= 4000 /\ f.blocks ≠ [] /\ ∀ x ∈ f.blocks, x.ends f.blocks.length f.regs = true /\ ∀ t ∈ x.ins, t.fits i f.regs w = true := by
  simp only [BFunc.one, Bool.and_eq_true, decide_eq_true_eq, Bool.not_eq_true', List.isEmpty_eq_false_iff] at h
  refine ⟨h.1, h.2.1, h.2.2.1, fun x hx => ?_⟩
  have := List.all_eq_true.1 h.2.2.2 x hx
  simp only [Block.ok, Bool.and_eq_true] at this
  exact ⟨this.1, fun t ht => List.all_eq_true.1 this.2 t ht⟩
theorem Qn {α : Type} {p : α -> Nat} : ∀ {l : List α} {x : α}, x ∈ l -> p x <= (l.map p).sum
  | y :: l, x, h => by
    rcases List.mem_cons.1 h with rfl | h
    . simp
    . have := Qn (p := p) h; simp; omega
end Go.Proofs.Ytmfihmkopmgelaa.Sv
namespace Go.Proofs.Ytmfihmkopmgelaa
open Go.ChangeShapes Go.WideShapes Go.ChangeAt Go.RowKit Sv
theorem own' : ownKnob Try.prog.godebug = none := by kernel_rfl
theorem laidOut' : laidOutB Try.prog = true := by kernel_rfl
theorem bool' : Try.prog.underlying 4 = some .bool := by kernel_rfl
section
variable {H : Type} {enc : TypeId × Value -> H} {W : World}
end
end Go.Proofs.Ytmfihmkopmgelaa
namespace Go.Proofs.Ytmfihmkopmgelaa
open Go.ChangeShapes Go.WideShapes Go.ChangeAt Go.RowKit Sv
theorem okWide_cellS {P : Program} {W : World} {T : Nat -> Option AC} {t b0 : Nat} {v : Value} {i : AC} (hT : Ck P T) (hi : T t = some i) (hk : i.k = .string) (h : Value.okWide P W .any b0 t v) : ∀ cs, v ≠ .agg cs := by
  obtain ⟨info, d, e1, e2, e3, e4, e5, e6⟩ := An (hT _ _ hi)
  have hd := EK (P := P) (d := d) (e3 ▸ hk)
  subst hd
  obtain ⟨s, rfl⟩ := okWide_string e2 h
  intro cs h
  cases h
section
variable {H : Type} {enc : TypeId × Value -> H} {W : World}
theorem decStr : Dec enc Try.prog W 9 (fun s : ByteArray => [.str s]) (fun s => s.size <= maxLen /\ s.size <= reachBytes) := Ps Am rfl rfl
end
end Go.Proofs.Ytmfihmkopmgelaa
namespace Go.Proofs.Ytmfihmkopmgelaa.Sv
open Go Go.ChangeShapes Go.WideShapes Go.ChangeAt Go.RowKit
section
variable {H : Type}
def DecB (m : Nat) (enc : TypeId × Value -> H) (P : Program) (W : World) (t : TypeId) {α : Type} (f : α -> List AV) (Q : α -> Prop) : Prop :=
  ∀ (fuel : Nat), fuel <= m -> ∀ (cs : List Value) (x : DataW H × List MemPlace), DataW.trod enc P W 0 (fun _ => true) true fuel t cs = some x -> (x.1.weights P t).all (· <= reachBytes) = true -> ∃ a, Reads W cs (f a) /\ Q a
variable {enc : TypeId × Value -> H} {P : Program} {W : World} {t e : TypeId}
theorem Dec.bound {α : Type} {f : α -> List AV} {Q : α -> Prop} (h : Dec enc P W t f Q) (m : Nat) : DecB m enc P W t f Q := fun fuel _ => h fuel
theorem VY {α : Type} {f : α -> List AV} {Q : α -> Prop} (h : ∀ m, DecB m enc P W t f Q) : Dec enc P W t f Q := fun fuel => h fuel fuel (Nat.le_refl _)
theorem DecB.less {m m' : Nat} {α : Type} {f : α -> List AV} {Q : α -> Prop} (h : DecB m enc P W t f Q) (hm : m' <= m) : DecB m' enc P W t f Q := fun fuel hf => h fuel (by omega)
theorem DecB.slice {m : Nat} {α : Type} {f : α -> List AV} {Q : α -> Prop} (ht : P.underlying t = some (.slice e)) (hc : 0 < P.cellsOf e) (he : DecB m enc P W e f Q) :
    DecB (m + 1) enc P W t (fun l : List α => [.lst false (l.map f)]) (fun l => l.length * P.bytesOf e <= reachBytes /\ ∀ a ∈ l, Q a) := fun fuel hm cs x h hw => by
  rcases DataW.trod_slice ht h with ⟨rfl, rfl⟩ | ⟨a, len, cap, elems, rest, n, rfl, rfl, rfl, hb, hl, hm', hlen, hel, hsp, hns⟩
  . exact ⟨[], .one (.lst0 _ _ _ _ (fun h => by cases h) (Nat.zero_le _) (fun _ => rfl) trivial) rfl, by simp, fun a h => by cases h⟩
  simp only [DataW.weights, ht, List.all_cons, List.all_append, Bool.and_eq_true, decide_eq_true_eq, List.length_map] at hw
  obtain ⟨w1, w2, w3⟩ := hw
  have key : ∀ i, i < len -> ∃ y, ∃ cs', W.cells? 0 (a.add (i * P.cellsOf e)) (P.cellsOf e) = some cs' /\ Reads W cs' (f y) /\ Q y := fun i hi => by
    have h1 := hel i hi
    have hlt : i < elems.length := by omega
    rw [List.getElem?_eq_getElem hlt] at h1
    rw [Option.bind_eq_some_iff] at h1
    obtain ⟨cs', c1, c2⟩ := h1
    obtain ⟨y, y1, y2⟩ := he _ (by omega) _ _ c2 (weightsAll_get w2 (i := i) (by rw [List.getElem?_map, List.getElem?_eq_getElem hlt]; rfl))
    exact ⟨y, cs', c1, y1, y2⟩
  obtain ⟨l, l1, l2⟩ := GQ len key
  have hQ : ∀ y ∈ l, Q y := fun y hy => by
    obtain ⟨i, hi⟩ := List.mem_iff_getElem?.1 hy
    obtain ⟨cs', _, _, q⟩ := l2 i y hi
    exact q
  have hbytes : l.length * P.bytesOf e <= reachBytes := by
    refine Nat.le_trans (Nat.mul_le_mul_right _ ?_) w1
    omega
  refine ⟨l, .one ?_ rfl, hbytes, hQ⟩
  by_cases h0 : len = 0
  . have : l = [] := List.length_eq_zero_iff.1 (by omega)
    subst this; subst h0
    exact .lst0 _ _ _ _ (fun h => by cases h) hm' (fun h => by cases h) trivial
  . obtain ⟨y0, cs0, k1, k2, k3⟩ := key 0 (by omega)
    obtain ⟨_, m1, m2⟩ := World.cells?_some k1
    have hz : cs0[0]? = some cs0[0] := List.getElem?_eq_getElem (by omega)
    have hcell := m2 0 hc
    rw [hz] at hcell
    have ha0 : (a.add (0 * P.cellsOf e)).add 0 = a := by simp [Addr.add]
    rw [ha0] at hcell
    obtain ⟨c, hH, hspot, _⟩ := Fw hcell
    obtain ⟨ab, ao, asp⟩ := a
    simp only at hspot hH
    subst hspot
    have hsz : ∀ (i : Nat) (xs : List AV), (l.map f)[i]? = some xs -> xs.length = P.cellsOf e /\ ∀ (j : Nat) (x : AV), xs[j]? = some x -> ∃ v, c[ao + i * P.cellsOf e + j]? = some v /\ Rel (B3 W) AZ x v /\ x.cell1 = true := fun i xs hi => by
      exact ZJ
    have := Rel.lst (H := B3 W) AZ false (l.map f) ab ao cap (P.cellsOf e) c (fun i j => (c[ao + i * P.cellsOf e + j]?).getD undef) (fun hh => by rw [List.map_eq_nil_iff] at hh; subst hh; simp at l1; omega) hH
      (fun i xs hi => (hsz i xs hi).1) (fun i xs j x hi hj => by obtain ⟨v, v1, _⟩ := (hsz i xs hi).2 j x hj; rw [v1]; rfl)
      (fun i xs j x hi hj => by obtain ⟨v, v1, v2, _⟩ := (hsz i xs hi).2 j x hj; rw [v1]; exact v2) (fun i xs j x hi hj => by obtain ⟨v, v1, v2, v3⟩ := (hsz i xs hi).2 j x hj; exact v3) (fun h => by cases h) (by simp [l1]; exact hl) hm'
    rw [List.length_map, l1] at this
    exact this
variable {T : Nat -> Option AC}
theorem DecB.slice' {m : Nat} {α : Type} {f : α -> List AV} {Q : α -> Prop} {i j : AC} {u : Nat} (hT : Ck P T) (hi : T t = some i) (hk : i.k = .slice u) (hj : T u = some j) (hp : 0 < j.size) (he : DecB m enc P W u f Q) :
    DecB (m + 1) enc P W t (fun l : List α => [.lst false (l.map f)]) (fun l => l.length * j.bytes <= reachBytes /\ ∀ a ∈ l, Q a) := by
  obtain ⟨info, d, e1, e2, e3, e4, e5, e6⟩ := An (hT _ _ hi)
  have hd := A4 (P := P) (d := d) (e3 ▸ hk)
  subst hd
  have := DecB.slice (m := m) (enc := enc) (W := W) e2 (by rw [Fb hT hj]; exact hp) he
  rwa [Ly hT hj] at this
def PartsB (m : Nat) (enc : TypeId × Value -> H) (P : Program) (W : World) (T : Nat -> Option AC) (cs : List Value) (fs : List (Nat × Nat)) : Prop :=
  ∀ (i off u : Nat), fs[i]? = some (off, u) -> ∀ {α : Type} {f : α -> List AV} {Q : α -> Prop}, DecB m enc P W u f Q -> ∃ a, Reads W ((cs.drop off).take (P.cellsOf u)) (f a) /\ Q a
theorem Hr {m : Nat} {i : AC} {fs : List (Nat × Nat)} (hT : Ck P T) (hi : T t = some i) (hk : i.k = .struct fs) {fuel : Nat} (hm : fuel <= m + 1) {cs : List Value} {x : DataW H × List MemPlace} (h : DataW.trod enc P W 0 (fun _ => true) true fuel t cs = some x) (hw : (x.1.weights P t).all (· <= reachBytes) = true) :
    cs.length = i.size /\ PartsB m enc P W T cs fs := by
  obtain ⟨info, d, e1, e2, e3, e4, e5, e6⟩ := An (hT _ _ hi)
  obtain ⟨A, rfl, rfl, _⟩ := D0 (P := P) (d := d) (e3 ▸ hk)
  obtain ⟨xs, n, rfl, rfl, hl, hxl, hx⟩ := DataW.trod_struct e2 h
  refine ⟨by rw [hl, Fb hT hi], fun j off u hj α f Q hd => ?_⟩
  rw [List.getElem?_map, Option.map_eq_some_iff] at hj
  obtain ⟨F, hF, hF2⟩ := hj
  simp only [Prod.mk.injEq] at hF2
  obtain ⟨rfl, rfl⟩ := hF2
  have hFa : A[j]? = some F := by simpa using hF
  have hjlt : j < xs.length := by rw [hxl]; exact (Array.getElem?_eq_some_iff.1 hFa).1
  have h1 := hx j F hFa
  rw [List.getElem?_eq_getElem hjlt] at h1
  simp only [DataW.weights, e2] at hw
  exact hd _ (by omega) _ _ h1 (weightsEach_get hw (i := j) (by rw [List.getElem?_map, hF]; rfl) (by rw [List.getElem?_map, List.getElem?_eq_getElem hjlt]; rfl))
end
end Go.Proofs.Ytmfihmkopmgelaa.Sv
namespace Go.Proofs.Ytmfihmkopmgelaa.Sv
open Go
def valB : List Nat -> Nat
  | [] => 0
  | b :: r => b + 2 * valB r
theorem H4 : ∀ (l : List Nat) (j : Nat), (∀ b ∈ l, b < 2) -> (valB l).testBit j = ((l[j]?).getD 0 == 1)
  | [], j, _ => by simp [valB]
  | b :: r, 0, h => by
    have hb := h b (by simp)
    simp only [valB, List.getElem?_cons_zero, Option.getD_some, Nat.testBit_zero]
    have : (b + 2 * valB r) % 2 = b := by omega
    rw [this]
    rcases (by omega : b = 0 \/ b = 1) with rfl | rfl <;> rfl
  | b :: r, j + 1, h => by
    have hb := h b (by simp)
    have ih := H4 r j (fun c hc => h c (by simp [hc]))
    simp only [valB, List.getElem?_cons_succ, Nat.testBit_succ]
    have : (b + 2 * valB r) / 2 = valB r := by omega
    rw [this, ih]
theorem Rf : ∀ (l : List Nat), (∀ b ∈ l, b < 2) -> valB l < 2 ^ l.length
  | [], _ => by simp [valB]
  | b :: r, h => by
    have hb := h b (by simp)
    have ih := Rf r (fun c hc => h c (by simp [hc]))
    simp only [valB, List.length_cons, Nat.pow_succ]
    omega
def Du (n k : Nat) : List Nat := (List.range k).map fun i => n / 2 ^ i % 2
theorem Jp {n k i : Nat} (h : i < k) : (Du n k)[i]? = some (n / 2 ^ i % 2) := by
  simp [Du, h]
def VK (op : Int) (x y : Nat) : Nat := bif (x + y == 2 && op != 11) || (!(x + y == 2 && op != 11) && (x + y == 1 && op != 9)) then 1 else 0
def DH (op : Int) (a b : Nat) : List Nat := (List.range 32).map fun i => VK op (a / 2 ^ i % 2) (b / 2 ^ i % 2)
theorem VJ (op : Int) (x y : Nat) : VK op x y < 2 := by
  unfold VK
  cases (x + y == 2 && op != 11) || (!(x + y == 2 && op != 11) && (x + y == 1 && op != 9)) <;> simp
theorem DF (n i : Nat) : n.testBit i = (n / 2 ^ i % 2 == 1) := by
  rw [Nat.testBit_eq_decide_div_mod_eq]
  cases h : decide (n / 2 ^ i % 2 = 1) <;> simp at h |- <;> exact h
theorem Fz {op : Int} {a b j : Nat} : (valB (DH op a b)).testBit j = (decide (j < 32) && (VK op (a / 2 ^ j % 2) (b / 2 ^ j % 2) == 1)) := by
  rw [H4 _ _ (fun c hc => by simp only [DH, List.mem_map] at hc; obtain ⟨i, _, rfl⟩ := hc; exact VJ _ _ _)]
  by_cases hj : j < 32
  . simp [DH, hj]
  . simp [DH, hj]
theorem VH {a b : Nat} (ha : a < 2 ^ 32) (hb : b < 2 ^ 32) : valB (DH 9 a b) = a &&& b := by
  apply Nat.eq_of_testBit_eq
  intro j
  rw [Fz, Nat.testBit_and, DF a, DF b]
  by_cases hj : j < 32
  . rcases (by omega : a / 2 ^ j % 2 = 0 \/ a / 2 ^ j % 2 = 1) with h1 | h1 <;> rcases (by omega : b / 2 ^ j % 2 = 0 \/ b / 2 ^ j % 2 = 1) with h2 | h2 <;> simp [h1, h2, hj, VK]
  . have : a / 2 ^ j = 0 := Nat.div_eq_of_lt (Nat.lt_of_lt_of_le ha (Nat.pow_le_pow_right (by decide) (by omega)))
    simp [hj, this]
theorem Xi {a b : Nat} (ha : a < 2 ^ 32) (hb : b < 2 ^ 32) : valB (DH 10 a b) = a ||| b := by
  apply Nat.eq_of_testBit_eq
  intro j
  rw [Fz, Nat.testBit_or, DF a, DF b]
  exact Zw
theorem VG {a b : Nat} (ha : a < 2 ^ 32) (hb : b < 2 ^ 32) : valB (DH 11 a b) = a ^^^ b := by
  apply Nat.eq_of_testBit_eq
  intro j
  rw [Fz, Nat.testBit_xor, DF a, DF b]
  exact Zw
theorem G7 {a : Int} (h : CD a) : BitVec.ofInt IntKind.u32.bits a = BitVec.ofNat 32 a.toNat := by
  obtain ⟨h1, h2⟩ := h
  obtain ⟨n, rfl⟩ := Int.eq_ofNat_of_zero_le h1
  show BitVec.ofInt 32 (n : Int) = _
  rw [BitVec.ofInt_natCast]; rfl
theorem PG {n : Nat} (h : n < 2 ^ 32) : IntKind.u32.wrap (n : Int) = (n : Int) := by
  rw [IntKind.wrap_u32]; omega
theorem UO {a : Int} (h : CD a) : a.toNat < 2 ^ 32 := by
  obtain ⟨h1, h2⟩ := h; omega
theorem Tl {op a b : Int} (ha : CD a) (hb : CD b) (ho : op = 9 \/ op = 10 \/ op = 11) : BC op a b = ((valB (DH op a.toNat b.toNat) : Int), 0) := by
  have h1 := UO ha
  have h2 := UO hb
  have e1 : (BitVec.ofNat 32 a.toNat).toNat = a.toNat := by rw [BitVec.toNat_ofNat]; omega
  have e2 : (BitVec.ofNat 32 b.toNat).toNat = b.toNat := by rw [BitVec.toNat_ofNat]; omega
  rcases ho with rfl | rfl | rfl
  . have : BC 9 a b = (IntKind.u32.wrap ((BitVec.ofInt IntKind.u32.bits a &&& BitVec.ofInt IntKind.u32.bits b).toNat), 0) := rfl
    rw [this, G7 ha, G7 hb, VH h1 h2]
    have h3 : (BitVec.ofNat 32 a.toNat &&& BitVec.ofNat 32 b.toNat).toNat = a.toNat &&& b.toNat := by rw [BitVec.toNat_and, e1, e2]
    rw [<- h3]
    exact congrArg (·, 0) (PG (BitVec.isLt _))
  . have : BC 10 a b = (IntKind.u32.wrap ((BitVec.ofInt IntKind.u32.bits a ||| BitVec.ofInt IntKind.u32.bits b).toNat), 0) := rfl
    rw [this, G7 ha, G7 hb, Xi h1 h2]
    have h3 : (BitVec.ofNat 32 a.toNat ||| BitVec.ofNat 32 b.toNat).toNat = a.toNat ||| b.toNat := by rw [BitVec.toNat_or, e1, e2]
    rw [<- h3]
    exact congrArg (·, 0) (PG (BitVec.isLt _))
  . have : BC 11 a b = (IntKind.u32.wrap ((BitVec.ofInt IntKind.u32.bits a ^^^ BitVec.ofInt IntKind.u32.bits b).toNat), 0) := rfl
    rw [this, G7 ha, G7 hb, VG h1 h2]
    have h3 : (BitVec.ofNat 32 a.toNat ^^^ BitVec.ofNat 32 b.toNat).toNat = a.toNat ^^^ b.toNat := by rw [BitVec.toNat_xor, e1, e2]
    rw [<- h3]
    exact congrArg (·, 0) (PG (BitVec.isLt _))
def shN (op : Int) : Nat -> Nat -> Nat
  | n, 0 => n
  | n, k + 1 => bif op == 12 then 2 * shN op n k % 4294967296 else shN op n k / 2
theorem M8 {op : Int} {n : Nat} (h : n < 4294967296) : ∀ k, shN op n k < 4294967296
  | 0 => h
  | k + 1 => by
    unfold shN
    have := M8 (op := op) h k
    cases op == 12 with
    | true => exact Nat.mod_lt _ (by decide)
    | false => simp only [cond_false]; omega
theorem Rl {n : Nat} : ∀ k, shN 12 n k % 4294967296 = n * 2 ^ k % 4294967296
  | 0 => by simp [shN]
  | k + 1 => by
    have ih := Rl (n := n) k
    have e : shN 12 n (k + 1) = 2 * shN 12 n k % 4294967296 := rfl
    rw [e, Nat.mod_mod, Nat.mul_mod, ih, <- Nat.mul_mod, Nat.pow_succ]
    congr 1
    rw [Nat.mul_comm 2, Nat.mul_assoc]
theorem Rk {op : Int} (ho : (op == 12) = false) {n : Nat} : ∀ k, shN op n k = n / 2 ^ k
  | 0 => by simp [shN]
  | k + 1 => by
    have ih := Rk ho (n := n) k
    have e : shN op n (k + 1) = shN op n k / 2 := by rw [shN, ho]; rfl
    rw [e, ih, Nat.div_div_eq_div_mul, Nat.pow_succ]
theorem PV {op a b : Int} (ha : CD a) (hb : 0 <= b) (hb2 : ¬ b > 31) (ho : op = 12 \/ op = 13) : ET op a b = ((shN op a.toNat b.toNat : Nat) : Int) := by
  have h1 := UO ha
  have hd : decide (b > 31) = false := by simpa using hb2
  have hmin : min b.toNat IntKind.u32.bits = b.toNat := by
    show min b.toNat 32 = b.toNat
    omega
  obtain ⟨n, rfl⟩ := Int.eq_ofNat_of_zero_le ha.1
  unfold ET
  rw [hd, hmin]
  simp only [cond_false, Int.toNat_natCast]
  rcases ho with rfl | rfl
  . have h3 := Rl (n := n) b.toNat
    have h4 := M8 (op := 12) (n := n) (by simpa using h1) b.toNat
    show IntKind.u32.wrap ((n : Int) * 2 ^ b.toNat) = _
    rw [Nat.mod_eq_of_lt h4] at h3
    rw [h3, IntKind.wrap_u32, Int.natCast_emod, Int.natCast_mul, Int.natCast_pow]
    rfl
  . rw [Rk (by rfl)]
    show Int.fdiv (n : Int) (2 ^ b.toNat) = _
    have hp : (0 : Int) <= 2 ^ b.toNat := Int.le_of_lt (Int.pow_pos (by omega))
    rw [Int.fdiv_eq_ediv_of_nonneg _ hp, Int.natCast_ediv, Int.natCast_pow]
    rfl
theorem LZ {n : Nat} (h : n < 9223372036854775808) : IntKind.i64.wrap (n : Int) = (n : Int) := Bz (by omega) (by omega)
theorem B9 {n : Nat} (h : n < 18446744073709551616) : IntKind.u64.wrap (n : Int) = (n : Int) := by
  rw [IntKind.wrap_u64]; omega
theorem CP {n : Nat} (h : n < 4294967296) : IntKind.u32.wrap (n : Int) = (n : Int) := by
  rw [IntKind.wrap_u32]; omega
theorem E9 {k : IntKind} {a b : Nat} (hb : 0 < b) : A3 .rem (.int k (a : Int)) (.int k (b : Int)) = some (.int k ((a % b : Nat) : Int)) := by
  have h0 : ¬ (b : Int) = 0 := by omega
  simp only [A3, BA, isShift, cond_false, if_true, if_neg h0]
  rw [Int.tmod_eq_emod_of_nonneg (by omega), Int.natCast_emod]
theorem Iz {k : IntKind} {a b : Nat} (hb : 0 < b) (hw : k.wrap ((a / b : Nat) : Int) = ((a / b : Nat) : Int)) : A3 .quo (.int k (a : Int)) (.int k (b : Int)) = some (.int k ((a / b : Nat) : Int)) := by
  have h0 : ¬ (b : Int) = 0 := by omega
  simp only [A3, BA, isShift, cond_false, if_true, if_neg h0]
  rw [Int.tdiv_eq_ediv_of_nonneg (by omega), <- Int.natCast_ediv, hw]
theorem GR {k : IntKind} {a b : Nat} (hw : k.wrap ((a + b : Nat) : Int) = ((a + b : Nat) : Int)) : A3 .add (.int k (a : Int)) (.int k (b : Int)) = some (.int k ((a + b : Nat) : Int)) := by
  simp only [A3, BA, isShift, cond_false, if_true]
  rw [<- Int.natCast_add, hw]
theorem Ln {k : IntKind} {a b : Nat} (hw : k.wrap ((a * b : Nat) : Int) = ((a * b : Nat) : Int)) : A3 .mul (.int k (a : Int)) (.int k (b : Int)) = some (.int k ((a * b : Nat) : Int)) := by
  simp only [A3, BA, isShift, cond_false, if_true]
  rw [<- Int.natCast_mul, hw]
section
variable {P : Program} {T : Nat -> Option AC} {o : Oper} {e : Az} {h : Ab}
theorem B1 (hT : Ck P T) {t u : TypeId} {x : Operand} {k k' : IntKind} {n : Int} {i j : AC} (ho : o.op = .convert t u x) (hx : Aq e x = some (.int k' n)) (hi : T t = some i) (hj : T u = some j) (hk : j.k = .int k) (hw : k.wrap n = n) : QLoc P o e h [] (.int k n) := by
  have := I7 (h := h) hT ho hx hi hj hk
  rwa [hw] at this
end
def natCells (l : List Nat) : List (List AV) := l.map fun (b : Nat) => [AV.int .i64 (b : Int)]
theorem QS (n k : Nat) : Du n (k + 1) = Du n k ++ [n / 2 ^ k % 2] := by
  simp [Du, List.range_succ]
theorem BS (n k : Nat) : (Du n k).length = k := by simp [Du]
theorem Sc {l : List Nat} {i b : Nat} (h : l[i]? = some b) : valB (l.drop i) = b + 2 * valB (l.drop (i + 1)) := by
  have hi : i < l.length := (List.getElem?_eq_some_iff.1 h).1
  rw [List.drop_eq_getElem_cons hi]
  have : l[i] = b := by rw [List.getElem?_eq_getElem hi] at h; cases h; rfl
  rw [this]; rfl
def Ho (op : Int) (a b i : Nat) : List Nat := (DH op a b).take i ++ (Du a 32).drop i
theorem De (op : Int) (a b : Nat) : (DH op a b).length = 32 := by simp [DH]
theorem C3 {op : Int} {a b i : Nat} (h : i <= 32) : (Ho op a b i).length = 32 := by
  simp [Ho, De, BS]; omega
theorem KR {op : Int} {a b i : Nat} (h : i < 32) : (Ho op a b i)[i]? = some (a / 2 ^ i % 2) := by
  have hl : ((DH op a b).take i).length = i := by simp [De]; omega
  rw [Ho, List.getElem?_append_right (by omega), hl, Nat.sub_self, List.getElem?_drop, Nat.add_zero, Jp h]
theorem Mq {op : Int} {a b i : Nat} (h : i < 32) : Ho op a b (i + 1) = (Ho op a b i).set i (VK op (a / 2 ^ i % 2) (b / 2 ^ i % 2)) := by
  have hl : ((DH op a b).take i).length = i := by simp [De]; omega
  have hg : (DH op a b)[i]? = some (VK op (a / 2 ^ i % 2) (b / 2 ^ i % 2)) := by simp [DH, h]
  have hd : (Du a 32).drop i = (a / 2 ^ i % 2) :: (Du a 32).drop (i + 1) := by
    have hi : i < (Du a 32).length := by rw [BS]; exact h
    rw [List.drop_eq_getElem_cons hi]
    congr 1
    have := Jp (n := a) h
    rw [List.getElem?_eq_getElem hi] at this
    exact Option.some.inj this
  unfold Ho
  rw [List.set_append, if_neg (by omega), hl, Nat.sub_self, Bw hg, List.append_assoc, hd]
  rfl
theorem Ds {α : Type} {l : List α} {f : α -> List AV} {n : Int} {x : α} (h : l[n.toNat]? = some x) : (l.map f)[n.toNat]? = some (f x) := by
  rw [List.getElem?_map, h]; rfl
theorem Ghost.freezeAll {n : Nat} {e : Az} {h : Ab} (t b : Nat) {m sz : Nat} {es : List (List AV)} (ht : e t = some (.ref b m 0 m)) (hb : h b = some (.row true sz es)) (hm : m = es.length) :
    Ghost ⟨n, e, h⟩ ⟨n, Ad e t (.lst false es), hrm h b⟩ := by
  have := Ghost.freeze (n := n) t b ht hb hm
  rwa [List.drop_zero, List.take_of_length_le (Nat.le_of_eq hm.symm)] at this
theorem ebin_sub {k : IntKind} {a b : Nat} (hba : b <= a) (hw : k.wrap ((a - b : Nat) : Int) = ((a - b : Nat) : Int)) : A3 .sub (.int k (a : Int)) (.int k (b : Int)) = some (.int k ((a - b : Nat) : Int)) := by
  simp only [A3, BA, isShift, cond_false, if_true]
  rw [<- Int.ofNat_sub hba, hw]
theorem EF {l : List Nat} {i b : Nat} (h : l[i]? = some b) : (natCells l)[0 + ((i : Nat) : Int).toNat]? = some [AV.int .i64 (b : Int)] := by
  rw [Nat.zero_add, Int.toNat_natCast, natCells, List.getElem?_map, h]; rfl
theorem B6 {α : Type} {l : List α} {i : Nat} {x y : α} (h : l[i]? = some x) : (l.set i y)[i]? = some y := by
  have hi := (List.getElem?_eq_some_iff.1 h).1
  simp [hi]
theorem Bm (l : List Nat) : (natCells l).length = l.length := by simp [natCells]
theorem JZ (l : List Nat) (b : Nat) : natCells (l ++ [b]) = natCells l ++ [[AV.int .i64 (b : Int)]] := by simp [natCells]
theorem Io (l : List Nat) (i b : Nat) : (natCells l).set i [AV.int .i64 (b : Int)] = natCells (l.set i b) := by simp [natCells, List.map_set]
theorem Ph (a k : Nat) : natCells (Du a k) ++ [[AV.int .i64 ((a / 2 ^ k % 2 : Nat) : Int)]] = natCells (Du a (k + 1)) := by
  rw [QS, JZ]
theorem H5 {l : List Nat} (hl : l.length = 32) (hb : ∀ b ∈ l, b < 2) (m : Nat) : valB (l.drop m) < 4294967296 := by
  have h := Rf (l.drop m) (fun b h => hb b (List.mem_of_mem_drop h))
  have : (2 : Nat) ^ (l.drop m).length <= 2 ^ 32 := Nat.pow_le_pow_right (by decide) (by simp; omega)
  have e : (2 : Nat) ^ 32 = 4294967296 := rfl
  omega
theorem Tn {op : Int} {a b k : Nat} (hk : k < 32) {c : List AV} (h : VK op (a / 2 ^ k % 2) (b / 2 ^ k % 2) = 0) : (natCells (Ho op a b k)).set (0 + ((k : Nat) : Int).toNat) [AV.int .i64 0] = natCells (Ho op a b (k + 1)) := by
  rw [Mq hk, h, <- Io, Nat.zero_add, Int.toNat_natCast]; rfl
theorem Tm {op : Int} {a b k : Nat} (hk : k < 32) {c : List AV} (h : VK op (a / 2 ^ k % 2) (b / 2 ^ k % 2) = 1) : ((natCells (Ho op a b k)).set (0 + ((k : Nat) : Int).toNat) c).set (0 + ((k : Nat) : Int).toNat) [AV.int .i64 1] = natCells (Ho op a b (k + 1)) := by
  rw [List.set_set, Mq hk, h, <- Io, Nat.zero_add, Int.toNat_natCast]; rfl
theorem SK (op : Int) (a b : Nat) : Ho op a b 0 = Du a 32 := by simp [Ho]
theorem UU (op : Int) (a b : Nat) : Ho op a b 32 = DH op a b := by
  have h1 := De op a b
  have h2 := BS a 32
  unfold Ho
  rw [List.take_of_length_le (by omega), List.drop_eq_nil_of_le (by omega), List.append_nil]
theorem VI (op : Int) (a b : Nat) : ∀ c ∈ DH op a b, c < 2 := fun c hc => by
  simp only [DH, List.mem_map] at hc
  obtain ⟨i, _, rfl⟩ := hc; exact VJ _ _ _
theorem Nn {a : Nat} (h : a < 4294967296) : CD (a : Int) := by constructor <;> omega
theorem Ug (a b : Nat) : BC 4 a b = ((((a + b) % 4294967296 : Nat) : Int), 0) := by
  show (IntKind.u32.wrap ((a : Int) + b), (0 : Int)) = _
  rw [IntKind.wrap_u32]; rfl
theorem Uc {a b : Nat} (h : b < 4294967296) : BC 5 a b = ((((a + 4294967296 - b) % 4294967296 : Nat) : Int), 0) := by
  show (IntKind.u32.wrap ((a : Int) - b), (0 : Int)) = _
  rw [IntKind.wrap_u32]; congr 1; omega
theorem Ud (a b : Nat) : BC 6 a b = (((a * b % 4294967296 : Nat) : Int), 0) := by
  show (IntKind.u32.wrap ((a : Int) * b), (0 : Int)) = _
  rw [IntKind.wrap_u32, <- Int.natCast_mul]; rfl
theorem L3 (op a : Int) (h : op = 7 \/ op = 8) : BC op a 0 = (0, 14) := by
  rcases h with rfl | rfl <;> rfl
theorem Uf {a b : Nat} (ha : a < 4294967296) (h : ¬ b = 0) : BC 7 a b = (((a / b : Nat) : Int), 0) := by
  show Ef 7 a b = _
  have hb : ((b : Int) == 0) = false := by simp; omega
  unfold Ef
  rw [hb]
  show (IntKind.u32.wrap ((a : Int).tdiv b), (0 : Int)) = _
  have h2 : a / b <= a := Nat.div_le_self a b
  rw [Int.tdiv_eq_ediv_of_nonneg (by omega), <- Int.natCast_ediv, CP (by omega)]
theorem Ue {a b : Nat} (h : ¬ b = 0) : BC 8 a b = (((a % b : Nat) : Int), 0) := by
  show Ef 8 a b = _
  have hb : ((b : Int) == 0) = false := by simp; omega
  unfold Ef
  rw [hb]
  show ((a : Int).tmod b, (0 : Int)) = _
  rw [Int.tmod_eq_emod_of_nonneg (by omega)]; rfl
theorem Sb {op : Int} {a b : Nat} (ha : a < 4294967296) (hb : b < 4294967296) (ho : op = 9 \/ op = 10 \/ op = 11) : BC op a b = (((valB (DH op a b) : Nat) : Int), 0) := Tl (Nn ha) (Nn hb) ho
theorem PJ {op : Int} {a b : Nat} (ho : op = 12 \/ op = 13) : BC op a b = (ET op a b, 0) := by
  rcases ho with rfl | rfl <;> rfl
theorem PF (op : Int) {a b : Nat} (h : 32 <= b) : ET op a b = 0 := by
  unfold ET
  rw [show decide ((b : Int) > 31) = true by simp; omega]; rfl
theorem M0 {op : Int} {a b : Nat} (ha : a < 4294967296) (hb : b < 32) (ho : op = 12 \/ op = 13) : ET op a b = (shN op a b : Nat) := PV (Nn ha) (by omega) (by omega) ho
theorem Wn (a b : Int) : BC 14 a b = (bif decide (a < b) then 1 else 0, 0) := by
  show (C0 14 a b, (0 : Int)) = _
  simp [C0]
theorem Wo (a b : Int) : BC 15 a b = (bif a == b then 1 else 0, 0) := by
  show (C0 15 a b, (0 : Int)) = _
  simp [C0]
def Tac.inR (t : Tac) (regs : Int) : Prop := (setsOp t.op = true -> 0 <= t.d /\ t.d < regs) /\ ∀ u ∈ t.uses, 0 <= u /\ u < regs
theorem Ve {t : Tac} {f regs words : Int} (h : t.fits f regs words = true) : t.inR regs := by
  simp only [Tac.fits, Bool.and_eq_true, Bool.or_eq_true, Bool.not_eq_true', List.all_eq_true, AY, decide_eq_true_eq] at h
  refine ⟨fun hs => ?_, fun u hu => h.2.2.2.1 u hu⟩
  rcases h.2.2.1 with h | h
  . rw [hs] at h; cases h
  . exact h
structure Mach where
  words : List Int
  out : List UInt8
  read : Nat
  steps : Nat
  fin : Int
def rget (l : List Int) (z : Int) : Int := (l[z.toNat]?).getD 0
def AK (l : List Int) (z v : Int) : List Int := l.set z.toNat v
def byteOf (n : Int) : UInt8 := UInt8.ofNat n.toNat
def inAt (s : ByteArray) (i : Nat) : UInt8 := (s.data.toList[i]?).getD 0
def AG (fuel : Int) (m : Mach) : Bool × Mach := bif decide ((m.steps : Int) >= fuel) then (false, { m with fin := 5 }) else (true, { m with steps := m.steps + 1 })
def AL (call : Int -> Mach -> Mach) (s : ByteArray) (t : Tac) (regs : List Int) (m : Mach) : List Int × Mach :=
  bif t.op == 1 then (AK regs t.d t.n, m)
  else bif t.op == 2 then (AK regs t.d (rget regs t.a), m)
  else bif t.op == 3 then
    (bif (BC t.k (rget regs t.a) (rget regs t.b)).2 == 0 then (AK regs t.d (BC t.k (rget regs t.a) (rget regs t.b)).1, m) else (regs, { m with fin := 2 }))
  else bif t.op == 4 then (AK regs t.d (rget m.words t.base), m)
  else bif t.op == 5 then (regs, { m with words := AK m.words t.base (rget regs t.a) })
  else bif t.op == 6 then (bif decide (rget regs t.a >= t.size) then (regs, { m with fin := 3 }) else (AK regs t.d (rget m.words (t.base + rget regs t.a)), m))
  else bif t.op == 7 then (bif decide (rget regs t.a >= t.size) then (regs, { m with fin := 3 }) else (regs, { m with words := AK m.words (t.base + rget regs t.a) (rget regs t.b) }))
  else bif t.op == 8 then (bif decide (m.read < s.size) then (AK regs t.d ((inAt s m.read).toNat : Int), { m with read := m.read + 1 }) else (AK regs t.d 256, m))
  else bif t.op == 9 then (bif decide (m.out.length >= 65536) then (regs, { m with fin := 4 }) else (regs, { m with out := m.out ++ [byteOf (rget regs t.a)] }))
  else bif t.op == 10 then (regs, call t.base m)
  else (regs, m)
def B2 (call : Int -> Mach -> Mach) (s : ByteArray) (fuel : Int) : List Tac -> List Int -> Mach -> Bool × List Int × Mach
  | [], regs, m => (true, regs, m)
  | t :: r, regs, m =>
    bif (AG fuel m).1 then
      (bif (AL call s t regs (AG fuel m).2).2.fin == 0 then B2 call s fuel r (AL call s t regs (AG fuel m).2).1 (AL call s t regs (AG fuel m).2).2
       else (false, AL call s t regs (AG fuel m).2))
    else (false, regs, (AG fuel m).2)
def Block.next (k : Block) (regs : List Int) : Int := bif k.fin == 2 && rget regs k.v == 0 then k.els else k.to
def Dd (call : Int -> Mach -> Mach) (s : ByteArray) (fuel : Int) (f : BFunc) : Nat -> Int -> List Int -> Mach -> Mach
  | 0, _, _, m => m
  | g + 1, i, regs, m =>
    match f.blocks[i.toNat]? with
    | none => m
    | some k =>
      let p := B2 call s fuel k.ins regs m
      bif p.1 then
        (bif (AG fuel p.2.2).1 && !(k.fin == 3) then Dd call s fuel f g (k.next p.2.1) p.2.1 (AG fuel p.2.2).2 else (AG fuel p.2.2).2)
      else p.2.2
def mfun (b : Blocks) (s : ByteArray) (fuel : Int) : Nat -> Int -> Mach -> Mach
  | 0, _, m => m
  | n + 1, i, m =>
    match b.funcs[i.toNat]? with
    | none => m
    | some f => Dd (mfun b s fuel n) s fuel f (fuel.toNat + 1) 0 (List.replicate f.regs.toNat 0) m
def m0 (b : Blocks) : Mach := ⟨List.replicate b.words.toNat 0, [], 0, 0, 0⟩
def Cq (fuel : Int) : Int := bif decide (fuel < 0) then 0 else fuel
def Fu (b : Blocks) (s : ByteArray) (fuel : Int) : Mach :=
  let m := mfun b s (Cq fuel) b.funcs.length ((b.funcs.length : Int) - 1) (m0 b)
  bif m.fin == 0 then { m with fin := 1 } else m
def FH (m : Mach) : List AV := [.int .i64 m.fin, .str ⟨m.out.toArray⟩, .int .i64 m.steps]
def Ac (l : List Int) : List (List AV) := l.map fun n => [AV.int .u32 n]
def Er (l : List Int) : Prop := ∀ v ∈ l, CD v
theorem C2 {l : List Int} (h : Er l) (z : Int) : CD (rget l z) := by
  unfold rget
  cases e : l[z.toNat]? with
  | none => exact isW_zero
  | some v => exact h v (List.mem_of_getElem? e)
theorem D2 {l : List Int} (h : Er l) (z : Int) {v : Int} (hv : CD v) : Er (AK l z v) := fun u hu => by
  unfold AK at hu
  rcases List.mem_or_eq_of_mem_set hu with hu | rfl
  . exact h u hu
  . exact hv
theorem B7 (l : List Int) (z v : Int) : (AK l z v).length = l.length := by simp [AK]
theorem Lz (c : UInt8) : CD ((c.toNat : Nat) : Int) := by
  have : c.toNat < 256 := UInt8.toNat_lt c
  constructor <;> omega
structure Mach.good (W : Nat) (m : Mach) : Prop where
  len : m.words.length = W
  words : Er m.words
  out : m.out.length <= 65536
theorem DD {fuel : Int} {m : Mach} {W : Nat} (h : m.good W) : (AG fuel m).2.good W := by
  unfold AG
  cases decide ((m.steps : Int) >= fuel) <;> exact ⟨h.1, h.2, h.3⟩
theorem GJ (fuel : Int) (m : Mach) : m.steps <= (AG fuel m).2.steps := by
  unfold AG
  cases decide ((m.steps : Int) >= fuel) <;> simp
theorem FK {call : Int -> Mach -> Mach} {s : ByteArray} {W : Nat} (hc : ∀ i m, m.good W -> (call i m).good W) (t : Tac) (ht : CD t.n) {regs : List Int} {m : Mach} (hr : Er regs) (h : m.good W) :
    Er (AL call s t regs m).1 /\ (AL call s t regs m).1.length = regs.length /\ (AL call s t regs m).2.good W := by
  have ha := C2 hr t.a
  have hb := C2 hr t.b
  unfold AL
  cases t.op == 1 with
  | true => exact ⟨D2 hr _ ht, B7 _ _ _, h⟩
  | false =>
  cases t.op == 2 with
  | true => exact ⟨D2 hr _ ha, B7 _ _ _, h⟩
  | false =>
  cases t.op == 3 with
  | true =>
    simp only [cond_true, cond_false]
    cases (BC t.k (rget regs t.a) (rget regs t.b)).2 == 0 with
    | true => exact ⟨D2 hr _ (G2 ha hb), B7 _ _ _, h⟩
    | false => exact ⟨hr, rfl, ⟨h.1, h.2, h.3⟩⟩
  | false =>
  cases t.op == 4 with
  | true => exact ⟨D2 hr _ (C2 h.2 _), B7 _ _ _, h⟩
  | false =>
  cases t.op == 5 with
  | true => exact ⟨hr, rfl, ⟨by simp only [cond_true, cond_false]; rw [B7]; exact h.1, D2 h.2 _ ha, h.3⟩⟩
  | false =>
  cases t.op == 6 with
  | true =>
    simp only [cond_true, cond_false]
    cases decide (rget regs t.a >= t.size) with
    | true => exact ⟨hr, rfl, ⟨h.1, h.2, h.3⟩⟩
    | false => exact ⟨D2 hr _ (C2 h.2 _), B7 _ _ _, h⟩
  | false =>
  cases t.op == 7 with
  | true =>
    simp only [cond_true, cond_false]
    cases decide (rget regs t.a >= t.size) with
    | true => exact ⟨hr, rfl, ⟨h.1, h.2, h.3⟩⟩
    | false => exact ⟨hr, rfl, ⟨by simp only [cond_false]; rw [B7]; exact h.1, D2 h.2 _ hb, h.3⟩⟩
  | false =>
  cases t.op == 8 with
  | true =>
    simp only [cond_true, cond_false]
    cases decide (m.read < s.size) with
    | true => exact ⟨D2 hr _ (Lz _), B7 _ _ _, ⟨h.1, h.2, h.3⟩⟩
    | false => exact ⟨D2 hr _ ⟨by omega, by omega⟩, B7 _ _ _, h⟩
  | false =>
  cases t.op == 9 with
  | true =>
    simp only [cond_true, cond_false]
    cases e : decide (m.out.length >= 65536) with
    | true => exact ⟨hr, rfl, ⟨h.1, h.2, h.3⟩⟩
    | false =>
      refine ⟨hr, rfl, ⟨h.1, h.2, ?_⟩⟩
      simp only [cond_false, List.length_append, List.length_cons, List.length_nil]
      simp at e; omega
  | false =>
  cases t.op == 10 with
  | true => exact ⟨hr, rfl, hc _ _ h⟩
  | false => exact ⟨hr, rfl, h⟩
theorem KP {call : Int -> Mach -> Mach} {s : ByteArray} (hc : ∀ i m, m.steps <= (call i m).steps) (t : Tac) (regs : List Int) (m : Mach) : m.steps <= (AL call s t regs m).2.steps := by
  unfold AL
  cases t.op == 1 with
  | true => exact Nat.le_refl _
  | false =>
  cases t.op == 2 with
  | true => exact Nat.le_refl _
  | false =>
  cases t.op == 3 with
  | true =>
    simp only [cond_true, cond_false]
    cases (BC t.k (rget regs t.a) (rget regs t.b)).2 == 0 <;> exact Nat.le_refl _
  | false =>
  cases t.op == 4 with
  | true => exact Nat.le_refl _
  | false =>
  cases t.op == 5 with
  | true => exact Nat.le_refl _
  | false =>
  cases t.op == 6 with
  | true =>
    simp only [cond_true, cond_false]
    cases decide (rget regs t.a >= t.size) <;> exact Nat.le_refl _
  | false =>
  cases t.op == 7 with
  | true =>
    simp only [cond_true, cond_false]
    cases decide (rget regs t.a >= t.size) <;> exact Nat.le_refl _
  | false =>
  cases t.op == 8 with
  | true =>
    simp only [cond_true, cond_false]
    cases decide (m.read < s.size) <;> exact Nat.le_refl _
  | false =>
  cases t.op == 9 with
  | true =>
    simp only [cond_true, cond_false]
    cases e : decide (m.out.length >= 65536) <;> exact Nat.le_refl _
  | false =>
  cases t.op == 10 with
  | true => exact hc _ _
  | false => exact Nat.le_refl _
theorem Mr {call : Int -> Mach -> Mach} {s : ByteArray} {fuel : Int} {W : Nat} (hc : ∀ i m, m.good W -> (call i m).good W) : ∀ (l : List Tac), U6 l -> ∀ (regs : List Int) (m : Mach), Er regs -> m.good W ->
    Er (B2 call s fuel l regs m).2.1 /\ (B2 call s fuel l regs m).2.1.length = regs.length /\ (B2 call s fuel l regs m).2.2.good W
  | [], _, regs, m, hr, h => ⟨hr, rfl, h⟩
  | t :: r, hl, regs, m, hr, h => by
    have h1 := DD (fuel := fuel) h
    have h2 := FK (s := s) hc t (hl t (by simp)) hr h1
    unfold B2
    cases (AG fuel m).1 with
    | false => exact ⟨hr, rfl, h1⟩
    | true =>
      simp only [cond_true]
      cases (AL call s t regs (AG fuel m).2).2.fin == 0 with
      | false => exact h2
      | true =>
        have ih := Mr (fuel := fuel) (s := s) hc r (fun u hu => hl u (by simp [hu])) _ _ h2.1 h2.2.2
        exact ⟨ih.1, ih.2.1.trans h2.2.1, ih.2.2⟩
theorem D5 {call : Int -> Mach -> Mach} {s : ByteArray} {fuel : Int} (hc : ∀ i m, m.steps <= (call i m).steps) : ∀ (l : List Tac) (regs : List Int) (m : Mach), m.steps <= (B2 call s fuel l regs m).2.2.steps
  | [], _, _ => Nat.le_refl _
  | t :: r, regs, m => by
    have h1 := GJ fuel m
    have h2 := KP (s := s) hc t regs (AG fuel m).2
    unfold B2
    cases (AG fuel m).1 with
    | false => exact h1
    | true =>
      simp only [cond_true]
      cases (AL call s t regs (AG fuel m).2).2.fin == 0 with
      | false => exact Nat.le_trans h1 h2
      | true => exact Nat.le_trans (Nat.le_trans h1 h2) (D5 hc r _ _)
theorem mblk_good {call : Int -> Mach -> Mach} {s : ByteArray} {fuel : Int} {W : Nat} (hc : ∀ i m, m.good W -> (call i m).good W) {f : BFunc} (hf : ∀ x ∈ f.blocks, U6 x.ins) : ∀ (g : Nat) (i : Int) (regs : List Int) (m : Mach), Er regs -> m.good W -> (Dd call s fuel f g i regs m).good W
  | 0, _, _, _, _, h => h
  | g + 1, i, regs, m, hr, h => by
    unfold Dd
    split
    . exact h
    . rename_i k hk
      have h2 := Mr (s := s) (fuel := fuel) hc k.ins (hf k (List.mem_of_getElem? hk)) regs m hr h
      have h3 := DD (fuel := fuel) h2.2.2
      dsimp only
      cases (B2 call s fuel k.ins regs m).1 with
      | false => exact h2.2.2
      | true =>
        simp only [cond_true]
        cases (AG fuel (B2 call s fuel k.ins regs m).2.2).1 && !(k.fin == 3) with
        | false => exact h3
        | true => exact mblk_good hc hf g _ _ _ h2.1 h3
theorem KV {call : Int -> Mach -> Mach} {s : ByteArray} {fuel : Int} (hc : ∀ i m, m.steps <= (call i m).steps) {f : BFunc} : ∀ (g : Nat) (i : Int) (regs : List Int) (m : Mach), m.steps <= (Dd call s fuel f g i regs m).steps
  | 0, _, _, _ => Nat.le_refl _
  | g + 1, i, regs, m => by
    unfold Dd
    split
    . exact Nat.le_refl _
    . rename_i k hk
      have h2 := D5 (s := s) (fuel := fuel) hc k.ins regs m
      have h3 := GJ fuel (B2 call s fuel k.ins regs m).2.2
      dsimp only
      cases (B2 call s fuel k.ins regs m).1 with
      | false => exact h2
      | true =>
        simp only [cond_true]
        cases (AG fuel (B2 call s fuel k.ins regs m).2.2).1 && !(k.fin == 3) with
        | false => exact Nat.le_trans h2 h3
        | true => exact Nat.le_trans (Nat.le_trans h2 h3) (KV hc g _ _ _)
theorem Ep (n : Nat) : Er (List.replicate n 0) := fun v hv => by
  rw [List.eq_of_mem_replicate hv]; exact isW_zero
def Blocks.insW (b : Blocks) : Prop := ∀ f ∈ b.funcs, ∀ x ∈ f.blocks, Sv.U6 x.ins
theorem Ms {b : Blocks} (hb : b.insW) {s : ByteArray} {fuel : Int} {W : Nat} : ∀ (n : Nat) (i : Int) (m : Mach), m.good W -> (mfun b s fuel n i m).good W
  | 0, _, _, h => h
  | n + 1, i, m, h => by
    unfold mfun
    split
    . exact h
    . rename_i f hf
      exact mblk_good (fun i m h => Ms hb n i m h) (hb f (List.mem_of_getElem? hf)) _ _ _ _ (Ep _) h
theorem D6 {b : Blocks} {s : ByteArray} {fuel : Int} : ∀ (n : Nat) (i : Int) (m : Mach), m.steps <= (mfun b s fuel n i m).steps
  | 0, _, _ => Nat.le_refl _
  | n + 1, i, m => by
    unfold mfun
    split
    . exact Nat.le_refl _
    . exact KV (fun i m => D6 n i m) _ _ _ _
def Do (b : Blocks) (s : ByteArray) (fuel : Int) (m : Mach) : List AV :=
  [.int .i64 b.words, A6 b.funcs, .str s, .int .i64 fuel, .ref 1 b.words.toNat 0 b.words.toNat, .ref 2 m.out.length 0 m.out.length, .int .i64 (m.read : Int), .int .i64 (m.steps : Int), .int .i64 m.fin]
abbrev Gl (h : Ab) (b : Blocks) (s : ByteArray) (fuel : Int) (m : Mach) : Ab :=
  hput (hput (hput h 0 (.row false 9 [Do b s fuel m])) 1 (.row true 1 (Ac m.words))) 2 (.row true 1 (As m.out))
theorem regCells_len (l : List Int) : (Ac l).length = l.length := by simp [Ac]
theorem F4 (n : Nat) : List.replicate n [AV.int .u32 0] = Ac (List.replicate n 0) := by simp [Ac]
theorem Bu {l : List Int} {z : Int} (h : 0 <= z /\ z < l.length) : (Ac l)[0 + z.toNat]? = some [AV.int .u32 (rget l z)] := by
  obtain ⟨v, hv⟩ := At (l := l) (k := z.toNat) (by omega)
  rw [Nat.zero_add, Ac, List.getElem?_map, hv, rget, hv]; rfl
theorem I5 (l : List Int) (z v : Int) : (Ac l).set (0 + z.toNat) [AV.int .u32 v] = Ac (AK l z v) := by
  rw [Nat.zero_add, Ac, Ac, AK, List.map_set]
theorem P2 (l : List Int) (z v : Int) (c : List AV) : ((Ac l).set (0 + z.toNat) c).set (0 + z.toNat) [AV.int .u32 v] = Ac (AK l z v) := by
  rw [List.set_set, I5]
theorem K7 {s : ByteArray} {i : Nat} (h : i < s.size) : s.data.toList[i]? = some (inAt s i) := by
  obtain ⟨v, hv⟩ := At (l := s.data.toList) (k := i) (by simpa using h)
  rw [inAt, hv]; rfl
theorem IS {n : Int} (h : CD n) : IntKind.u8.wrap n = (((byteOf n).toNat : Nat) : Int) := by
  obtain ⟨h1, h2⟩ := h
  obtain ⟨k, rfl⟩ := Int.eq_ofNat_of_zero_le h1
  rw [IntKind.wrap_u8, byteOf, Int.toNat_natCast]
  show _ = (((UInt8.ofNat k).toNat : Nat) : Int)
  rw [UInt8.toNat_ofNat']
  omega
section
variable {P : Program} {T : Nat -> Option AC} {o : Oper} {e : Az} {h : Ab}
theorem Bp (hT : Ck P T) {t u : TypeId} {x : Operand} {k k' : IntKind} {n r : Int} {i j : AC} (ho : o.op = .convert t u x) (hx : Aq e x = some (.int k' n)) (hi : T t = some i) (hj : T u = some j) (hk : j.k = .int k) (hw : k.wrap n = r) : QLoc P o e h [] (.int k r) := by
  have := I7 (h := h) hT ho hx hi hj hk
  rwa [hw] at this
end
section
variable {call : Int -> Mach -> Mach} {s : ByteArray} {t : Tac} {regs : List Int} {m : Mach}
theorem mone1 (h : t.op = 1) : AL call s t regs m = (AK regs t.d t.n, m) := by simp [AL, h]
theorem mone2 (h : t.op = 2) : AL call s t regs m = (AK regs t.d (rget regs t.a), m) := by simp [AL, h]
theorem mone3 (h : t.op = 3) (hz : ((BC t.k (rget regs t.a) (rget regs t.b)).2 != 0) = false) : AL call s t regs m = (AK regs t.d (BC t.k (rget regs t.a) (rget regs t.b)).1, m) := by
  have hz' : (BC t.k (rget regs t.a) (rget regs t.b)).2 = 0 := by simpa using hz
  simp [AL, h, hz']
theorem UT (h : t.op = 3) (hz : ((BC t.k (rget regs t.a) (rget regs t.b)).2 != 0) = true) : AL call s t regs m = (regs, { m with fin := 2 }) := by
  have hz' : ((BC t.k (rget regs t.a) (rget regs t.b)).2 == 0) = false := by simpa [bne] using hz
  simp [AL, h, hz']
theorem mone4 (h : t.op = 4) : AL call s t regs m = (AK regs t.d (rget m.words t.base), m) := by simp [AL, h]
theorem mone5 (h : t.op = 5) : AL call s t regs m = (regs, { m with words := AK m.words t.base (rget regs t.a) }) := by simp [AL, h]
theorem J6 (h : t.op = 6 \/ t.op = 7) (hz : decide (rget regs t.a >= t.size) = true) : AL call s t regs m = (regs, { m with fin := 3 }) := by
  rcases h with h | h
  . unfold AL; simp only [h, hz]; rfl
  . unfold AL; simp only [h, hz]; rfl
theorem mone6 (h : t.op = 6) (hz : decide (rget regs t.a >= t.size) = false) : AL call s t regs m = (AK regs t.d (rget m.words (t.base + rget regs t.a)), m) := by
  unfold AL; simp only [h, hz]; rfl
theorem mone7 (h : t.op = 7) (hz : decide (rget regs t.a >= t.size) = false) : AL call s t regs m = (regs, { m with words := AK m.words (t.base + rget regs t.a) (rget regs t.b) }) := by
  unfold AL; simp only [h, hz]; rfl
theorem XO (h : t.op = 8) (hz : m.read < s.size) : AL call s t regs m = (AK regs t.d ((inAt s m.read).toNat : Int), { m with read := m.read + 1 }) := by
  have hz' : decide (m.read < s.size) = true := by simpa using hz
  unfold AL; simp only [h, hz']; rfl
theorem US (h : t.op = 8) (hz : ¬ m.read < s.size) : AL call s t regs m = (AK regs t.d 256, m) := by
  have hz' : decide (m.read < s.size) = false := by simpa using hz
  unfold AL; simp only [h, hz']; rfl
theorem UR (h : t.op = 9) (hz : m.out.length >= 65536) : AL call s t regs m = (regs, { m with fin := 4 }) := by
  have hz' : decide (m.out.length >= 65536) = true := by simpa using hz
  unfold AL; simp only [h, hz']; rfl
theorem mone9 (h : t.op = 9) (hz : ¬ m.out.length >= 65536) : AL call s t regs m = (regs, { m with out := m.out ++ [byteOf (rget regs t.a)] }) := by
  have hz' : decide (m.out.length >= 65536) = false := by simpa using hz
  unfold AL; simp only [h, hz']; rfl
theorem I9 (h : t.op = 10) : AL call s t regs m = (regs, call t.base m) := by simp [AL, h]
end
theorem KN {fuel : Int} {m : Mach} (h : decide ((m.steps : Int) >= fuel) = true) : AG fuel m = (false, { m with fin := 5 }) := by simp [AG, h]
theorem EN {fuel : Int} {m : Mach} (h : decide ((m.steps : Int) >= fuel) = false) : AG fuel m = (true, { m with steps := m.steps + 1 }) := by simp [AG, h]
structure Po (t : Tac) (number R : Nat) (words : Nat) : Prop where
  op : 1 <= t.op /\ t.op <= 10
  d : setsOp t.op = true -> 0 <= t.d /\ t.d < R
  a : use1 t.op = true \/ use2 t.op = true -> 0 <= t.a /\ t.a < R
  b : use2 t.op = true -> 0 <= t.b /\ t.b < R
  base : t.op = 4 \/ t.op = 5 -> 0 <= t.base /\ t.base < words
  arr : t.op = 6 \/ t.op = 7 -> 1 <= t.size /\ t.size <= 4096 /\ 0 <= t.base /\ t.base + t.size <= words
  call : t.op = 10 -> 0 <= t.base /\ t.base < number
theorem Kk {t : Tac} {f regs words : Int} (h : t.fits f regs words = true) : Po t f.toNat regs.toNat words.toNat := by
  have h0 := h
  simp only [Tac.fits, Bool.and_eq_true, Bool.or_eq_true, Bool.not_eq_true', List.all_eq_true, AY, decide_eq_true_eq] at h
  obtain ⟨h1, h2, h3, h4, h5, _⟩ := h
  refine ⟨⟨h1, h2⟩, fun e => ?_, fun e => ?_, fun e => ?_, fun e => ?_, fun e => ?_, fun e => ?_⟩
  . rcases h3 with h3 | h3
    . rw [e] at h3; cases h3
    . omega
  . have := h4 t.a (by rcases e with e | e <;> simp [Tac.uses, e] <;> cases use1 t.op <;> simp)
    omega
  . have e2 := Rg t.op
    rw [e, Bool.and_true] at e2
    have := h4 t.b (by simp [Tac.uses, e, e2])
    omega
  . rcases e with e | e <;> simp [Tac.rest, baseOp, e, AY] at h5 <;> omega
  . rcases e with e | e <;> simp [Tac.rest, baseOp, HB, e] at h5 <;> omega
  . simp [Tac.rest, baseOp, HB, e, AY] at h5; omega
structure FG where
  i : Int
  regs : List Int
  m : Mach
  g : Nat
structure IG where
  j : Nat
  regs : List Int
  m : Mach
section
variable {call : Int -> Mach -> Mach} {s : ByteArray} {fuel : Int} {f : BFunc} {W R : Nat} {tgt : Mach} {q : FG} {k : Block} {r : IG}
structure FInv (call : Int -> Mach -> Mach) (s : ByteArray) (fuel : Int) (f : BFunc) (W R : Nat) (tgt : Mach) (q : FG) : Prop where
  good : q.m.good W
  fin : q.m.fin = 0
  regs : Er q.regs
  len : q.regs.length = R
  i : 0 <= q.i /\ q.i < f.blocks.length
  g : 0 < q.g
  gas : fuel.toNat < q.m.steps + q.g
  tgt : Dd call s fuel f q.g q.i q.regs q.m = tgt
structure IInv (call : Int -> Mach -> Mach) (s : ByteArray) (fuel : Int) (k : Block) (q : FG) (W R : Nat) (r : IG) : Prop where
  good : r.m.good W
  fin : r.m.fin = 0
  regs : Er r.regs
  len : r.regs.length = R
  j : r.j <= k.ins.length
  steps : q.m.steps <= r.m.steps
  eq : B2 call s fuel (k.ins.drop r.j) r.regs r.m = B2 call s fuel k.ins q.regs q.m
theorem FInv.start (h : FInv call s fuel f W R tgt q) : IInv call s fuel k q W R ⟨0, q.regs, q.m⟩ := ⟨h.good, h.fin, h.regs, h.len, Nat.zero_le _, Nat.le_refl _, rfl⟩
theorem FInv.unfold (h : FInv call s fuel f W R tgt q) (hk : f.blocks[q.i.toNat]? = some k) : tgt =
    (bif (B2 call s fuel k.ins q.regs q.m).1 then
        (bif (AG fuel (B2 call s fuel k.ins q.regs q.m).2.2).1 && !(k.fin == 3) then Dd call s fuel f (q.g - 1) (k.next (B2 call s fuel k.ins q.regs q.m).2.1) (B2 call s fuel k.ins q.regs q.m).2.1 (AG fuel (B2 call s fuel k.ins q.regs q.m).2.2).2 else (AG fuel (B2 call s fuel k.ins q.regs q.m).2.2).2)
      else (B2 call s fuel k.ins q.regs q.m).2.2) := by
  have h1 := h.tgt
  obtain ⟨g, hg⟩ : ∃ g, q.g = g + 1 := ⟨q.g - 1, by have := h.g; omega⟩
  rw [hg] at h1 |-
  rw [<- h1, Dd, hk]; rfl
theorem IInv.head (hi : IInv call s fuel k q W R r) {u : Tac} (hu : k.ins[r.j]? = some u) : B2 call s fuel k.ins q.regs q.m = B2 call s fuel (u :: k.ins.drop (r.j + 1)) r.regs r.m := by
  rw [<- hi.eq]
  have hl := (List.getElem?_eq_some_iff.1 hu)
  obtain ⟨h1, h2⟩ := hl
  rw [List.drop_eq_getElem_cons h1, h2]
theorem bS (h : FInv call s fuel f W R tgt q) (hk : f.blocks[q.i.toNat]? = some k) (hi : IInv call s fuel k q W R r) {u : Tac} (hu : k.ins[r.j]? = some u) (hs : (AG fuel r.m).1 = false) : tgt = (AG fuel r.m).2 := by
  have e : B2 call s fuel k.ins q.regs q.m = (false, r.regs, (AG fuel r.m).2) := by rw [hi.head hu, B2, hs]; rfl
  rw [h.unfold hk, e]; rfl
theorem bR (h : FInv call s fuel f W R tgt q) (hk : f.blocks[q.i.toNat]? = some k) (hi : IInv call s fuel k q W R r) {u : Tac} (hu : k.ins[r.j]? = some u) (hs : (AG fuel r.m).1 = true) (hz : ((AL call s u r.regs (AG fuel r.m).2).2.fin != 0) = true) :
    tgt = (AL call s u r.regs (AG fuel r.m).2).2 := by
  have hz' : ((AL call s u r.regs (AG fuel r.m).2).2.fin == 0) = false := by simpa [bne] using hz
  have e : B2 call s fuel k.ins q.regs q.m = (false, AL call s u r.regs (AG fuel r.m).2) := by rw [hi.head hu, B2, hs, hz']; rfl
  rw [h.unfold hk, e]; rfl
theorem IInv.next (hi : IInv call s fuel k q W R r) (hcg : ∀ i m, m.good W -> (call i m).good W) (hcs : ∀ i m, m.steps <= (call i m).steps) {u : Tac} (hu : k.ins[r.j]? = some u) (hw : CD u.n) (hs : (AG fuel r.m).1 = true) (hz : ((AL call s u r.regs (AG fuel r.m).2).2.fin != 0) = false) :
    IInv call s fuel k q W R ⟨r.j + 1, (AL call s u r.regs (AG fuel r.m).2).1, (AL call s u r.regs (AG fuel r.m).2).2⟩ := by
  have hz' : ((AL call s u r.regs (AG fuel r.m).2).2.fin) = 0 := by simpa using hz
  have hg := FK (s := s) hcg u hw hi.regs (DD (fuel := fuel) hi.good)
  refine ⟨hg.2.2, hz', hg.1, hg.2.1.trans hi.len, (List.getElem?_eq_some_iff.1 hu).1, ?_, ?_⟩
  . exact Nat.le_trans hi.steps (Nat.le_trans (GJ fuel r.m) (KP hcs u r.regs _))
  . rw [hi.head hu]
    dsimp only
    conv => rhs; rw [B2]
    rw [hs, hz']; rfl
theorem IInv.done (hi : IInv call s fuel k q W R r) (hj : k.ins.length <= r.j) : B2 call s fuel k.ins q.regs q.m = (true, r.regs, r.m) := by
  rw [<- hi.eq, List.drop_eq_nil_of_le hj]; rfl
theorem YN (h : FInv call s fuel f W R tgt q) (hk : f.blocks[q.i.toNat]? = some k) (hi : IInv call s fuel k q W R r) (hj : k.ins.length <= r.j) (hs : (AG fuel r.m).1 = false) : tgt = (AG fuel r.m).2 := by
  rw [h.unfold hk, hi.done hj]
  simp only [hs, Bool.false_and, cond_false, cond_true]
theorem YM (h : FInv call s fuel f W R tgt q) (hk : f.blocks[q.i.toNat]? = some k) (hi : IInv call s fuel k q W R r) (hj : k.ins.length <= r.j) (hf : (k.fin == 3) = true) : tgt = (AG fuel r.m).2 := by
  rw [h.unfold hk, hi.done hj]
  simp only [hf, Bool.not_true, Bool.and_false, cond_false, cond_true]
theorem bQ (h : FInv call s fuel f W R tgt q) (hk : f.blocks[q.i.toNat]? = some k) (hi : IInv call s fuel k q W R r) (hj : k.ins.length <= r.j) (hs : (AG fuel r.m).1 = false \/ (k.fin == 3) = true) : tgt = (AG fuel r.m).2 :=
  hs.elim (YN h hk hi hj) (YM h hk hi hj)
theorem DC {m : Mach} (hs : (AG fuel m).1 = true) : (m.steps : Int) < fuel /\ (AG fuel m).2 = { m with steps := m.steps + 1 } := by
  unfold AG at *
  cases e : decide ((m.steps : Int) >= fuel) with
  | true => rw [e] at hs; cases hs
  | false => simp at e; exact ⟨e, rfl⟩
theorem FInv.next (h : FInv call s fuel f W R tgt q) (hk : f.blocks[q.i.toNat]? = some k) (hi : IInv call s fuel k q W R r) (hj : k.ins.length <= r.j) (hs : (AG fuel r.m).1 = true) (hf : (k.fin == 3) = false) (hn : 0 <= k.next r.regs /\ k.next r.regs < f.blocks.length) :
    FInv call s fuel f W R tgt ⟨k.next r.regs, r.regs, (AG fuel r.m).2, q.g - 1⟩ /\ q.g - 1 < q.g := by
  obtain ⟨h1, h2⟩ := DC hs
  have hg := h.g
  have hgas := h.gas
  have hst := hi.steps
  refine ⟨⟨DD hi.good, by rw [h2]; exact hi.fin, hi.regs, hi.len, hn, ?_, ?_, ?_⟩, by omega⟩
  . rw [show (FG.mk (k.next r.regs) r.regs (AG fuel r.m).2 (q.g - 1)).g = q.g - 1 from rfl]; omega
  . rw [h2]; dsimp only; omega
  . rw [h.unfold hk, hi.done hj]
    simp only [hs, hf, Bool.not_false, Bool.and_true, cond_true]
end
theorem MG {k : Block} {blocks regs : Int} (h : k.ends blocks regs = true) (hf : (k.fin == 3) = false) (l : List Int) : 0 <= k.next l /\ k.next l < blocks := by
  unfold Block.ends at h
  unfold Block.next
  cases e1 : k.fin == 1 with
  | true =>
    rw [e1] at h
    have e2 : (k.fin == 2) = false := by simp at e1 |-; omega
    rw [e2]
    simp [AY] at h |-; omega
  | false =>
    cases e2 : k.fin == 2 with
    | true =>
      rw [e1, e2] at h
      simp [AY] at h
      cases rget l k.v == 0 <;> simp <;> omega
    | false => rw [e1, e2, hf] at h; simp at h
theorem ends_v {k : Block} {blocks regs : Int} (h : k.ends blocks regs = true) (hf : (k.fin == 2) = true) : 0 <= k.v /\ k.v < regs := by
  have e1 : (k.fin == 1) = false := by simp at hf |-; omega
  unfold Block.ends at h
  rw [e1, hf] at h
  simp [AY] at h; omega
theorem FInv.first {call : Int -> Mach -> Mach} {s : ByteArray} {fuel : Int} {f : BFunc} {W : Nat} {m : Mach} (hm : m.good W) (h0 : m.fin = 0) (hf : f.blocks ≠ []) :
    FInv call s fuel f W f.regs.toNat (Dd call s fuel f (fuel.toNat + 1) 0 (List.replicate f.regs.toNat 0) m) ⟨0, List.replicate f.regs.toNat 0, m, fuel.toNat + 1⟩ :=
  ⟨hm, h0, Ep _, by simp, ⟨by show (0 : Int) <= 0; omega, by show (0 : Int) < _; have := List.length_pos_iff.2 hf; omega⟩, Nat.succ_pos _, by show fuel.toNat < m.steps + (fuel.toNat + 1); omega, rfl⟩
def Block.nexts (b : Block) : List Int := bif b.fin == 1 then [b.to] else bif b.fin == 2 then [b.to, b.els] else []
def BFunc.nexts (f : BFunc) : List (List Int) := f.blocks.map Block.nexts
structure DS where
  been : List Bool
  way : List (Int × Int)
def bF (next : List (List Int)) (b : Int) : List Int := (next[b.toNat]?).getD []
theorem Lo {α : Type} {l : List α} {n : Nat} (h : n <= l.length) : (l.take n).dropLast = l.take (n - 1) := by
  rw [List.dropLast_eq_take, List.take_take, List.length_take]
  congr 1; omega
structure DS.ok (next : List (List Int)) (s : DS) : Prop where
  len : s.been.length = next.length
  way : ∀ p ∈ s.way, 0 <= p.1 /\ p.1 < next.length /\ 0 <= p.2 /\ p.2 <= (bF next p.1).length
def WO (v : Nat) : List Tac -> Bool -> Bool
  | [], z => z
  | t :: r, z => t.uses.contains (v : Int) || (!(t.sets == (v : Int)) && WO v r z)
def ce (x : Block) (v : Nat) : Bool := x.fin == 2 && x.v == (v : Int)
inductive Gj (f : BFunc) (v : Nat) : Nat -> Prop
  | here {c : Nat} {x : Block} : f.blocks[c]? = some x -> WO v x.ins (ce x v) = true -> Gj f v c
  | thru {c : Nat} {d : Int} {x : Block} : f.blocks[c]? = some x -> WO v x.ins true = true -> d ∈ x.nexts -> Gj f v d.toNat -> Gj f v c
open Classical in
noncomputable def fg (f : BFunc) (v c : Nat) : Bool := decide (Gj f v c)
noncomputable def WC (f : BFunc) (x : Block) (v : Nat) : Bool := x.nexts.any fun d => fg f v d.toNat
noncomputable def endB (f : BFunc) (x : Block) (v : Nat) : Bool := ce x v || WC f x v
theorem inB_iff {f : BFunc} {v c : Nat} : fg f v c = true ↔ Gj f v c := by unfold fg; simp
theorem outB_iff {f : BFunc} {x : Block} {v : Nat} : WC f x v = true ↔ ∃ d ∈ x.nexts, Gj f v d.toNat := by
  unfold WC
  rw [List.any_eq_true]
  exact ⟨fun ⟨d, h1, h2⟩ => ⟨d, h1, inB_iff.1 h2⟩, fun ⟨d, h1, h2⟩ => ⟨d, h1, inB_iff.2 h2⟩⟩
def Tac.pure (t : Tac) : Bool := t.op == 1 || (t.op == 2 || (t.op == 4 || (t.op == 3 && (!(t.k == 7) && !(t.k == 8)))))
def Block.mid (x : Block) (l : List Tac) : Block := { x with ins := l }
def BFunc.putB (f : BFunc) (c : Nat) (x : Block) : BFunc := { f with blocks := f.blocks.set c x }
structure cy (f g : BFunc) (c : Nat) (x : Block) (l1 : List Tac) (t : Tac) (l2 : List Tac) (v : Nat) : Prop where
  hx : f.blocks[c]? = some x
  hi : x.ins = l1 ++ t :: l2
  pure : t.pure = true
  hv : t.sets = (v : Int)
  dead : WO v l2 (endB f x v) = false
  hg : g = f.putB c (x.mid (l1 ++ l2))
def fY (f g : BFunc) : Prop := ∃ c x l1 t l2 v, cy f g c x l1 t l2 v
inductive Cuts : BFunc -> BFunc -> Prop
  | refl (f : BFunc) : Cuts f f
  | step {f g h : BFunc} : fY f g -> Cuts g h -> Cuts f h
theorem Cuts.trans {f g h : BFunc} (h1 : Cuts f g) (h2 : Cuts g h) : Cuts f h := by
  induction h1 with
  | refl => exact h2
  | step a _ ih => exact .step a (ih h2)
end Go.Proofs.Ytmfihmkopmgelaa.Sv
namespace Go.Proofs.Ytmfihmkopmgelaa.Sv
open Go
inductive CE where
  | mk (kind op num slot size : Int) (kids : List CE)
inductive CS where
  | mk (kind slot size : Int) (es : List CE) (thn els : List CS)
structure CFn where
  params : Int
  slots : Int
  first : Int
  word : Bool
  body : List CS
structure Core where
  words : Int
  funcs : List CFn
namespace CE
def kind : CE -> Int | mk k _ _ _ _ _ => k
def op : CE -> Int | mk _ o _ _ _ _ => o
def num : CE -> Int | mk _ _ n _ _ _ => n
def slot : CE -> Int | mk _ _ _ s _ _ => s
def size : CE -> Int | mk _ _ _ _ z _ => z
def kids : CE -> List CE | mk _ _ _ _ _ l => l
end CE
namespace CS
def kind : CS -> Int | mk k _ _ _ _ _ => k
def slot : CS -> Int | mk _ s _ _ _ _ => s
def size : CS -> Int | mk _ _ z _ _ _ => z
def es : CS -> List CE | mk _ _ _ l _ _ => l
def thn : CS -> List CS | mk _ _ _ _ l _ => l
def els : CS -> List CS | mk _ _ _ _ _ l => l
end CS
mutual
def CE.parts : CE -> Nat
  | .mk _ _ _ _ _ kids => 1 + CE.partsL kids
def CE.partsL : List CE -> Nat
  | [] => 0
  | e :: l => e.parts + CE.partsL l
end
mutual
def CS.parts : CS -> Nat
  | .mk _ _ _ es thn els => 1 + CE.partsL es + CS.partsL thn + CS.partsL els
def CS.partsL : List CS -> Nat
  | [] => 0
  | s :: l => s.parts + CS.partsL l
end
def Core.parts (c : Core) : Nat := (c.funcs.map fun f => CS.partsL f.body).sum
structure Bd where
  regs : Int
  blocks : List Block
  now : Nat
abbrev blk0 : Block := ⟨[], 3, 0, 0, 0⟩
def Bd.upd (b : Bd) (g : Block -> Block) : Bd := { b with blocks := b.blocks.modify b.now g }
def Bd.put (b : Bd) (t : Tac) : Bd := { b.upd (fun x => x.mid (x.ins ++ [t])) with regs := max b.regs (t.d + 1) }
def Bd.opened (b : Bd) : Bd := { b with blocks := b.blocks ++ [blk0] }
def Bd.jump (b : Bd) (to : Nat) : Bd := b.upd fun x => { x with fin := 1, to := (to : Int) }
def Bd.fork (b : Bd) (v to els : Nat) : Bd := b.upd fun x => { x with fin := 2, v := (v : Int), to := (to : Int), els := (els : Int) }
def Bd.go (b : Bd) (n : Nat) : Bd := { b with now := n }
def Bd.ret (b : Bd) : Bd := b.upd fun x => { x with fin := 3 }
def Bd.inside (b : Bd) (i to : Nat) (g : Bd -> Bd) : Bd := ((g (b.go i)).jump to).go b.now
abbrev AT (d : Nat) (n : Int) : Tac := ⟨1, d, 0, 0, 0, 0, 0, n⟩
abbrev AS (op : Int) (d x y : Nat) : Tac := ⟨3, d, x, y, op, 0, 0, 0⟩
abbrev Dk (d : Nat) (w : Int) : Tac := ⟨4, d, 0, 0, 0, w, 0, 0⟩
abbrev AM (w : Int) (a : Nat) : Tac := ⟨5, 0, a, 0, 0, w, 0, 0⟩
abbrev Gc (d a : Nat) (w z : Int) : Tac := ⟨6, d, a, 0, 0, w, z, 0⟩
abbrev BF (a b : Nat) (w z : Int) : Tac := ⟨7, 0, a, b, 0, w, z, 0⟩
abbrev K8 (d : Nat) : Tac := ⟨8, d, 0, 0, 0, 0, 0, 0⟩
abbrev Jg (a : Nat) : Tac := ⟨9, 0, a, 0, 0, 0, 0, 0⟩
abbrev ED (g : Int) : Tac := ⟨10, 0, 0, 0, 0, g, 0, 0⟩
def CE.flagged (e : CE) : Bool := e.kind == 7 || (e.kind == 8 || (e.kind == 9 || (e.kind == 6 && (e.op == 14 || e.op == 15))))
def Bd.not (b : Bd) (d : Nat) : Bd := (b.put (AT (d + 1) 0)).put (AS 15 d d (d + 1))
def Bd.truth (b : Bd) (e : CE) (d : Nat) : Bd := bif e.flagged then b else (b.not d).put (AS 15 d d (d + 1))
def Bd.args (b : Bd) (first : Int) (d : Nat) : Nat -> Bd
  | 0 => b
  | n + 1 => (b.args first d n).put (AM (first + n) (d + n))
def Core.first (c : Core) (g : Int) : Int := ((c.funcs[g.toNat]?).map CFn.first).getD 0
def Bd.called (b : Bd) (c : Core) (g : Int) (n d : Nat) : Bd := (b.args (c.first g) d n).put (ED g)
def Bd.either0 (b : Bd) (k : Int) (d : Nat) : Bd := bif k == 8 then b.opened.opened.fork d b.blocks.length (b.blocks.length + 1) else b.opened.opened.fork d (b.blocks.length + 1) b.blocks.length
mutual
def CE.build (c : Core) : CE -> Nat -> Bd -> Bd
  | .mk k o n s z kids, d, b =>
    if k = 1 then b.put (AT d n)
    else if k = 2 then b.put (Dk d s)
    else if k = 3 then (CE.buildL c kids d b).put (Gc d d s z)
    else if k = 4 then ((CE.buildL c kids d b).called c s kids.length d).put (Dk d c.words)
    else if k = 5 then b.put (K8 d)
    else if k = 6 then (CE.buildL c kids d b).put (AS o d d (d + 1))
    else if k = 7 then (CE.buildL c kids d b).not d
    else if k = 8 \/ k = 9 then DL c k kids d b
    else b
def CE.buildL (c : Core) : List CE -> Nat -> Bd -> Bd
  | [], _, b => b
  | e :: l, d, b => CE.buildL c l (d + 1) (e.build c d b)
def DL (c : Core) (k : Int) : List CE -> Nat -> Bd -> Bd
  | [], _, b => b
  | e :: l, d, b => DK c l d ((e.build c d b).truth e d) k
def DK (c : Core) : List CE -> Nat -> Bd -> Int -> Bd
  | [], _, b, _ => b
  | e :: _, d, b, k => ((b.either0 k d).inside b.blocks.length (b.blocks.length + 1) fun x => (e.build c d x).truth e d).go (b.blocks.length + 1)
end
def Bd.leave (b : Bd) (c : Core) (w : Bool) : Bd := (bif w then (b.put (AT 0 0)).put (AM c.words 0) else b).ret
def Bd.next (b : Bd) : Bd := b.opened.go b.blocks.length
mutual
def CS.build (c : Core) (w : Bool) : CS -> Bd -> Bd
  | .mk k s z es thn els, b =>
    if k = 1 then (CE.buildL c es 0 b).put (AM s 0)
    else if k = 2 then (CE.buildL c es 0 b).put (BF 0 1 s z)
    else if k = 3 then (CE.buildL c es 0 b).put (Jg 0)
    else if k = 6 then (CE.buildL c es 0 b).called c s es.length 0
    else if k = 7 then (if es = [] then b.leave c w else (CE.buildL c es 0 b).put (AM c.words 0)).next
    else if k = 4 then
      let b1 := CE.buildL c es 0 b
      let n := b1.blocks.length
      let b2 := if els = [] then (b1.opened.opened).fork 0 n (n + 1) else (b1.opened.opened.opened.inside (n + 2) (n + 1) fun x => CS.buildL c w els x).fork 0 n (n + 2)
      (b2.inside n (n + 1) fun x => CS.buildL c w thn x).go (n + 1)
    else if k = 5 then
      let n := b.blocks.length
      let b1 := ((b.opened.opened.opened).inside b.now n fun x => x).go n
      let b2 := (CE.buildL c es 0 b1).fork 0 (n + 1) (n + 2)
      (b2.inside (n + 1) n fun x => CS.buildL c w thn x).go (n + 2)
    else b
def CS.buildL (c : Core) (w : Bool) : List CS -> Bd -> Bd
  | [], b => b
  | s :: l, b => CS.buildL c w l (s.build c w b)
end
end Go.Proofs.Ytmfihmkopmgelaa.Sv
namespace Go.Proofs.Ytmfihmkopmgelaa.Sv
open Go
structure CM where
  m : Mach
  over : Bool
  val : Int
def CM.put (c : CM) (m : Mach) : CM := { c with m := m }
def CM.fin (c : CM) : Int := c.m.fin
def zf (b : Bool) : Int := bif b then 1 else 0
abbrev BD := Int -> List Int -> CM -> Int × CM
section
variable (call : BD) (s : ByteArray)
mutual
def CE.ev : CE -> CM -> Int × CM
  | .mk k o n sl z kids, c =>
    if k = 1 then (n, c)
    else if k = 2 then (rget c.m.words sl, c)
    else if k = 3 then Dn sl z kids c
    else if k = 4 then A5 sl kids [] c
    else if k = 5 then (bif decide (c.m.read < s.size) then (((inAt s c.m.read).toNat : Int), c.put { c.m with read := c.m.read + 1 }) else (256, c))
    else Cs k o kids c
def Dn (sl z : Int) : List CE -> CM -> Int × CM
  | [], c => (0, c)
  | e :: _, c => match e.ev c with
    | (i, c1) => bif c1.fin == 0 then (bif decide (i >= z) then (0, c1.put { c1.m with fin := 3 }) else (rget c1.m.words (sl + i), c1)) else (0, c1)
def A5 (f : Int) : List CE -> List Int -> CM -> Int × CM
  | [], args, c => call f args c
  | e :: l, args, c => match e.ev c with
    | (x, c1) => bif c1.fin == 0 then A5 f l (args ++ [x]) c1 else (0, c1)
def Cs (k o : Int) : List CE -> CM -> Int × CM
  | [], c => (0, c)
  | e :: l, c => match e.ev c with
    | (x, c1) => bif c1.fin == 0 then (bif k == 7 then (zf (x == 0), c1) else bif k == 8 && x == 0 then (0, c1) else bif k == 9 && !(x == 0) then (1, c1) else Cm k o l x c1) else (0, c1)
def Cm (k o : Int) : List CE -> Int -> CM -> Int × CM
  | [], _, c => (0, c)
  | e :: _, x, c => match e.ev c with
    | (y, c1) => bif k == 8 || k == 9 then (zf (!(y == 0)), c1) else bif c1.fin == 0 then (bif (BC o x y).2 == 0 then ((BC o x y).1, c1) else ((BC o x y).1, c1.put { c1.m with fin := 2 })) else (0, c1)
end
end
def AD (fuel : Int) (c : CM) : Bool × CM := ((AG fuel c.m).1, c.put (AG fuel c.m).2)
def Bk (fuel : Int) (cond : CM -> Int × CM) (body : CM -> CM) : Nat -> CM -> CM
  | 0, c => c.put { c.m with fin := 5 }
  | g + 1, c => bif c.fin == 0 && !c.over then (bif (AD fuel c).1 then (match cond (AD fuel c).2 with
      | (x, c1) => bif c1.fin == 0 && !(x == 0) then Bk fuel cond body g (body c1) else c1) else (AD fuel c).2) else c
def Bc (call : BD) (s : ByteArray) : List CE -> CM -> Int × CM
  | [], c => (0, c)
  | e :: _, c => e.ev call s c
section
variable (call : BD) (s : ByteArray) (fuel : Int)
mutual
def CS.run : CS -> CM -> CM
  | .mk k sl z es thn els, c =>
    if k = 6 then (A5 call s sl es [] c).2
    else if k = 5 then Bk fuel (Bc call s es) (fun c => Ao thn c) (fuel.toNat + 1) c
    else match Bc call s es c with
    | (x, c1) =>
      bif c1.fin == 0 then
        (if k = 7 then { c1 with over := true, val := x }
        else if k = 1 then c1.put { c1.m with words := AK c1.m.words sl x }
        else if k = 2 then (match Bc call s (es.drop 1) c1 with
          | (y, c2) => bif c2.fin == 0 then (bif decide (x >= z) then c2.put { c2.m with fin := 3 } else c2.put { c2.m with words := AK c2.m.words (sl + x) y }) else c2)
        else if k = 3 then (bif decide (c1.m.out.length >= 65536) then c1.put { c1.m with fin := 4 } else c1.put { c1.m with out := c1.m.out ++ [byteOf x] })
        else (bif x == 0 then Ao els c1 else Ao thn c1))
      else c1
def Ao : List CS -> CM -> CM
  | [], c => c
  | st :: l, c => bif c.fin == 0 && !c.over then Ao l (st.run c) else c
end
end
def A8 (w : List Int) (a : Int) : Nat -> List Int
  | 0 => w
  | n + 1 => AK (A8 w a n) (a + n) 0
def CB (w : List Int) (a : Int) (l : List Int) : Nat -> List Int
  | 0 => w
  | n + 1 => AK (CB w a l n) (a + n) (rget l n)
def BX (C : Core) (s : ByteArray) (fuel : Int) : Nat -> BD
  | 0, _, _, c => (0, c)
  | n + 1, f, args, c =>
    bif (AD fuel c).1 then
      (match C.funcs[f.toNat]? with
      | none => (0, c)
      | some g =>
        match Ao (BX C s fuel n) s fuel g.body ((AD fuel c).2.put { (AD fuel c).2.m with words := CB (A8 c.m.words g.first g.slots.toNat) g.first args args.length }) with
        | c1 => bif c1.over then (c1.val, { c1 with over := false }) else (0, c1))
    else (0, (AD fuel c).2)
def c0 (C : Core) : CM := ⟨⟨List.replicate C.words.toNat 0, [], 0, 0, 0⟩, false, 0⟩
def Fy (C : Core) (s : ByteArray) (fuel : Int) : Mach :=
  match C.funcs[C.funcs.length - 1]? with
  | none => ⟨[], [], 0, 0, 0⟩
  | some g =>
    match (Ao (BX C s fuel (C.funcs.length - 1)) s fuel g.body (c0 C)).m with
    | m => bif m.fin == 0 then { m with fin := 1 } else m
structure Mach.Le (m m' : Mach) : Prop where
  words : m'.words = m.words
  out : m'.out = m.out
  read : m'.read = m.read
  fin : m'.fin = m.fin
  steps : m'.steps <= m.steps
def Mach.Sim (x y : Mach) : Prop := x.fin = 5 \/ x.Le y
theorem Mach.Le.trans {x y z : Mach} (h : x.Le y) (h' : y.Le z) : x.Le z := ⟨h'.words.trans h.words, h'.out.trans h.out, h'.read.trans h.read, h'.fin.trans h.fin, Nat.le_trans h'.steps h.steps⟩
theorem Mach.Sim.trans {x y z : Mach} (h : x.Sim y) (h' : y.Sim z) : x.Sim z := by
  rcases h with h | h
  . exact .inl h
  . rcases h' with h' | h'
    . exact .inl (h.fin.symm.trans h')
    . exact .inr (h.trans h')
theorem Mach.Le.refl (m : Mach) : m.Le m := ⟨rfl, rfl, rfl, rfl, Nat.le_refl _⟩
theorem Mach.Le.put {m m' : Mach} (h : m.Le m') (w : List Int) (o : List UInt8) (r : Nat) (f : Int) : Mach.Le ⟨w, o, r, m.steps, f⟩ ⟨w, o, r, m'.steps, f⟩ := ⟨rfl, rfl, rfl, rfl, h.steps⟩
section
variable {call call' : Int -> Mach -> Mach} {s : ByteArray} {fuel : Int}
def E7 (fuel : Int) (g : Nat) (m : Mach) : Prop := fuel.toNat < m.steps + g
end
section
variable {call : Int -> Mach -> Mach} {s : ByteArray} {fuel : Int}
theorem mblk_gas (hcs : ∀ i m, m.steps <= (call i m).steps) {f : BFunc} : ∀ (g g' : Nat) (i : Int) (regs : List Int) (m : Mach), E7 fuel g m -> E7 fuel g' m -> 0 < g -> 0 < g' -> Dd call s fuel f g i regs m = Dd call s fuel f g' i regs m
  | 0, _, _, _, _, _, _, h, _ => absurd h (by omega)
  | _ + 1, 0, _, _, _, _, _, _, h => absurd h (by omega)
  | g + 1, g' + 1, i, regs, m, h1, h2, _, _ => by
    unfold Dd
    cases hk : f.blocks[i.toNat]? with
    | none => rfl
    | some k =>
      have hst := D5 (s := s) (fuel := fuel) hcs k.ins regs m
      dsimp only
      generalize B2 call s fuel k.ins regs m = X at hst |-
      obtain ⟨X1, X2, X3⟩ := X
      dsimp only at hst |-
      cases X1 with
      | false => rfl
      | true =>
        simp only [cond_true]
        cases hm : (AG fuel X3).1 && !(k.fin == 3) with
        | false => rfl
        | true =>
          simp only [cond_true]
          rw [Bool.and_eq_true] at hm
          obtain ⟨e1, e2⟩ := DC hm.1
          unfold E7 at h1 h2
          refine mblk_gas hcs g g' _ _ _ ?_ ?_ ?_ ?_
          . unfold E7; rw [e2]; dsimp only; omega
          . unfold E7; rw [e2]; dsimp only; omega
          . omega
          . omega
end
abbrev BI := Nat × Nat
abbrev nx (a : BI) : BI := (a.1, a.2 + 1)
def InsAt (G : List Block) (a : BI) (t : Tac) : Prop := ∃ x, G[a.1]? = some x /\ x.ins[a.2]? = some t
def By (G : List Block) (a : BI) (fin v to els : Int) : Prop := ∃ x, G[a.1]? = some x /\ x.ins.length = a.2 /\ x.fin = fin /\ x.v = v /\ x.to = to /\ x.els = els
def LP (call : Int -> Mach -> Mach) (s : ByteArray) (fuel : Int) (f : BFunc) (a : BI) (regs : List Int) (m : Mach) : Mach :=
  match f.blocks[a.1]? with
  | none => m
  | some k =>
    let p := B2 call s fuel (k.ins.drop a.2) regs m
    bif p.1 then (bif (AG fuel p.2.2).1 && !(k.fin == 3) then Dd call s fuel f (fuel.toNat + 1) (k.next p.2.1) p.2.1 (AG fuel p.2.2).2 else (AG fuel p.2.2).2)
    else p.2.2
section
variable {call : Int -> Mach -> Mach} {s : ByteArray} {fuel : Int} {f : BFunc}
theorem Qg (hcs : ∀ i m, m.steps <= (call i m).steps) {i : Nat} {regs : List Int} {m : Mach} : Dd call s fuel f (fuel.toNat + 1) (i : Int) regs m = LP call s fuel f (i, 0) regs m := by
  unfold Dd LP
  rw [Int.toNat_natCast]
  dsimp only
  cases hk : f.blocks[i]? with
  | none => rfl
  | some k =>
    have hst := D5 (s := s) (fuel := fuel) hcs k.ins regs m
    simp only [List.drop_zero]
    generalize B2 call s fuel k.ins regs m = X at hst |-
    obtain ⟨X1, X2, X3⟩ := X
    dsimp only at hst |-
    cases X1 with
    | false => rfl
    | true =>
      simp only [cond_true]
      cases hm : (AG fuel X3).1 && !(k.fin == 3) with
      | false => rfl
      | true =>
        simp only [cond_true]
        rw [Bool.and_eq_true] at hm
        obtain ⟨e1, e2⟩ := DC hm.1
        refine mblk_gas hcs _ _ _ _ _ ?_ ?_ ?_ ?_
        . unfold E7; rw [e2]; dsimp only; omega
        . unfold E7; rw [e2]; dsimp only; omega
        . omega
        . omega
theorem Iq {m : Mach} (h : m.steps < fuel) : AG fuel m = (true, { m with steps := m.steps + 1 }) := by
  unfold AG
  rw [decide_eq_false (by omega)]; rfl
theorem XE {a : BI} {t : Tac} {regs : List Int} {m : Mach} (ht : InsAt f.blocks a t) (hs : m.steps < fuel) (h0 : (AL call s t regs { m with steps := m.steps + 1 }).2.fin = 0) :
    LP call s fuel f a regs m = LP call s fuel f (nx a) (AL call s t regs { m with steps := m.steps + 1 }).1 (AL call s t regs { m with steps := m.steps + 1 }).2 := by
  obtain ⟨k, hk, hp⟩ := ht
  have hd : k.ins.drop a.2 = t :: k.ins.drop (a.2 + 1) := by
    rw [List.drop_eq_getElem_cons (List.getElem?_eq_some_iff.1 hp).1, (List.getElem?_eq_some_iff.1 hp).2]
  unfold LP
  simp only [hk, hd, B2, Iq hs, cond_true]
  rw [h0]
  rfl
theorem XF {a : BI} {t : Tac} {regs : List Int} {m : Mach} (ht : InsAt f.blocks a t) (hs : m.steps < fuel) (h0 : (AL call s t regs { m with steps := m.steps + 1 }).2.fin ≠ 0) :
    LP call s fuel f a regs m = (AL call s t regs { m with steps := m.steps + 1 }).2 := by
  obtain ⟨k, hk, hp⟩ := ht
  have hd : k.ins.drop a.2 = t :: k.ins.drop (a.2 + 1) := by
    rw [List.drop_eq_getElem_cons (List.getElem?_eq_some_iff.1 hp).1, (List.getElem?_eq_some_iff.1 hp).2]
  unfold LP
  simp only [hk, hd, B2, Iq hs, cond_true]
  rw [show ((AL call s t regs { m with steps := m.steps + 1 }).2.fin == 0) = false by simpa using h0]
  rfl
theorem XG (hcs : ∀ i m, m.steps <= (call i m).steps) {a : BI} {fin v to els : Int} {regs : List Int} {m : Mach} (ht : By f.blocks a fin v to els) (hs : m.steps < fuel) (h3 : fin ≠ 3) {n : Nat}
    (hn : (bif fin == 2 && rget regs v == 0 then els else to) = (n : Int)) : LP call s fuel f a regs m = LP call s fuel f (n, 0) regs { m with steps := m.steps + 1 } := by
  obtain ⟨k, hk, hp, rfl, rfl, rfl, rfl⟩ := ht
  have hd : k.ins.drop a.2 = [] := by rw [<- hp, List.drop_length]
  rw [<- Qg hcs]
  conv => lhs; unfold LP
  simp only [hk, hd, B2, Iq hs, cond_true]
  rw [show (k.fin == 3) = false by simpa using h3]
  simp only [Bool.not_false, Bool.and_self, cond_true]
  unfold Block.next
  rw [hn]
theorem ZW {a : BI} {v to els : Int} {regs : List Int} {m : Mach} (ht : By f.blocks a 3 v to els) (hs : m.steps < fuel) : LP call s fuel f a regs m = { m with steps := m.steps + 1 } := by
  obtain ⟨k, hk, hp, h3, _⟩ := ht
  have hd : k.ins.drop a.2 = [] := by rw [<- hp, List.drop_length]
  unfold LP
  simp only [hk, hd, B2, Iq hs, cond_true]
  rw [h3]; rfl
end
structure Cl where
  c : Int -> Int -> Mach -> Mach
  st : ∀ fu i m, m.steps <= (c fu i m).steps
structure Goes (C : Cl) (s : ByteArray) (f : BFunc) (a : BI) (regs : List Int) (m : Mach) (b : BI) (regs' : List Int) (m' : Mach) : Prop where
  le : m.steps <= m'.steps
  eq : ∀ fu : Nat, m'.steps <= fu -> LP (C.c fu) s fu f a regs m = LP (C.c fu) s fu f b regs' m'
structure Fp (C : Cl) (s : ByteArray) (f : BFunc) (a : BI) (regs : List Int) (m m' : Mach) : Prop where
  le : m.steps <= m'.steps
  eq : ∀ fu : Nat, m'.steps <= fu -> LP (C.c fu) s fu f a regs m = m'
section
variable {C : Cl} {s : ByteArray} {f : BFunc}
theorem Goes.refl (a : BI) (regs : List Int) (m : Mach) : Goes C s f a regs m a regs m := ⟨Nat.le_refl _, fun _ _ => rfl⟩
theorem Goes.trans {a b c : BI} {r r1 r2 : List Int} {m m1 m2 : Mach} (h1 : Goes C s f a r m b r1 m1) (h2 : Goes C s f b r1 m1 c r2 m2) : Goes C s f a r m c r2 m2 :=
  ⟨Nat.le_trans h1.le h2.le, fun fu h => (h1.eq fu (Nat.le_trans h2.le h)).trans (h2.eq fu h)⟩
theorem Goes.stops {a b : BI} {r r1 : List Int} {m m1 m2 : Mach} (h1 : Goes C s f a r m b r1 m1) (h2 : Fp C s f b r1 m1 m2) : Fp C s f a r m m2 :=
  ⟨Nat.le_trans h1.le h2.le, fun fu h => (h1.eq fu (Nat.le_trans h2.le h)).trans (h2.eq fu h)⟩
theorem BL {a : BI} {t : Tac} {regs r' : List Int} {m m' : Mach} (ht : InsAt f.blocks a t) (hm : ∀ call, AL call s t regs { m with steps := m.steps + 1 } = (r', m')) (h0 : m'.fin = 0) (hst : m'.steps = m.steps + 1) : Goes C s f a regs m (nx a) r' m' :=
  ⟨by omega, fun fu h => by
    have := XE (call := C.c fu) (s := s) (fuel := fu) (regs := regs) (m := m) ht (by omega) (by rw [hm]; exact h0)
    rw [this, hm]⟩
theorem Ma {a : BI} {t : Tac} {regs r' : List Int} {m m' : Mach} (ht : InsAt f.blocks a t) (hm : ∀ call, AL call s t regs { m with steps := m.steps + 1 } = (r', m')) (h0 : m'.fin ≠ 0) (hst : m'.steps = m.steps + 1) : Fp C s f a regs m m' :=
  ⟨by omega, fun fu h => by
    have := XF (call := C.c fu) (s := s) (fuel := fu) (regs := regs) (m := m) ht (by omega) (by rw [hm]; exact h0)
    rw [this, hm]⟩
theorem SZ {a : BI} {g : Int} {regs : List Int} {m m' : Mach} (ht : InsAt f.blocks a (ED g)) (hm : ∀ fu : Nat, m'.steps <= fu -> C.c fu g { m with steps := m.steps + 1 } = m') (h0 : m'.fin = 0) (hst : m.steps + 1 <= m'.steps) : Goes C s f a regs m (nx a) regs m' :=
  ⟨by omega, fun fu h => by
    have e : AL (C.c fu) s (ED g) regs { m with steps := m.steps + 1 } = (regs, m') := by
      rw [I9 rfl, hm fu h]
    have := XE (call := C.c fu) (s := s) (fuel := fu) (regs := regs) (m := m) ht (by omega) (by rw [e]; exact h0)
    rw [this, e]⟩
theorem PP {a : BI} {g : Int} {regs : List Int} {m m' : Mach} (ht : InsAt f.blocks a (ED g)) (hm : ∀ fu : Nat, m'.steps <= fu -> C.c fu g { m with steps := m.steps + 1 } = m') (h0 : m'.fin ≠ 0) (hst : m.steps + 1 <= m'.steps) : Fp C s f a regs m m' :=
  ⟨by omega, fun fu h => by
    have e : AL (C.c fu) s (ED g) regs { m with steps := m.steps + 1 } = (regs, m') := by
      rw [I9 rfl, hm fu h]
    have := XF (call := C.c fu) (s := s) (fuel := fu) (regs := regs) (m := m) ht (by omega) (by rw [e]; exact h0)
    rw [this, e]⟩
theorem FP {a : BI} {to : Nat} {regs : List Int} {m : Mach} (ht : By f.blocks a 1 0 to 0) : Goes C s f a regs m (to, 0) regs { m with steps := m.steps + 1 } :=
  ⟨Nat.le_succ _, fun fu h => XG (C.st fu) ht (by show (m.steps : Int) < fu; have : m.steps + 1 <= fu := h; omega) (by decide) rfl⟩
theorem Hb {a : BI} {v to els : Nat} {regs : List Int} {m : Mach} (ht : By f.blocks a 2 v to els) : Goes C s f a regs m (if rget regs v = 0 then els else to, 0) regs { m with steps := m.steps + 1 } :=
  ⟨Nat.le_succ _, fun fu h => XG (C.st fu) ht (by show (m.steps : Int) < fu; have : m.steps + 1 <= fu := h; omega) (by decide) (by
    by_cases e : rget regs v = 0
    . rw [if_pos e, e]; rfl
    . rw [if_neg e, show (rget regs v == 0) = false by simpa using e]; rfl)⟩
theorem IY {a : BI} {v to els : Int} {regs : List Int} {m : Mach} (ht : By f.blocks a 3 v to els) : Fp C s f a regs m { m with steps := m.steps + 1 } :=
  ⟨Nat.le_succ _, fun fu h => ZW ht (by show (m.steps : Int) < fu; have : m.steps + 1 <= fu := h; omega)⟩
end
def RX (G : List Block) (a : BI) (d : Nat) (b : BI) : Prop := InsAt G a (AT (d + 1) 0) /\ InsAt G (nx a) (AS 15 d d (d + 1)) /\ b = nx (nx a)
def EH (G : List Block) (e : CE) (a : BI) (d : Nat) (b : BI) : Prop := if e.flagged = true then b = a else ∃ a1, RX G a d a1 /\ InsAt G a1 (AS 15 d d (d + 1)) /\ b = nx a1
def IQ (G : List Block) (a : BI) (first g : Int) (n d : Nat) (b : BI) : Prop := (∀ i, i < n -> InsAt G (a.1, a.2 + i) (AM (first + i) (d + i))) /\ InsAt G (a.1, a.2 + n) (ED g) /\ b = (a.1, a.2 + n + 1)
mutual
def CE.code (c : Core) (G : List Block) : CE -> Nat -> BI -> BI -> Prop
  | .mk k o n s z kids, d, a, b =>
    if k = 1 then InsAt G a (AT d n) /\ b = nx a
    else if k = 2 then InsAt G a (Dk d s) /\ b = nx a
    else if k = 3 then ∃ a1, CE.codeL c G kids d a a1 /\ InsAt G a1 (Gc d d s z) /\ b = nx a1
    else if k = 4 then ∃ a1 a2, CE.codeL c G kids d a a1 /\ IQ G a1 (c.first s) s kids.length d a2 /\ InsAt G a2 (Dk d c.words) /\ b = nx a2
    else if k = 5 then InsAt G a (K8 d) /\ b = nx a
    else if k = 6 then ∃ a1, CE.codeL c G kids d a a1 /\ InsAt G a1 (AS o d d (d + 1)) /\ b = nx a1
    else if k = 7 then ∃ a1, CE.codeL c G kids d a a1 /\ RX G a1 d b
    else if k = 8 \/ k = 9 then LO c G k kids d a b
    else False
def CE.codeL (c : Core) (G : List Block) : List CE -> Nat -> BI -> BI -> Prop
  | [], _, a, b => b = a
  | e :: l, d, a, b => ∃ a1, e.code c G d a a1 /\ CE.codeL c G l (d + 1) a1 b
def LO (c : Core) (G : List Block) (k : Int) : List CE -> Nat -> BI -> BI -> Prop
  | [], _, _, _ => False
  | e :: l, d, a, b => ∃ a1 a2, e.code c G d a a1 /\ EH G e a1 d a2 /\ LN c G k l d a2 b
def LN (c : Core) (G : List Block) (k : Int) : List CE -> Nat -> BI -> BI -> Prop
  | [], _, _, _ => False
  | e :: _, d, a, b => ∃ (r h : Nat) (a1 a2 : BI), (if k = 8 then By G a 2 d r h else By G a 2 d h r) /\ e.code c G d (r, 0) a1 /\ EH G e a1 d a2 /\ By G a2 1 0 h 0 /\ b = (h, 0)
end
mutual
def CE.ok (C : Core) (n : Nat) : CE -> Prop
  | .mk k o num s z kids => CE.okL C n kids /\
    ((k = 1 /\ CD num) \/ (k = 2 /\ 0 <= s /\ s < C.words) \/ (k = 3 /\ kids.length = 1 /\ 1 <= z /\ z <= 4096 /\ 0 <= s /\ s + z <= C.words) \/
     (k = 4 /\ 0 <= s /\ s < n /\ ∃ g, C.funcs[s.toNat]? = some g /\ g.word = true /\ g.params = kids.length /\ kids.length <= 6) \/ k = 5 \/ (k = 6 /\ kids.length = 2 /\ 4 <= o /\ o <= 15) \/ (k = 7 /\ kids.length = 1) \/ (k = 8 /\ kids.length = 2) \/ (k = 9 /\ kids.length = 2))
def CE.okL (C : Core) (n : Nat) : List CE -> Prop
  | [] => True
  | e :: l => e.ok C n /\ CE.okL C n l
end
structure RelM (W M : Nat) (c m : Mach) : Prop where
  clen : c.words.length = W
  len : m.words.length = M
  w : ∀ j : Nat, j < W -> m.words[j]? = c.words[j]?
  ok : Er c.words
  out : m.out = c.out
  read : m.read = c.read
  fin : m.fin = 0
  cfin : c.fin = 0
theorem RelM.get {W M : Nat} {c m : Mach} (h : RelM W M c m) {z : Int} (h0 : 0 <= z) (h1 : z < W) : rget m.words z = rget c.words z := by
  unfold rget
  rw [h.w z.toNat (by omega)]
theorem RelM.step {W M : Nat} {c m : Mach} (h : RelM W M c m) (k j : Nat) : RelM W M { c with steps := k } { m with steps := j } := ⟨h.clen, h.len, h.w, h.ok, h.out, h.read, h.fin, h.cfin⟩
theorem RelM.put {W M : Nat} {c m : Mach} (h : RelM W M c m) {z v : Int} (h0 : 0 <= z) (h1 : z < W) (hv : CD v) (k j : Nat) : RelM W M { c with words := AK c.words z v, steps := k } { m with words := AK m.words z v, steps := j } := by
  refine ⟨by unfold AK; rw [List.length_set]; exact h.clen, by unfold AK; rw [List.length_set]; exact h.len, fun i hi => ?_, ?_, h.out, h.read, h.fin, h.cfin⟩
  . have hc := h.clen
    have hm := h.len
    have hw := h.w i hi
    show (m.words.set z.toNat v)[i]? = (c.words.set z.toNat v)[i]?
    have hi2 : i < m.words.length := by
      rw [List.getElem?_eq_getElem (by omega : i < c.words.length)] at hw
      exact (List.getElem?_eq_some_iff.1 hw).1
    rw [List.getElem?_set, List.getElem?_set]
    by_cases e : z.toNat = i
    . rw [if_pos e, if_pos e, if_pos (by omega), if_pos (by omega)]
    . rw [if_neg e, if_neg e]; exact hw
  . exact D2 h.ok z hv
structure Cx where
  C : Core
  s : ByteArray
  F : BFunc
  cl : Cl
  call : BD
  n : Nat
  W : Nat
  M : Nat
  K : Nat
structure CallOut (X : Cx) (g : Int) (fn : CFn) (c : CM) (m : Mach) (p : Int × CM) : Prop where
  le : c.m.steps <= p.2.m.steps
  go : p.2.fin = 0 -> p.2.over = false /\ CD p.1 /\ ∃ m', (∀ fu : Nat, m'.steps <= fu -> X.cl.c fu g m = m') /\ m.steps <= m'.steps /\ RelM X.W X.M p.2.m m' /\ (fn.word = true -> rget m'.words X.C.words = p.1) /\ m'.steps + X.K * c.m.steps <= m.steps + X.K * p.2.m.steps
  stop : p.2.fin ≠ 0 -> p.2.fin ≠ 5 -> ∃ m', (∀ fu : Nat, m'.steps <= fu -> X.cl.c fu g m = m') /\ m.steps <= m'.steps /\ m'.fin = p.2.fin /\ m'.out = p.2.m.out /\ m'.steps + X.K * c.m.steps <= m.steps + X.K * p.2.m.steps
structure Gv (X : Cx) : Prop where
  w : X.C.words = (X.W : Int)
  wm : X.W <= X.M
  told : ∀ fn ∈ X.C.funcs, fn.word = true -> X.W < X.M
  regs : ∀ x ∈ X.F.blocks, ∀ t ∈ x.ins, setsOp t.op = true -> 0 <= t.d /\ t.d < X.F.regs
  call : ∀ (g : Nat) (fn : CFn) (args : List Int) (c : CM) (m0 m : Mach), g < X.n -> X.C.funcs[g]? = some fn -> (args.length : Int) = fn.params -> (∀ x ∈ args, CD x) -> c.over = false -> RelM X.W X.M c.m m0 ->
    m.words = CB m0.words fn.first args args.length -> m.out = m0.out -> m.read = m0.read -> m.fin = 0 -> CallOut X g fn c m (X.call g args c)
theorem InsAt.reg {X : Cx} (hX : Gv X) {a : BI} {t : Tac} (h : InsAt X.F.blocks a t) (hs : setsOp t.op = true) : 0 <= t.d /\ t.d < X.F.regs := by
  obtain ⟨x, h1, h2⟩ := h
  exact hX.regs x (List.mem_of_getElem? h1) t (List.mem_of_getElem? h2) hs
structure EvOk (X : Cx) (parts d : Nat) (a b : BI) (regs : List Int) (c : CM) (m : Mach) (p : Int × CM) : Prop where
  le : c.m.steps <= p.2.m.steps
  go : p.2.fin = 0 -> p.2.over = false /\ CD p.1 /\ ∃ regs' m', Goes X.cl X.s X.F a regs m b regs' m' /\ RelM X.W X.M p.2.m m' /\ regs'.length = regs.length /\ rget regs' (d : Int) = p.1 /\ (∀ j : Nat, j < d -> rget regs' (j : Int) = rget regs (j : Int)) /\ m'.steps + X.K * c.m.steps <= m.steps + parts + X.K * p.2.m.steps
  stop : p.2.fin ≠ 0 -> p.2.fin ≠ 5 -> ∃ m', Fp X.cl X.s X.F a regs m m' /\ m'.fin = p.2.fin /\ m'.out = p.2.m.out /\ m'.steps + X.K * c.m.steps <= m.steps + parts + X.K * p.2.m.steps
def TJ (X : Cx) (e : CE) : Prop := ∀ (d : Nat) (a b : BI) (regs : List Int) (c : CM) (m : Mach), e.code X.C X.F.blocks d a b -> e.ok X.C X.n -> (regs.length : Int) = X.F.regs -> c.over = false -> RelM X.W X.M c.m m -> EvOk X (8 * e.parts) d a b regs c m (e.ev X.call X.s c)
section
variable {call : Int -> Mach -> Mach} {s : ByteArray} {regs : List Int} {m : Mach}
theorem Mo (d : Nat) (w : Int) : AL call s (Dk d w) regs m = (AK regs (d : Int) (rget m.words w), m) := rfl
theorem Ga (w : Int) (a : Nat) : AL call s (AM w a) regs m = (regs, { m with words := AK m.words w (rget regs (a : Int)) }) := rfl
theorem FL (op : Int) (d x y : Nat) : AL call s (AS op d x y) regs m = (bif (BC op (rget regs x) (rget regs y)).2 == 0 then (AK regs d (BC op (rget regs x) (rget regs y)).1, m) else (regs, { m with fin := 2 })) := rfl
theorem KQ (d a : Nat) (w z : Int) : AL call s (Gc d a w z) regs m = (bif decide (rget regs (a : Int) >= z) then (regs, { m with fin := 3 }) else (AK regs (d : Int) (rget m.words (w + rget regs (a : Int))), m)) := rfl
theorem GK (a b : Nat) (w z : Int) : AL call s (BF a b w z) regs m = (bif decide (rget regs (a : Int) >= z) then (regs, { m with fin := 3 }) else (regs, { m with words := AK m.words (w + rget regs (a : Int)) (rget regs (b : Int)) })) := rfl
theorem OE (d : Nat) : AL call s (K8 d) regs m = (bif decide (m.read < s.size) then (AK regs (d : Int) ((inAt s m.read).toNat : Int), { m with read := m.read + 1 }) else (AK regs (d : Int) 256, m)) := rfl
theorem OD (a : Nat) : AL call s (Jg a) regs m = (bif decide (m.out.length >= 65536) then (regs, { m with fin := 4 }) else (regs, { m with out := m.out ++ [byteOf (rget regs (a : Int))] })) := rfl
end
theorem Mh {l : List Int} {d j : Nat} {v : Int} : rget (AK l (d : Int) v) (j : Int) = if d = j /\ d < l.length then v else rget l (j : Int) := by
  unfold rget AK
  rw [List.getElem?_set, Int.toNat_natCast, Int.toNat_natCast]
  by_cases h : d = j
  . subst h
    by_cases h2 : d < l.length
    . simp [h2]
    . simp [h2]
  . simp [h]
theorem Cn {l : List Int} {d : Nat} {v : Int} (h : d < l.length) : rget (AK l (d : Int) v) (d : Int) = v := by
  rw [Mh, if_pos ⟨rfl, h⟩]
theorem A0 {l : List Int} {d j : Nat} {v : Int} (h : d ≠ j) : rget (AK l (d : Int) v) (j : Int) = rget l (j : Int) := by
  rw [Mh, if_neg (fun e => h e.1)]
end Go.Proofs.Ytmfihmkopmgelaa.Sv
