/-
  THE TYPES OF THE PROGRAM, WRITTEN OUT: printed by a program of our own.
-/
import Derived.Test.YtmfihmkopmgelaaGreatPBuildMeans1
import Derived.Test.YtmfihmkopmgelaaGreatProg
import Derived.KernelRfl
import Derived.Test.YtmfihmkopmgelaaGreatPBuildMeans2
import Derived.Scope
import Derived.Lib.SliceRun
import Derived.Laws.BytesString
import Derived.Lib.ConvBytes
import Derived.WideKeyRuns
import Derived.ProofKit
import Derived.OpenShut
import Derived.SizedLaws
import Derived.Test.YtmfihmkopmgelaaGreatRows
set_option linter.unusedVariables false
set_option linter.unusedSimpArgs false
set_option maxRecDepth 100000
set_option maxHeartbeats 2000000
namespace Go.Proofs.YtmfihmkopmgelaaGreat.Sv
open Go
abbrev na:AD:=⟨.other,1,0,[]⟩
abbrev m9:AD:=⟨.fn,1,8,[.val .nilFunc]⟩
abbrev m8:AD:=⟨.int .i64,1,8,[.int .i64 0]⟩
abbrev mZ:AD:=⟨.int .i64,1,8,[.int .i64 0]⟩
abbrev mY:AD:=⟨.bool,1,1,[.bool false]⟩
abbrev mX:AD:=⟨.int .u8,1,1,[.int .u8 0]⟩
abbrev mV:AD:=⟨.int .u8,1,1,[.int .u8 0]⟩
abbrev mU:AD:=⟨.struct [(0,2),(1,3),(2,4),(3,6)],4,24,[.int .i64 0,.int .i64 0,.bool false,.int .u8 0]⟩
abbrev mS:AD:=⟨.struct [(0,2),(1,3),(2,4),(3,6)],4,24,[.int .i64 0,.int .i64 0,.bool false,.int .u8 0]⟩
abbrev mR:AD:=⟨.string,1,16,[.str ⟨#[]⟩]⟩
abbrev mt:AD:=⟨.string,1,16,[.str ⟨#[]⟩]⟩
abbrev ms:AD:=⟨.string,1,16,[.str ⟨#[]⟩]⟩
abbrev mr:AD:=⟨.int .u64,1,8,[.int .u64 0]⟩
abbrev mq:AD:=⟨.struct [(0,9),(1,12)],2,24,[.str ⟨#[]⟩,.int .u64 0]⟩
abbrev mo:AD:=⟨.struct [(0,9),(1,12)],2,24,[.str ⟨#[]⟩,.int .u64 0]⟩
abbrev mn:AD:=⟨.ptr 164,1,8,[.nilp]⟩
abbrev mm:AD:=⟨.ptr 167,1,8,[.nilp]⟩
abbrev ml:AD:=⟨.ptr 175,1,8,[.nilp]⟩
abbrev mh:AD:=⟨.struct [(0,17)],1,8,[.nilp]⟩
abbrev mg:AD:=⟨.struct [(0,17)],1,8,[.nilp]⟩
abbrev mf:AD:=⟨.other,1,16,[.val .nilIface]⟩
abbrev me:AD:=⟨.int .i32,1,4,[.int .i32 0]⟩
abbrev md:AD:=⟨.slice 9,1,24,[.nil]⟩
abbrev mc:AD:=⟨.slice 61,1,24,[.nil]⟩
abbrev mb:AD:=⟨.slice 64,1,24,[.nil]⟩
abbrev ma:AD:=⟨.struct [(0,22),(1,23),(2,24)],3,72,[.nil,.nil,.nil]⟩
abbrev l9:AD:=⟨.struct [(0,22),(1,23),(2,24)],3,72,[.nil,.nil,.nil]⟩
abbrev l7:AD:=⟨.fn,1,8,[.val .nilFunc]⟩
abbrev l0:AD:=⟨.fn,1,8,[.val .nilFunc]⟩
abbrev lZ:AD:=⟨.fn,1,8,[.val .nilFunc]⟩
abbrev lY:AD:=⟨.slice 57,1,24,[.nil]⟩
abbrev lX:AD:=⟨.struct [(0,3),(1,30)],2,32,[.int .i64 0,.nil]⟩
abbrev lW:AD:=⟨.struct [(0,3),(1,30)],2,32,[.int .i64 0,.nil]⟩
abbrev lV:AD:=⟨.int .i64,1,8,[.int .i64 0]⟩
abbrev lU:AD:=⟨.other,1,0,[]⟩
abbrev lT:AD:=⟨.fn,1,8,[.val .nilFunc]⟩
abbrev lS:AD:=⟨.struct [(0,3),(1,9),(2,3)],3,32,[.int .i64 0,.str ⟨#[]⟩,.int .i64 0]⟩
abbrev lR:AD:=⟨.struct [(0,3),(1,9),(2,3)],3,32,[.int .i64 0,.str ⟨#[]⟩,.int .i64 0]⟩
abbrev lQ:AD:=⟨.fn,1,8,[.val .nilFunc]⟩
abbrev lP:AD:=⟨.fn,1,8,[.val .nilFunc]⟩
abbrev lO:AD:=⟨.fn,1,8,[.val .nilFunc]⟩
abbrev lN:AD:=⟨.slice 92,1,24,[.nil]⟩
abbrev lM:AD:=⟨.struct [(0,3),(1,41)],2,32,[.int .i64 0,.nil]⟩
abbrev lL:AD:=⟨.struct [(0,3),(1,41)],2,32,[.int .i64 0,.nil]⟩
abbrev lK:AD:=⟨.fn,1,8,[.val .nilFunc]⟩
abbrev lJ:AD:=⟨.fn,1,8,[.val .nilFunc]⟩
abbrev lI:AD:=⟨.fn,1,8,[.val .nilFunc]⟩
abbrev lH:AD:=⟨.slice 54,1,24,[.nil]⟩
abbrev lG:AD:=⟨.slice 50,1,24,[.nil]⟩
abbrev lF:AD:=⟨.struct [(0,3),(1,3),(2,3),(3,47),(4,48),(5,48)],6,96,[.int .i64 0,.int .i64 0,.int .i64 0,.nil,.nil,.nil]⟩
abbrev lE:AD:=⟨.struct [(0,3),(1,3),(2,3),(3,47),(4,48),(5,48)],6,96,[.int .i64 0,.int .i64 0,.int .i64 0,.nil,.nil,.nil]⟩
abbrev lD:AD:=⟨.fn,1,8,[.val .nilFunc]⟩
abbrev lC:AD:=⟨.int .u32,1,4,[.int .u32 0]⟩
abbrev lB:AD:=⟨.struct [(0,3),(1,3),(2,52),(3,3),(4,3),(5,47)],6,64,[.int .i64 0,.int .i64 0,.int .u32 0,.int .i64 0,.int .i64 0,.nil]⟩
abbrev lA:AD:=⟨.struct [(0,3),(1,3),(2,52),(3,3),(4,3),(5,47)],6,64,[.int .i64 0,.int .i64 0,.int .u32 0,.int .i64 0,.int .i64 0,.nil]⟩
abbrev lz:AD:=⟨.fn,1,8,[.val .nilFunc]⟩
abbrev ly:AD:=⟨.struct [(0,3),(1,3),(2,3),(3,4),(4,48)],5,56,[.int .i64 0,.int .i64 0,.int .i64 0,.bool false,.nil]⟩
abbrev lx:AD:=⟨.struct [(0,3),(1,3),(2,3),(3,4),(4,48)],5,56,[.int .i64 0,.int .i64 0,.int .i64 0,.bool false,.nil]⟩
abbrev lw:AD:=⟨.fn,1,8,[.val .nilFunc]⟩
abbrev lu:AD:=⟨.fn,1,8,[.val .nilFunc]⟩
abbrev ls:AD:=⟨.struct [(0,9),(1,3)],2,24,[.str ⟨#[]⟩,.int .i64 0]⟩
abbrev lr:AD:=⟨.struct [(0,9),(1,3)],2,24,[.str ⟨#[]⟩,.int .i64 0]⟩
abbrev lq:AD:=⟨.slice 97,1,24,[.nil]⟩
abbrev lp:AD:=⟨.struct [(0,9),(1,22),(2,22),(3,4),(4,62)],5,96,[.str ⟨#[]⟩,.nil,.nil,.bool false,.nil]⟩
abbrev ln:AD:=⟨.struct [(0,9),(1,22),(2,22),(3,4),(4,62)],5,96,[.str ⟨#[]⟩,.nil,.nil,.bool false,.nil]⟩
abbrev lm:AD:=⟨.fn,1,8,[.val .nilFunc]⟩
abbrev ll:AD:=⟨.fn,1,8,[.val .nilFunc]⟩
abbrev lk:AD:=⟨.fn,1,8,[.val .nilFunc]⟩
abbrev li:AD:=⟨.fn,1,8,[.val .nilFunc]⟩
abbrev lh:AD:=⟨.slice 3,1,24,[.nil]⟩
abbrev lg:AD:=⟨.other,1,0,[]⟩
abbrev ld:AD:=⟨.fn,1,8,[.val .nilFunc]⟩
abbrev lb:AD:=⟨.fn,1,8,[.val .nilFunc]⟩
abbrev la:AD:=⟨.ptr 78,1,8,[.nilp]⟩
abbrev kZ:AD:=⟨.slice 52,1,24,[.nil]⟩
abbrev kY:AD:=⟨.slice 74,1,24,[.nil]⟩
abbrev kX:AD:=⟨.slice 5,1,24,[.nil]⟩
abbrev kW:AD:=⟨.struct [(0,26),(3,9),(4,3),(5,74),(6,75),(7,76),(8,3),(9,3),(10,3)],11,192,[.nil,.nil,.nil,.str ⟨#[]⟩,.int .i64 0,.nil,.nil,.nil,.int .i64 0,.int .i64 0,.int .i64 0]⟩
abbrev kV:AD:=⟨.struct [(0,26),(3,9),(4,3),(5,74),(6,75),(7,76),(8,3),(9,3),(10,3)],11,192,[.nil,.nil,.nil,.str ⟨#[]⟩,.int .i64 0,.nil,.nil,.nil,.int .i64 0,.int .i64 0,.int .i64 0]⟩
abbrev kU:AD:=⟨.fn,1,8,[.val .nilFunc]⟩
abbrev kS:AD:=⟨.ptr 82,1,8,[.nilp]⟩
abbrev kQ:AD:=⟨.struct [(0,43),(2,9),(3,3),(4,74),(5,76),(6,3),(7,3),(8,3)],9,128,[.int .i64 0,.nil,.str ⟨#[]⟩,.int .i64 0,.nil,.nil,.int .i64 0,.int .i64 0,.int .i64 0]⟩
abbrev kP:AD:=⟨.struct [(0,43),(2,9),(3,3),(4,74),(5,76),(6,3),(7,3),(8,3)],9,128,[.int .i64 0,.nil,.str ⟨#[]⟩,.int .i64 0,.nil,.nil,.int .i64 0,.int .i64 0,.int .i64 0]⟩
abbrev kO:AD:=⟨.fn,1,8,[.val .nilFunc]⟩
abbrev kN:AD:=⟨.ptr 87,1,8,[.nilp]⟩
abbrev kM:AD:=⟨.slice 110,1,24,[.nil]⟩
abbrev kK:AD:=⟨.struct [(0,30),(1,3),(2,4),(3,3),(4,85),(5,3)],6,80,[.nil,.int .i64 0,.bool false,.int .i64 0,.nil,.int .i64 0]⟩
abbrev kJ:AD:=⟨.struct [(0,30),(1,3),(2,4),(3,3),(4,85),(5,3)],6,80,[.nil,.int .i64 0,.bool false,.int .i64 0,.nil,.int .i64 0]⟩
abbrev kI:AD:=⟨.fn,1,8,[.val .nilFunc]⟩
abbrev kH:AD:=⟨.fn,1,8,[.val .nilFunc]⟩
abbrev kG:AD:=⟨.fn,1,8,[.val .nilFunc]⟩
abbrev kF:AD:=⟨.struct [(0,3),(1,85)],2,32,[.int .i64 0,.nil]⟩
abbrev kE:AD:=⟨.struct [(0,3),(1,85)],2,32,[.int .i64 0,.nil]⟩
abbrev kD:AD:=⟨.fn,1,8,[.val .nilFunc]⟩
abbrev kC:AD:=⟨.fn,1,8,[.val .nilFunc]⟩
abbrev kA:AD:=⟨.slice 124,1,24,[.nil]⟩
abbrev kz:AD:=⟨.struct [(0,3),(1,9),(2,95),(3,62),(4,62)],5,96,[.int .i64 0,.str ⟨#[]⟩,.nil,.nil,.nil]⟩
abbrev ky:AD:=⟨.struct [(0,3),(1,9),(2,95),(3,62),(4,62)],5,96,[.int .i64 0,.str ⟨#[]⟩,.nil,.nil,.nil]⟩
abbrev kx:AD:=⟨.fn,1,8,[.val .nilFunc]⟩
abbrev kw:AD:=⟨.fn,1,8,[.val .nilFunc]⟩
abbrev jh:AD:=⟨.fn,1,8,[.val .nilFunc]⟩
abbrev jg:AD:=⟨.fn,1,8,[.val .nilFunc]⟩
abbrev jf:AD:=⟨.other,1,0,[]⟩
abbrev je:AD:=⟨.fn,1,8,[.val .nilFunc]⟩
abbrev jd:AD:=⟨.ptr 106,1,8,[.nilp]⟩
abbrev jc:AD:=⟨.struct [(0,3),(1,74),(2,4),(3,52)],4,40,[.int .i64 0,.nil,.bool false,.int .u32 0]⟩
abbrev jb:AD:=⟨.struct [(0,3),(1,74),(2,4),(3,52)],4,40,[.int .i64 0,.nil,.bool false,.int .u32 0]⟩
abbrev ja:AD:=⟨.fn,1,8,[.val .nilFunc]⟩
abbrev i0:AD:=⟨.slice 113,1,24,[.nil]⟩
abbrev iZ:AD:=⟨.struct [(0,108),(1,3),(2,3),(3,3),(4,3)],5,56,[.nil,.int .i64 0,.int .i64 0,.int .i64 0,.int .i64 0]⟩
abbrev iY:AD:=⟨.struct [(0,108),(1,3),(2,3),(3,3),(4,3)],5,56,[.nil,.int .i64 0,.int .i64 0,.int .i64 0,.int .i64 0]⟩
abbrev iX:AD:=⟨.fn,1,8,[.val .nilFunc]⟩
abbrev iW:AD:=⟨.struct [(0,3),(1,3),(2,3),(3,3),(4,3),(5,3),(6,3),(7,52)],8,64,[.int .i64 0,.int .i64 0,.int .i64 0,.int .i64 0,.int .i64 0,.int .i64 0,.int .i64 0,.int .u32 0]⟩
abbrev iV:AD:=⟨.struct [(0,3),(1,3),(2,3),(3,3),(4,3),(5,3),(6,3),(7,52)],8,64,[.int .i64 0,.int .i64 0,.int .i64 0,.int .i64 0,.int .i64 0,.int .i64 0,.int .i64 0,.int .u32 0]⟩
abbrev iU:AD:=⟨.fn,1,8,[.val .nilFunc]⟩
abbrev iS:AD:=⟨.fn,1,8,[.val .nilFunc]⟩
abbrev iR:AD:=⟨.fn,1,8,[.val .nilFunc]⟩
abbrev iQ:AD:=⟨.fn,1,8,[.val .nilFunc]⟩
abbrev iP:AD:=⟨.fn,1,8,[.val .nilFunc]⟩
abbrev iO:AD:=⟨.ptr 50,1,8,[.nilp]⟩
abbrev iM:AD:=⟨.fn,1,8,[.val .nilFunc]⟩
abbrev iK:AD:=⟨.fn,1,8,[.val .nilFunc]⟩
abbrev iJ:AD:=⟨.fn,1,8,[.val .nilFunc]⟩
abbrev iI:AD:=⟨.struct [(0,3),(1,3),(2,52),(3,9),(4,95)],5,64,[.int .i64 0,.int .i64 0,.int .u32 0,.str ⟨#[]⟩,.nil]⟩
abbrev iH:AD:=⟨.struct [(0,3),(1,3),(2,52),(3,9),(4,95)],5,64,[.int .i64 0,.int .i64 0,.int .u32 0,.str ⟨#[]⟩,.nil]⟩
abbrev iG:AD:=⟨.fn,1,8,[.val .nilFunc]⟩
abbrev iF:AD:=⟨.fn,1,8,[.val .nilFunc]⟩
abbrev iD:AD:=⟨.fn,1,8,[.val .nilFunc]⟩
abbrev iC:AD:=⟨.fn,1,8,[.val .nilFunc]⟩
abbrev iB:AD:=⟨.fn,1,8,[.val .nilFunc]⟩
abbrev iA:AD:=⟨.fn,1,8,[.val .nilFunc]⟩
abbrev iz:AD:=⟨.other,1,0,[]⟩
abbrev iy:AD:=⟨.fn,1,8,[.val .nilFunc]⟩
abbrev ix:AD:=⟨.int .u64,1,8,[.int .u64 0]⟩
abbrev iw:AD:=⟨.ptr 110,1,8,[.nilp]⟩
abbrev iv:AD:=⟨.fn,1,8,[.val .nilFunc]⟩
abbrev iu:AD:=⟨.ptr 54,1,8,[.nilp]⟩
abbrev ir:AD:=⟨.fn,1,8,[.val .nilFunc]⟩
abbrev iq:AD:=⟨.fn,1,8,[.val .nilFunc]⟩
abbrev ip:AD:=⟨.fn,1,8,[.val .nilFunc]⟩
abbrev io:AD:=⟨.fn,1,8,[.val .nilFunc]⟩
abbrev im:AD:=⟨.fn,1,8,[.val .nilFunc]⟩
abbrev ik:AD:=⟨.fn,1,8,[.val .nilFunc]⟩
abbrev ii:AD:=⟨.fn,1,8,[.val .nilFunc]⟩
abbrev ie:AD:=⟨.fn,1,8,[.val .nilFunc]⟩
abbrev ib:AD:=⟨.slice 148,1,24,[.nil]⟩
abbrev ia:AD:=⟨.fn,1,8,[.val .nilFunc]⟩
abbrev hZ:AD:=⟨.struct [(0,9),(1,3),(2,3)],3,32,[.str ⟨#[]⟩,.int .i64 0,.int .i64 0]⟩
abbrev hJ:AD:=⟨.struct [(0,9),(1,3),(2,3)],3,32,[.str ⟨#[]⟩,.int .i64 0,.int .i64 0]⟩
abbrev g9:AD:=⟨.fn,1,8,[.val .nilFunc]⟩
abbrev g8:AD:=⟨.fn,1,8,[.val .nilFunc]⟩
abbrev g7:AD:=⟨.fn,1,8,[.val .nilFunc]⟩
abbrev gZ:AD:=⟨.fn,1,8,[.val .nilFunc]⟩
abbrev gY:AD:=⟨.fn,1,8,[.val .nilFunc]⟩
abbrev gX:AD:=⟨.fn,1,8,[.val .nilFunc]⟩
abbrev gW:AD:=⟨.fn,1,8,[.val .nilFunc]⟩
abbrev gV:AD:=⟨.fn,1,8,[.val .nilFunc]⟩
abbrev gU:AD:=⟨.fn,1,8,[.val .nilFunc]⟩
abbrev gT:AD:=⟨.fn,1,8,[.val .nilFunc]⟩
abbrev gS:AD:=⟨.fn,1,8,[.val .nilFunc]⟩
abbrev gR:AD:=⟨.fn,1,8,[.val .nilFunc]⟩
abbrev gQ:AD:=⟨.fn,1,8,[.val .nilFunc]⟩
abbrev gP:AD:=⟨.fn,1,8,[.val .nilFunc]⟩
abbrev gO:AD:=⟨.struct [(0,17),(1,17),(2,17),(3,9)],4,40,[.nilp,.nilp,.nilp,.str ⟨#[]⟩]⟩
abbrev gN:AD:=⟨.struct [(0,17),(1,17),(2,17),(3,9)],4,40,[.nilp,.nilp,.nilp,.str ⟨#[]⟩]⟩
abbrev gM:AD:=⟨.array 0 16,0,0,[]⟩
abbrev gL:AD:=⟨.other,0,0,[]⟩
abbrev gK:AD:=⟨.other,0,0,[]⟩
abbrev gJ:AD:=⟨.int .u8,1,1,[.int .u8 0]⟩
abbrev gI:AD:=⟨.int .u8,1,1,[.int .u8 0]⟩
abbrev gH:AD:=⟨.fn,1,8,[.val .nilFunc]⟩
abbrev gG:AD:=⟨.ptr 5,1,8,[.nilp]⟩
abbrev gE:AD:=⟨.int .i32,1,4,[.int .i32 0]⟩
abbrev gD:AD:=⟨.int .i32,1,4,[.int .i32 0]⟩
abbrev gC:AD:=⟨.struct [(0,12),(1,12),(2,52),(3,168),(4,5),(5,5),(6,169),(7,170),(8,171),(9,172),(10,173)],11,48,[.int .u64 0,.int .u64 0,.int .u32 0,.int .u8 0,.int .u8 0,.int .u8 0,.int .u8 0,.val .nilFunc,.nilp,.int .i32 0,.int .i32 0]⟩
abbrev gB:AD:=⟨.struct [(0,12),(1,12),(2,52),(3,168),(4,5),(5,5),(6,169),(7,170),(8,171),(9,172),(10,173)],11,48,[.int .u64 0,.int .u64 0,.int .u32 0,.int .u8 0,.int .u8 0,.int .u8 0,.int .u8 0,.val .nilFunc,.nilp,.int .i32 0,.int .i32 0]⟩
abbrev gz:AD:=⟨.other,1,8,[.nilp]⟩
def TI(t:Nat):Option AD:=bif Nat.blt t 177 then(bif Nat.blt t 88 then(bif Nat.blt t 44 then(bif Nat.blt t 22 then(bif Nat.blt t 11 then(bif Nat.blt t 5 then(bif Nat.blt t 2 then(bif Nat.blt t 1 then some na else some m9)else(bif Nat.blt t 3 then some m8 else(bif Nat.blt t 4 then some mZ else some mY)))else(bif Nat.blt t 8 then(bif Nat.blt t 6 then some mX else(bif Nat.blt t 7 then some mV else some mU))else(bif Nat.blt t 9 then some mS else(bif Nat.blt t 10 then some mR else some mt))))else(bif Nat.blt t 16 then(bif Nat.blt t 13 then(bif Nat.blt t 12 then some ms else some mr)else(bif Nat.blt t 14 then some mq else(bif Nat.blt t 15 then some mo else some mn)))else(bif Nat.blt t 19 then(bif Nat.blt t 17 then some mm else(bif Nat.blt t 18 then some ml else some mh))else(bif Nat.blt t 20 then some mg else(bif Nat.blt t 21 then some mf else some me)))))else(bif Nat.blt t 33 then(bif Nat.blt t 27 then(bif Nat.blt t 24 then(bif Nat.blt t 23 then some md else some mc)else(bif Nat.blt t 25 then some mb else(bif Nat.blt t 26 then some ma else some l9)))else(bif Nat.blt t 30 then(bif Nat.blt t 28 then some l7 else(bif Nat.blt t 29 then some l0 else some lZ))else(bif Nat.blt t 31 then some lY else(bif Nat.blt t 32 then some lX else some lW))))else(bif Nat.blt t 38 then(bif Nat.blt t 35 then(bif Nat.blt t 34 then some lV else some lU)else(bif Nat.blt t 36 then some lT else(bif Nat.blt t 37 then some lS else some lR)))else(bif Nat.blt t 41 then(bif Nat.blt t 39 then some lQ else(bif Nat.blt t 40 then some lP else some lO))else(bif Nat.blt t 42 then some lN else(bif Nat.blt t 43 then some lM else some lL))))))else(bif Nat.blt t 66 then(bif Nat.blt t 55 then(bif Nat.blt t 49 then(bif Nat.blt t 46 then(bif Nat.blt t 45 then some lK else some lJ)else(bif Nat.blt t 47 then some lI else(bif Nat.blt t 48 then some lH else some lG)))else(bif Nat.blt t 52 then(bif Nat.blt t 50 then some lF else(bif Nat.blt t 51 then some lE else some lD))else(bif Nat.blt t 53 then some lC else(bif Nat.blt t 54 then some lB else some lA))))else(bif Nat.blt t 60 then(bif Nat.blt t 57 then(bif Nat.blt t 56 then some lz else some ly)else(bif Nat.blt t 58 then some lx else(bif Nat.blt t 59 then some lw else some lu)))else(bif Nat.blt t 63 then(bif Nat.blt t 61 then some ls else(bif Nat.blt t 62 then some lr else some lq))else(bif Nat.blt t 64 then some lp else(bif Nat.blt t 65 then some ln else some lm)))))else(bif Nat.blt t 77 then(bif Nat.blt t 71 then(bif Nat.blt t 68 then(bif Nat.blt t 67 then some ll else some lk)else(bif Nat.blt t 69 then some li else(bif Nat.blt t 70 then some lh else some lg)))else(bif Nat.blt t 74 then(bif Nat.blt t 72 then some ld else(bif Nat.blt t 73 then some lb else some la))else(bif Nat.blt t 75 then some kZ else(bif Nat.blt t 76 then some kY else some kX))))else(bif Nat.blt t 82 then(bif Nat.blt t 79 then(bif Nat.blt t 78 then some kW else some kV)else(bif Nat.blt t 80 then some kU else(bif Nat.blt t 81 then some kS else some kQ)))else(bif Nat.blt t 85 then(bif Nat.blt t 83 then some kP else(bif Nat.blt t 84 then some kO else some kN))else(bif Nat.blt t 86 then some kM else(bif Nat.blt t 87 then some kK else some kJ)))))))else(bif Nat.blt t 132 then(bif Nat.blt t 110 then(bif Nat.blt t 99 then(bif Nat.blt t 93 then(bif Nat.blt t 90 then(bif Nat.blt t 89 then some kI else some kH)else(bif Nat.blt t 91 then some kG else(bif Nat.blt t 92 then some kF else some kE)))else(bif Nat.blt t 96 then(bif Nat.blt t 94 then some kD else(bif Nat.blt t 95 then some kC else some kA))else(bif Nat.blt t 97 then some kz else(bif Nat.blt t 98 then some ky else some kx))))else(bif Nat.blt t 104 then(bif Nat.blt t 101 then(bif Nat.blt t 100 then some kw else some jh)else(bif Nat.blt t 102 then some jg else(bif Nat.blt t 103 then some jf else some je)))else(bif Nat.blt t 107 then(bif Nat.blt t 105 then some jd else(bif Nat.blt t 106 then some jc else some jb))else(bif Nat.blt t 108 then some ja else(bif Nat.blt t 109 then some i0 else some iZ)))))else(bif Nat.blt t 121 then(bif Nat.blt t 115 then(bif Nat.blt t 112 then(bif Nat.blt t 111 then some iY else some iX)else(bif Nat.blt t 113 then some iW else(bif Nat.blt t 114 then some iV else some iU)))else(bif Nat.blt t 118 then(bif Nat.blt t 116 then some iS else(bif Nat.blt t 117 then some iR else some iQ))else(bif Nat.blt t 119 then some iP else(bif Nat.blt t 120 then some iO else some iM))))else(bif Nat.blt t 126 then(bif Nat.blt t 123 then(bif Nat.blt t 122 then some iK else some iJ)else(bif Nat.blt t 124 then some iI else(bif Nat.blt t 125 then some iH else some iG)))else(bif Nat.blt t 129 then(bif Nat.blt t 127 then some iF else(bif Nat.blt t 128 then some iD else some iC))else(bif Nat.blt t 130 then some iB else(bif Nat.blt t 131 then some iA else some iz))))))else(bif Nat.blt t 154 then(bif Nat.blt t 143 then(bif Nat.blt t 137 then(bif Nat.blt t 134 then(bif Nat.blt t 133 then some iy else some ix)else(bif Nat.blt t 135 then some iw else(bif Nat.blt t 136 then some iv else some iu)))else(bif Nat.blt t 140 then(bif Nat.blt t 138 then some ir else(bif Nat.blt t 139 then some iq else some ip))else(bif Nat.blt t 141 then some io else(bif Nat.blt t 142 then some im else some ik))))else(bif Nat.blt t 148 then(bif Nat.blt t 145 then(bif Nat.blt t 144 then some ii else some ie)else(bif Nat.blt t 146 then some ib else(bif Nat.blt t 147 then some ia else some hZ)))else(bif Nat.blt t 151 then(bif Nat.blt t 149 then some hJ else(bif Nat.blt t 150 then some g9 else some g8))else(bif Nat.blt t 152 then some g7 else(bif Nat.blt t 153 then some gZ else some gY)))))else(bif Nat.blt t 165 then(bif Nat.blt t 159 then(bif Nat.blt t 156 then(bif Nat.blt t 155 then some gX else some gW)else(bif Nat.blt t 157 then some gV else(bif Nat.blt t 158 then some gU else some gT)))else(bif Nat.blt t 162 then(bif Nat.blt t 160 then some gS else(bif Nat.blt t 161 then some gR else some gQ))else(bif Nat.blt t 163 then some gP else(bif Nat.blt t 164 then some gO else some gN))))else(bif Nat.blt t 171 then(bif Nat.blt t 168 then(bif Nat.blt t 166 then some gM else(bif Nat.blt t 167 then some gL else some gK))else(bif Nat.blt t 169 then some gJ else(bif Nat.blt t 170 then some gI else some gH)))else(bif Nat.blt t 174 then(bif Nat.blt t 172 then some gG else(bif Nat.blt t 173 then some gE else some gD))else(bif Nat.blt t 175 then some gC else(bif Nat.blt t 176 then some gB else some gz))))))))else none
theorem dr:(List.range 177).map TI=(List.range 177).map (UD Go.Proofs.Tryz.prog):=by kernel_rfl
theorem Aj:DP Go.Proofs.Tryz.prog TI:=by
 intro t i h
 by_cases c:t<177
 . have h1:((List.range 177).map TI)[t]?=((List.range 177).map (UD Go.Proofs.Tryz.prog))[t]?:=by rw[dr]
   rw[List.getElem?_map,List.getElem?_map,List.getElem?_range c]at h1;simp only[Option.map_some,Option.some.injEq]at h1;rw[<-h1,h]
 . have h2:Nat.blt t 177=false:=by
    rw[Bool.eq_false_iff];intro hc;exact c (Nat.blt_eq.mp hc)
   unfold TI at h;rw[h2]at h
   cases h
theorem nf:Go.Proofs.Tryz.prog.follows .mixedOrders=true:=by kernel_rfl
structure Tac where
  op:Int
  d:Int
  a:Int
  b:Int
  k:Int
  base:Int
  size:Int
  n:Int
  deriving DecidableEq,Repr
structure Block where
  ins:List Tac
  fin:Int
  v:Int
  to:Int
  els:Int
  deriving DecidableEq,Repr
structure BFunc where
  regs:Int
  blocks:List Block
  deriving DecidableEq,Repr
structure Blocks where
  words:Int
  funcs:List BFunc
  deriving DecidableEq,Repr
def Tac.cells(t:Tac):List AV:=[.int .i64 t.op,.int .i64 t.d,.int .i64 t.a,.int .i64 t.b,.int .i64 t.k,.int .i64 t.base,.int .i64 t.size,.int .u32 t.n]
def XF(l:List Tac):AV:=.lst false (l.map Tac.cells)
def Block.cells(b:Block):List AV:=[XF b.ins,.int .i64 b.fin,.int .i64 b.v,.int .i64 b.to,.int .i64 b.els]
def MZ(l:List Block):AV:=.lst false (l.map Block.cells)
def BFunc.cells(f:BFunc):List AV:=[.int .i64 f.regs,MZ f.blocks]
def JE(l:List BFunc):AV:=.lst false (l.map BFunc.cells)
def Blocks.cells(b:Blocks):List AV:=[.int .i64 b.words,JE b.funcs]
def Pf(l:List Int):AV:=.lst false (l.map fun b=>[.int .i64 b])
theorem AU{α:Type}{l:List α}{f:α->List AV}{k:Nat}{x:α}(h:l[k]?=some x):(l.map f)[((k:Nat):Int).toNat]?=some (f x):=by
 rw[Int.toNat_natCast,List.getElem?_map,h];rfl
theorem Ah{α:Type}{l:List α}{k:Nat}(h:k<l.length):∃x,l[k]?=some x:=⟨l[k],List.getElem?_eq_getElem h⟩
theorem AZ{α:Type}{l:List α}{k:Nat}{x:α}(h:l[k]?=some x):l.take (k+1)=l.take k++[x]:=by
 rw[List.take_add_one,h];rfl
def ZT(l:List Tac):Prop:=l.length<=maxLen
def Block.fits(x:Block):Prop:=x.ins.length<=maxLen
def Mz(l:List Block):Prop:=l.length<=maxLen/\∀x∈l,x.fits
def BFunc.fits(f:BFunc):Prop:=Mz f.blocks
def Om(l:List BFunc):Prop:=l.length<=maxLen/\∀f∈l,f.fits
def Blocks.fits(b:Blocks):Prop:=Om b.funcs
theorem LU{α:Type}{l:List α}{f:α->List AV}{H:AJ}{ι:Bi}{ex:Bool}{v:Value}(h:Rel H ι (.lst ex (l.map f)) v):
 l.length<=maxLen/\∀x∈l,∀(j:Nat) (y:AV),(f x)[j]?=some y->∃u,Rel H BI y u:=by
 refine⟨by have:=B5 h;simpa using this,fun x hx j y hy=>?_⟩;obtain⟨i,hi⟩:=List.mem_iff_getElem?.1 hx;rcases h.lst_inv with⟨h0,_⟩|⟨_,b,off,cap,sz,c,vals,_,_,_,_,hr,_⟩
 . rw[List.map_eq_nil_iff]at h0;subst h0;simp at hi
 . exact⟨_,hr i (f x) j y (by rw[List.getElem?_map,hi];rfl) hy⟩
theorem Zf{l:List Tac}{H:AJ}{ι:Bi}{v:Value}(h:Rel H ι (XF l) v):ZT l:=(LU h).1
theorem LV{l:List Block}{H:AJ}{ι:Bi}{v:Value}(h:Rel H ι (MZ l) v):Mz l:=by
 obtain⟨h1,h2⟩:=LU h;exact⟨h1,fun x hx=>by obtain⟨u,hu⟩:=h2 x hx 0 _ rfl;exact Zf hu⟩
theorem Qq{cs:List AV}{H:AJ}{ι:Bi}{v:Value}(h:Rel H ι (.agg cs) v){j:Nat}{x:AV}(hj:cs[j]?=some x):∃u,Rel H ι x u:=by
 obtain⟨us,_,hl,hr⟩:=h.agg_inv;have hlt:j<us.size:=by rw[<-hl];exact(List.getElem?_eq_some_iff.1 hj).1
 obtain⟨u,hu⟩:=Bk hlt;exact⟨u,hr j x u hj hu⟩
theorem UT{f:BFunc}{H:AJ}{ι:Bi}{v:Value}(h:Rel H ι (.agg f.cells) v):f.fits:=by
 obtain⟨u,hu⟩:=Qq h (j:=1) rfl;exact LV hu
theorem US{l:List BFunc}{H:AJ}{ι:Bi}{v:Value}(h:Rel H ι (JE l) v):Om l:=by
 obtain⟨h1,h2⟩:=LU h;exact⟨h1,fun x hx=>by obtain⟨u,hu⟩:=h2 x hx 1 _ rfl;exact LV hu⟩
theorem Qp{b:Blocks}{H:AJ}{ι:Bi}{v:Value}(h:Rel H ι (.agg b.cells) v):b.fits:=by
 obtain⟨u,hu⟩:=Qq h (j:=1) rfl;exact US hu
theorem AGo.slot{P:Program}{s:An}{Q:Exit->An->Prop}{c:Code}(t:Nat){x:AV}{φ:Prop}(ht:s.env t=some x)(hf:∀H ι v,Rel H ι x v->φ)(h:φ->AGo P c s Q):AGo P c s Q:=
 RB (fun H ι a w hs=>by obtain⟨v,_,hv⟩:=hs.env t x ht;exact hf H ι v hv) h
theorem Ao{α:Type}{β:Type}{l:List α}{f:α->β}{k:Nat}(h:decide ((k:Int)<(((l.map f).length:Nat):Int))=true):k<l.length:=by simpa using h
theorem As{α:Type}{β:Type}{l:List α}{f:α->β}{k:Nat}(h:decide ((k:Int)<(((l.map f).length:Nat):Int))=false):l.length<=k:=by simpa using h
theorem Tac.eqCells(x y:Tac):Sv.eqCells x.cells y.cells=some (decide (x=y)):=by
 have h:Sv.eqCells x.cells y.cells=some (x.op==y.op&&(x.d==y.d&&(x.a==y.a&&(x.b==y.b&&(x.k==y.k&&(x.base==y.base&&(x.size==y.size&&(x.n==y.n&&true)))))))):=rfl;rw[h];congr 1;obtain⟨a1,a2,a3,a4,a5,a6,a7,a8⟩:=x;obtain⟨b1,b2,b3,b4,b5,b6,b7,b8⟩:=y;rw[Bool.eq_iff_iff];simp[Tac.mk.injEq]
section
variable {P : Program} {T : Nat -> Option AD} {o : Oper} {e : AN} {h : Ag}
theorem Eu{f:Fn}{first captured:Array Operand}{xs cs:List AV}(ho:o.op=.makeFunc f first captured)(hx:Bo e first.toList=some xs)(hc:Bo e captured.toList=some cs):QLoc P o e h [] (.fn f xs cs):=by
 intro H ι a w s hs g1 g2;have hx':Bo s.env first.toList=some xs:=by
  rw[EF (e:=e) (fun x hx=>g1 x (by rw[ho];simp[Op.operands];exact .inl (by simpa using hx)))];exact hx
 have hc':Bo s.env captured.toList=some cs:=by
  rw[EF (e:=e) (fun x hx=>g1 x (by rw[ho];simp[Op.operands];exact .inr (by simpa using hx)))];exact hc
 have h1:=Et hs hx';have h2:=Et hs hc';refine⟨.func f (first.map a.eval) (captured.map a.eval),.fn _ _ _ _ _ _ h1.1 h2.1 h1.2 h2.2,?_⟩;simp only[execOp,ho,Instr.makeFunc,Sem.run_bind,Sem.run_pure,Result.andThen_ok]
theorem Iy{H:AJ}{ι:Bi}{xs ys:List AV}{us vs:Array Value}(h1:RelAll H ι xs us)(h2:RelAll H ι ys vs):RelAll H ι (xs++ys) (us++vs):=by
 refine⟨by simp[h1.1,h2.1],fun j x v g1 g2=>?_⟩
 by_cases hj:j<xs.length
 . rw[List.getElem?_append_left hj]at g1;rw[Array.getElem?_append_left (by rw[<-h1.1];exact hj)]at g2;exact h1.2 j x v g1 g2
 . rw[List.getElem?_append_right Aa]at g1;rw[Array.getElem?_append_right (by rw[<-h1.1];omega),<-h1.1]at g2;exact h2.2 _ x v g1 g2
end
theorem AQ{h:Ag}{b x:Nat}{o:AObj}{r:Option AObj}(hb:Nat.beq x b=false)(hr:h x=r):Ar h b o x=r:=by simp only[Ar,hb,cond_false,hr]
section
variable {P : Program} {T : Nat -> Option AD} {o : Oper} {e : AN} {h : Ag}
end
def En(h:Ag)(κ:Nat->Bool):Ag:=fun b=>bif κ b then h b else some .free
def JB(ι ι':Bi)(κ:Nat->Bool):Bi:=fun b=>bif κ b then ι' b else ι b
theorem Vt{H:AJ}{ι:Bi}{h:Ag}{w:World}{κ:Nat->Bool}{hn:Ag}{H':AJ}{ι':Bi}{h':Ag}{w':World}(hr:HeapRel H ι h w)
 (hL:∀b,κ b=true->∃o,h b=some o/\o.avoid κ=true) (hW:∀b,κ b=false->hn b=h b)
 (hk:∀b,κ b=true->∃o,h' b=some o/\hn b=some o/\o.avoid κ=true)
 (hr':HeapRel H' ι' h' w') (hst:Step H (CR ι κ) (En h κ) w H' ι' h' w'):
 HeapRel H' (JB ι ι' κ) (hn) w'/\Step H ι h w H' (JB ι ι' κ) (hn) w':=by
 have mT:∀b,κ b=true->JB ι ι' κ b=ι' b:=fun b hb=>by simp only[JB,hb,cond_true]
 have mF:∀b,¬κ b=true->JB ι ι' κ b=ι b:=fun b hb=>by
  have:κ b=false:=by cases e:κ b with|false=>rfl|true=>exact absurd e hb
  simp only[JB,this,cond_false]
 have cT:∀b,κ b=true->CR ι κ b=ι b:=fun b hb=>Ee hb
 have rT:∀b,κ b=true->En h κ b=h b:=fun b hb=>by simp only[En,hb,cond_true]
 have rF:∀b,¬κ b=true->En h κ b=some .free:=fun b hb=>by
  have:κ b=false:=by cases e:κ b with|false=>rfl|true=>exact absurd e hb
  simp only[En,this,cond_false]
 have wF:∀b,¬κ b=true->hn b=h b:=fun b hb=>hW b (by cases e:κ b with|false=>rfl|true=>exact absurd e hb)
 have own:∀rb,Ga (En h κ) (CR ι κ) rb->Ga h ι rb:=by
  rintro rb ⟨b,o,r,h1,h2,h3,h4,h5⟩
  by_cases hb:κ b=true
  . exact⟨b,o,r,by rw[<-rT b hb];exact h1,h2,Bg h3,h4,h5⟩
  . rw[rF b hb]at h1;cases h1;cases h2
 -- rows that the call didn't see are none of its
 have apart:∀b o r,¬κ b=true->h b=some o->o.alive=true->ι b=some r->r.solid->¬Ga (En h κ) (CR ι κ) r.rb:=by
  rintro b o r hb h1 h2 h3 h4 ⟨b',o',r',g1,g2,g3,g4,g5⟩
  by_cases hb':κ b'=true
  . exact hr.inj b b' o o' r r' h1 h2 (by rw[<-rT b' hb'];exact g1) g2 h3 (Bg g3) h4 g4 (fun e=>hb (e▸hb')) g5.symm
  . rw[rF b' hb']at g1;cases g1;cases g2
 have lle:LLe ι (JB ι ι' κ):=fun b r e=>by
  by_cases hb:κ b=true
  . rw[mT b hb];exact hst.lle b r (by rw[cT b hb];exact e)
  . rw[mF b hb];exact⟨r,e,.inl rfl⟩
 have lle':LLe (CR ι' κ) (JB ι ι' κ):=fun b r e=>by
  by_cases hb:κ b=true
  . rw[mT b hb];exact⟨r,Bg e,.inl rfl⟩
  . have:κ b=false:=by cases e:κ b with|false=>rfl|true=>exact absurd e hb
    simp only[CR,this,cond_false]at e;cases e
 have blk:∀b o r,¬κ b=true->h b=some o->o.alive=true->ι b=some r->r.solid->w'.heap[r.rb]?=w.heap[r.rb]?:=fun b o r hb h1 h2 h3 h4=>
  hst.keep r.rb (hr.lt ⟨b,o,r,h1,h2,h3,h4,rfl⟩) (apart b o r hb h1 h2 h3 h4)
 have noK:∀b o r,¬κ b=true->h b=some o->o.alive=true->ι b=some r->r.solid->H r.rb=none->H' r.rb=none:=fun b o r hb h1 h2 h3 h4 h5=>by
  exact fa
 -- a row of the call's, afterwards: not one of those that it didn't see
 have apart':∀b b' o r r',¬κ b=true->κ b'=true->h b=some o->o.alive=true->ι b=some r->r.solid->ι' b'=some r'->r'.solid->r.rb≠r'.rb:=fun b b' o r r' hb hb' h1 h2 h3 h4 g1 g2 e=>by
  exact fx
 refine⟨⟨hr'.know,fun b hb=>?_,fun b o h1 h2=>?_,fun b b' o o' r r' h1 h2 h3 h4 h5 h6 s1 s2 hne=>?_,hr'.glob⟩,⟨hst.size,hst.os,hst.out,fun rb hlt hno=>hst.keep rb hlt (fun h=>hno (own rb h)),hst.kle,fun b hb=>?_,lle,fun b e=>?_,fun b r' e es=>?_,fun b e=>?_⟩⟩
 . by_cases hbL:κ b=true
   . obtain⟨o,k1,k2,_⟩:=hk b hbL;rw[k2]at hb;cases hb;rw[mT b hbL];exact hr'.free b k1
   . rw[wF b hbL]at hb;rw[mF b hbL];exact hr.free b hb
 . by_cases hbL:κ b=true
   . obtain⟨o',k1,k2,k3⟩:=hk b hbL;exact bF
   . rw[wF b hbL]at h1;exact bJ
 . by_cases hb:κ b=true<;>by_cases hb':κ b'=true
   . obtain⟨q,k1,k2,_⟩:=hk b hb;exact eV
   . rw[wF b' hb']at h3;rw[mF b' hb']at h6;rw[mT b hb]at h5;exact fun e=>apart' b' b o' r' r hb' hb h3 h4 h6 s2 h5 s1 e.symm
   . rw[wF b hb]at h1;rw[mF b hb]at h5;rw[mT b' hb']at h6;exact apart' b b' o r r' hb hb' h1 h2 h5 s1 h6 s2
   . rw[wF b hb]at h1;rw[mF b hb]at h5;rw[wF b' hb']at h3;rw[mF b' hb']at h6;exact hr.inj b b' o o' r r' h1 h2 h3 h4 h5 h6 s1 s2 hne
 . rcases hst.knew b hb with g|g|g
   . exact .inl g
   . exact .inr (.inl g)
   . exact .inr (.inr (own b g))
 . by_cases hb:κ b=true
   . obtain⟨o,k1,_⟩:=hL b hb;rw[k1]at e;cases e
   . exact mF b hb
 . by_cases hb:κ b=true
   . rw[mT b hb]at e;exact bE
   . rw[mF b hb]at e;exact .inl e
 . by_cases hb:κ b=true
   . obtain⟨o,k1,_⟩:=hL b hb;rw[k1]at e;cases e
   . rw[wF b hb];exact e
def EDropK(k:Nat->Bool)(e' e:AN):Prop:=∀t x,e' t=some x->e t=some x/\x.avoid k=true
def M5(k:Nat->Bool)(h' h:Ag):Prop:=∀b o,h' b=some o->(h b=some o/\(o.alive=true->k b=true/\o.avoid k=true))\/(o=.free/\k b=false)
theorem EDropK.new(k:Nat->Bool)(e:AN):EDropK k AM e:=fun _ _ h=>by cases h
theorem EDropK.put{k:Nat->Bool}{e' e:AN}{t:Nat}{v:AV}(h:EDropK k e' e)(hv:e t=some v)(ha:v.avoid k=true):EDropK k (Ad e' t v) e:=fun u x hx=>by
 exact bg
structure DropK(k:Nat->Bool)(s'' s':An):Prop where
  n:s''.n=s'.n
  e:EDropK k s''.env s'.env
  h:M5 k s''.h s'.h
theorem DropK.mk'{k:Nat->Bool}{n:Nat}{e' e:AN}{h' h:Ag}(h1:EDropK k e' e)(h2:M5 k h' h):DropK k ⟨n,e',h'⟩ ⟨n,e,h⟩:=⟨rfl,h1,h2⟩
theorem Sim.cutK{H:AJ}{ι:Bi}{s s':An}{a:Act}{w:World}{k:Nat->Bool}(hs:Sim H ι s a w)(hd:DropK k s' s):Sim H (CR ι k) s' a w:=by
 have hal:∀b o,s'.h b=some o->o.alive=true->s.h b=some o/\k b=true/\o.avoid k=true:=fun b o h1 h2=>by
  exact aH
 refine⟨hs.n.trans hd.n.symm,hs.d,fun t x hx=>?_,⟨hs.heap.know,fun b hb=>?_,fun b o h1 h2=>?_,fun b b' o o' r r' h1 h2 h3 h4 h5 h6=>?_,hs.heap.glob⟩⟩
 . obtain⟨g1,g2⟩:=hd.e t x hx;obtain⟨v,v1,v2⟩:=hs.env t x g1;exact⟨v,v1,DZ v2 g2⟩
 . rcases hd.h b _ hb with⟨g1,_⟩|⟨_,g2⟩
   . have:=hs.heap.free b g1;unfold CR;rw[this];cases k b<;>rfl
   . unfold CR;rw[show k b=false from g2];rfl
 . obtain⟨g1,g2,g3⟩:=hal b o h1 h2;obtain⟨r,r1,r2,r3⟩:=hs.heap.obj b o g1 h2;exact⟨r,by rw[Ee (k:=k) g2];exact r1,Gx r2 g3,r3⟩
 . exact hs.heap.inj b b' o o' r r' (hal b o h1 h2).1 h2 (hal b' o' h3 h4).1 h4 (Bg h5) (Bg h6)
theorem Step.cutK{H:AJ}{ι:Bi}{h h1 h':Ag}{w:World}{H':AJ}{ι':Bi}{w':World}{k:Nat->Bool}(hr:HeapRel H ι h w)(hf:∀b,k b=false->h b=some .free)
 (st:Step H ι h w H' ι' h1 w') (hd:M5 k h' h1):Step H ι h w H' (CR ι' k) h' w' where
 size:=st.size
 os:=st.os
 out:=st.out
 keep:=st.keep
 kle:=st.kle
 knew:=st.knew
 lle:=fun b r e=>by
  cases hb:k b with
  |false=>rw[hr.free b (hf b hb)]at e;cases e
  |true=>rw[Ee (k:=k) hb];exact st.lle b r e
 lframe:=fun b e=>by
  cases hb:k b with
  |false=>rw[hf b hb]at e;cases e
  |true=>rw[Ee (k:=k) hb];exact st.lframe b e
 newrb:=fun b r' e=>st.newrb b r' (Bg e)
 dom:=fun b e=>by
  exact bK
section
variable {P : Program} {s : An} {Q : Exit -> An -> Prop}
theorem AGo.cutK{c:Code}{K:An->Prop}(k:Nat->Bool)(hf:∀b,k b=false->s.h b=some .free)(h:AGo P c s (EY (fun s1=>∃s2,DropK k s2 s1/\K s2) Q)):AGo P c s (EY K Q):=fun H ι a w hs=>
 wp_mono (h H ι a w hs) fun e a' w' hp=>by
  obtain⟨s',H',ι',q,r,t⟩:=hp
  cases e with
  |normal=>
   obtain⟨s2,d,k2⟩:=q;exact⟨s2,H',_,k2,r.cutK d,t.cutK hs.heap hf d.h⟩
  |_=>exact⟨s',H',ι',q,r,t⟩
theorem Dw{γ:Type}{c:Code}(k:Nat->Bool)(inv:γ->An)(F:γ->Prop)(μ:γ->Nat)(g0:γ)(h0:Sub (inv g0) s)(hF:F g0)(hf:∀g b,k b=false->(inv g).h b=some .free)
 (round:∀g,F g->AGo P c (inv g) (EY (fun s'=>∃g',DropK k (inv g') s'/\F g'/\μ g'<μ g) Q)):AGo P (.loop c) s Q:=
 CV inv F μ g0 h0 hF fun g hg=>AGo.cutK k (hf g) ((round g hg).mono fun e s'' hq=>by
  cases e with
  |normal=>obtain⟨g',h1,h2,h3⟩:=hq;exact⟨inv g',h1,g',Sub.refl _,h2,h3⟩
  |_=>exact hq)
end
section
variable {P : Program} {T : Nat -> Option AD} {o : Oper} {e : AN} {h : Ag}
def HT(P:Program)(o:Oper)(e:AN)(h hn:Ag)(r:AV):Prop:=
  ∀(H:AJ) (ι:Bi) (a:Act) (w:World) (n:Nat) (Q:Exit->Act->World->Prop),Sim H ι ⟨n,e,h⟩ a w->
    o.wp P a w (fun a' w'=>∃v H' ι',a'=a.put o.dst v/\Rel H' ι' r v/\HeapRel H' ι' hn w'/\Step H ι h w H' ι' hn w') Q
theorem TR{f:FuncId}{fn:Func}{args:Array Operand}{tys:Array TypeId}{xs:List AV}{r:AV}{hc hw hn:Ag}(κ:Nat->Bool)(ho:o.op=.call {callee:=.value (.func f),args:=args,argTypes:=tys})(hf:P.funcs[f]?=some fn)(hnm:(fn.name== "runtime.NumGoroutine")=false)(hb:fn.body.isSome=true)
 (hx:Bo e args.toList=some xs) (hxa:xs.all (AV.avoid κ)=true) (hL:∀b,κ b=true->∃q,h b=some q/\q.avoid κ=true) (hres':En h κ=hc) (hW:∀b,κ b=false->hn b=h b)
 (hk:∀b,κ b=true->∃q,hw b=some q/\hn b=some q/\q.avoid κ=true) (hra:r.avoid κ=true)
 (hcall:ACall P f xs hc (fun r' h'=>r'=r/\HSub hw h')):HT P o e h hn r:=by
 intro H ι a w n Q hs;have hraa:=Et hs hx;have hra':RelAll H (CR ι κ) xs (args.map a.eval):=⟨hraa.1,fun j x v h1 h2=>DZ (hraa.2 j x v h1 h2) (EH hxa h1)⟩;have hrc:HeapRel H (CR ι κ) (En h κ) w:=by
  exact fI
 have hcalls:=hcall H (CR ι κ) w _ hra' (hres'▸hrc);have hexec:(execOp a.eval o).run P w=.ok (.enter f (args.map a.eval)) w:=by
  simp[execOp,ho,resolve,Act.eval,Deferred.ofValue,invoke,E4 hf hnm hb]
 exact fD
theorem AOps.call{ops:Array Oper}{rest:List Oper}{n:Nat}{K:An->Prop}(d:Nat){hn:Ag}{r:AV}(hd:o.dst=some d)(hb:Nat.blt d n=true)(hg:A2 ops o e=some true)(ho:HT P o e h hn r)
 (hr:AOps P ops rest ⟨n,Ad e d r,hn⟩ K):AOps P ops (o::rest) ⟨n,e,h⟩ K:=by
 intro H ι a w hs;unfold wpList;rw[E7 hs hg];simp only[if_true];refine .inl (Oper.wp_mono (fun a' w' hx=>?_) (ho H ι a w n _ hs));obtain⟨v,H',ι',rfl,h1,h2,h3⟩:=hx;have hs':=hs.put (d:=o.dst) (r:=some r) h2 h3 (fun x ex=>by cases ex;exact h1) (Mn hd hb);rw[hd]at hs'|-;have:=hr H' ι' _ w' hs';have key:∀(l:List Oper) (a1:Act) (w1:World),wpList P ops (Post H' ι' hn w' (EY K fun _ _=>False)) l a1 w1->wpList P ops (Post H ι h w (EY K fun _ _=>False)) l a1 w1:=by
  have hpost:∀e a2 w2,Post H' ι' hn w' (EY K fun _ _=>False) e a2 w2->Post H ι h w (EY K fun _ _=>False) e a2 w2:=fun e a2 w2 hp=>Post.step hs.heap h2 h3 hp
  intro l
  induction l with
  |nil=>exact fun a1 w1 hp=>hpost _ _ _ hp
  |cons o' l ih=>
   intro a1 w1 hp;exact bM
 exact key _ _ _ this
end
section
variable {P : Program} {Q : Exit -> An -> Prop} {s : An} {c : Code}
end
section
variable {P : Program} {T : Nat -> Option AD} {o : Oper} {e : AN} {h : Ag}
end
def AC(l:List UInt8):List (List AV):=l.map fun b=>[AV.int .u8 b.toNat]
theorem LZ:∀(l:List UInt8) (s:ByteArray),(l.map (fun b:UInt8=>((b.toNat:Nat):Int))).foldl (fun r n=>r.push (UInt8.ofNat n.toNat)) s=⟨s.data++l.toArray⟩
 | [],s=>by simp
 |b::r,s=>by
  simp only[List.map_cons,List.foldl_cons,Int.toNat_natCast,UInt8.ofNat_toNat];rw[LZ r];show ByteArray.mk (s.data.push b++r.toArray)=_;congr 1;apply Array.toList_inj.1
  simp
theorem W1(l:List UInt8):(l.map (fun b:UInt8=>((b.toNat:Nat):Int))).foldl (fun r n=>r.push (UInt8.ofNat n.toNat)) ByteArray.empty=⟨l.toArray⟩:=by
 rw[LZ];show ByteArray.mk (#[]++l.toArray)=_
 simp
section
variable {P : Program} {T : Nat -> Option AD} {o : Oper} {e : AN} {h : Ag}
theorem LX(hT:DP P T){t u:TypeId}{x:Operand}{l:List UInt8}{ex:Bool}{i j k:AD}{v:Nat}(ho:o.op=.convert t u x)(hx:AA e x=some (.lst ex (AC l)))(hi:T t=some i)(hik:i.k=.slice v)(hv:T v=some k)(hk:k.k=.int .u8)(hj:T u=some j)(hjk:j.k=.string):
 QLoc P o e h [] (.str ⟨l.toArray⟩):=by
 intro H ι a w s hs g1 g2;have hx':AA s.env x=some (.lst ex (AC l)):=by rw[g1 x D8,hx]
 obtain⟨info,d,e1,e2,e3,e4,e5,e6⟩:=Av (hT _ _ hi);obtain⟨info',d',e1',e2',e3',e4',e5',e6'⟩:=Av (hT _ _ hj);obtain⟨info'',d'',e1'',e2'',e3'',e4'',e5'',e6''⟩:=Av (hT _ _ hv);have hd:=Cy (P:=P) (d:=d) (e3▸hik);subst hd;have hd:=Fe (P:=P) (d:=d') (e3'▸hjk);subst hd;have hd:=OR (P:=P) (d:=d'') (e3''▸hk);subst hd;have hvx:=AH hs hx';generalize hva:a.eval x=va at hvx;refine⟨_,.str _ _,?_⟩;simp only[execOp,ho,hva,Sem.run_bind];have key:(Go.convert t u va).run P w=.ok (.string ⟨l.toArray⟩) w:=by
  rcases hvx.lst_inv with⟨hl,ad,cap,rfl,h1,h2,h3,h4⟩|⟨hne,b,off,cap,sz,c,vals,rfl,hb,hsz',hv',hr,hc1,hex,hcap,hmax⟩
  . have hl0:l=[]:=by simpa[AC]using hl
    subst hl0
    cases ad with
    |none=>simp[Go.convert,A1 e2,A1 e2',A1 e2'',Conv.bytesToString,Sem.run_pure];rfl
    |some ad=>
     rw[run_convert_bytes_string w t u v (some ad) 0 cap e2 e2'' e2'];rw[run_bytesToString w ad 0 cap [] (by simpa using run_loadCells (P:=P) (w:=w) ad 0 (fun _=>undef) (fun j hj=>by omega))];rfl
  . rw[run_convert_bytes_string w t u v (some ⟨b,off,none⟩) (AC l).length cap e2 e2'' e2'];obtain⟨TT,fr,hbw⟩:=hs.heap.know b c hb;have hlen:(AC l).length=l.length:=by simp[AC]
    rw[run_bytesToString w _ _ cap (l.map (fun b:UInt8=>((b.toNat:Nat):Int))) ?_,W1];have hld:=run_loadCells_list (P:=P) (w:=w) ⟨b,off,none⟩ (l.map (fun b:UInt8=>Value.int .u8 b.toNat)) (fun j y hj=>by
     rw[List.getElem?_map]at hj
     cases hlj:l[j]? with
     |none=>rw[hlj]at hj;cases hj
     |some n=>
      rw[hlj]at hj
      cases hj
      have hbc:(AC l)[j]?=some [AV.int .u8 n.toNat]:=by simp[AC,hlj]
      have hsz:sz=1:=(hsz' j _ hbc).symm;subst hsz;have q1:=hv' j _ 0 _ hbc rfl;have q2:=(hr j _ 0 _ hbc rfl).int_inv;rw[FQ,HP hbw];rw[q2,Nat.mul_one,Nat.add_zero]at q1;exact q1)
    rw[hlen];simpa[List.map_map,Function.comp_def]using hld
 simp only[key,Result.andThen_ok,Sem.run_pure]
end
section
variable {P : Program} {T : Nat -> Option AD} {o : Oper} {e : AN} {h : Ag}
end
section
variable {P : Program} {T : Nat -> Option AD} {o : Oper} {e : AN} {h : Ag}
def TY(f:Bool)(b:Nat)(es:List (List AV)):AV:=bif f then .lst true es else .ref b es.length 0 es.length
def Mr(f:Bool)(sz:Nat)(es:List (List AV)):AObj:=bif f then .free else .row true sz es
theorem U4(hT:DP P T){t t':TypeId}{x y:Operand}{i i' j:AD}{u u':Nat}{f ex2:Bool}{sz:Nat}{es es2:List (List AV)}(b:Nat)
 (ho:o.op=.call {callee:=.builtin .append,args:= #[x,y],argTypes:= #[t,t']}) (hx:AA e x=some (TY f b es)) (hy:AA e y=some (.lst ex2 es2)) (hi:T t=some i) (hk:i.k=.slice u) (hj:T u=some j) (hi':T t'=some i') (hk':i'.k=.slice u')
 (hb:h b=some (Mr f sz es)) (hsz:sz=j.size) (hz:j.zero.length=j.size) (hp:0<j.size)
 (hu:∀cs∈es,cs.length=sz) (hpu:∀cs∈es,cs.all AV.isPure1=true) (hu2:∀cs∈es2,cs.length=sz) (hpure:∀cs∈es2,cs.all AV.isPure1=true)
 (hby:(es.length+es2.length)*j.bytes<=140737488355328) (hml:es.length+es2.length<=maxLen):
 OLoc P o e h [b] [(b,Mr (f&&es2.isEmpty) sz (es++es2))] (some (TY (f&&es2.isEmpty) b (es++es2))):=by
 cases f with
 |false=>
  have:=Ba hT ho hx hy hi hk hj hi' hk' hb rfl hsz hz hp (.lst ex2 es2) hu2 (fun _=>hpure) (m:=es2.length) rfl hby hml;simpa[TY,Mr]using this
 |true=>
  simp only[TY,Mr,cond_true]at hx hb
  cases hes2:es2 with
  |nil=>
   subst hes2;simp only[List.isEmpty_nil,Bool.and_self,List.append_nil,Mr,TY,cond_true];intro H ι a w s Q hs g1 g2;have hx':AA s.env x=some (.lst true es):=by rw[g1 x Lk,hx]
   have hy':AA s.env y=some (.lst ex2 []):=by rw[g1 y Lk,hy]
   have hb':s.h b=some .free:=by rw[g2 b At,hb]
   obtain⟨info,d,e1,e2,e3,e4,e5,e6⟩:=Av (hT _ _ hi);obtain⟨infou,du,f1,f2,f3,f4,f5,f6⟩:=Av (hT _ _ hj);obtain⟨info',d',e1',e2',e3',e4',e5',e6'⟩:=Av (hT _ _ hi');have hd:=Cy (P:=P) (d:=d) (e3▸hk);subst hd;have hd':=Cy (P:=P) (d:=d') (e3'▸hk');subst hd';have hvx:=AH hs hx';have hvy:=AH hs hy';generalize hva:a.eval x=va at hvx;generalize hvb:a.eval y=vb at hvy;obtain⟨news,hsrcw,hnews⟩:=R5 hs.heap (SrcOf.lst ex2 []) hvy e2' hp (by intro cs h;cases h) w rfl;rw[<-f4]at hsrcw;have hnn:news=[]:=List.eq_nil_of_length_eq_zero (by rw[hsrcw.newsLen];simp);subst hnn;have hsame:AB s.h [(b,.free)]=s.h:=by
    funext c;exact aY
   have hexec:∀(v:Value) (w':World),(Builtin.append_ #[t,t'] o.type #[va,vb]).run P w=.ok v w'->(execOp a.eval o).run P w=.ok (.value v) w':=fun v w' hrun=>by
    exact cu
   have hrun:(Builtin.append_ #[t,t'] o.type #[va,vb]).run P w=.ok va w:=by
    rcases hvx.lst_inv with⟨rfl,ad,cap,rfl,h1,h2,h3,h4⟩|⟨hne,b0,off,cap,sz0,c,vals,rfl,hb0,hsz',hv,hr,hc1,hex,hcap,hmax⟩
    . have:=h1 rfl;subst this;exact Hw t t' o.type u infou e2 f1 ad vb hsrcw
    . have hsrc0:Src P infou.size t' vb 0 [] w:=hsrcw;have h1:=hsrc0.len;have h2:=hsrc0.cells;rcases hsrcw.kind with⟨e',hk⟩|hk<;>simp[Builtin.append_,run_underlying e2,run_underlying hk,sizeOf,typeInfo,f1,h1,h2,hcap,storeCells]
   unfold Oper.wp;rw[hexec _ _ hrun,hsame];exact⟨va,H,ι,rfl,(fun x ex=>by have:=Option.some.inj ex;subst this;exact hvx),hs.heap,Step.refl _ _ _ _⟩
  |cons y0 r0=>
   rw[<-hes2];have hpos:0<es2.length:=by rw[hes2];simp
   have hie:es2.isEmpty=false:=by rw[hes2];rfl
   simp only[hie,Bool.and_false,Mr,TY,cond_false];subst hsz;refine EP hb At hp fun H ι a w s hs g1 g2=>?_
   have hx':AA s.env x=some (.lst true es):=by rw[g1 x Lk,hx]
   have hy':AA s.env y=some (.lst ex2 es2):=by rw[g1 y Lk,hy]
   obtain⟨info,d,e1,e2,e3,e4,e5,e6⟩:=Av (hT _ _ hi);obtain⟨infou,du,f1,f2,f3,f4,f5,f6⟩:=Av (hT _ _ hj);obtain⟨info',d',e1',e2',e3',e4',e5',e6'⟩:=Av (hT _ _ hi');have hd:=Cy (P:=P) (d:=d) (e3▸hk);subst hd;have hd':=Cy (P:=P) (d:=d') (e3'▸hk');subst hd';obtain⟨z,hz1,hz2⟩:=Fb f6 hz hp;have hzl:z.cells.size=j.size:=by rw[<-hz];simpa using(ED (H:=H) (ι:=BI) hz2).1.symm
   have hvx:=AH hs hx';have hvy:=AH hs hy';generalize hva:a.eval x=va at hvx;generalize hvb:a.eval y=vb at hvy;have hexec:∀(v:Value) (w':World),(Builtin.append_ #[t,t'] o.type #[va,vb]).run P w=.ok v w'->(execOp a.eval o).run P w=.ok (.value v) w':=fun v w' hrun=>by
    exact cu
   obtain⟨news,hsrcw,hnews⟩:=R5 hs.heap (SrcOf.lst ex2 es2) hvy e2' hp hu2 w rfl;rw[<-f4]at hsrcw;have hnl:news.length=es2.length*j.size:=by rw[hsrcw.newsLen,f4]
   have h63:((es.length+es2.length:Nat):Int)<=9223372036854775807:=by
    have:=hml;simp only[maxLen]at this;omega
   -- what stands there already
   obtain⟨base,olds,hv,hold,hol,holdr⟩:∃(base:Option Addr) (olds:List Value),va=.slice base es.length es.length/\(Builtin.firstCells infou.size es.length (.slice base es.length es.length)).run P w.drew=.ok olds.toArray w.drew/\olds.length=es.length*j.size/\
    (∀(i:Nat) (cs:List AV) (k:Nat) (x:AV),es[i]?=some cs->cs[k]?=some x->∃v,olds[i*j.size+k]?=some v/\Rel H BI x v/\x.cell1=true):=by
    rcases hvx.lst_inv with⟨rfl,ad,cap,rfl,h1,h2,h3,h4⟩|⟨hne,b0,off,cap,sz0,c,vals,rfl,hb0,hsz',hv,hr,hc1,hex,hcap,hmax⟩
    . have:=h1 rfl;subst this;refine⟨ad,[],rfl,?_,by simp,fun i cs k x h1=>by simp at h1⟩
      cases ad<;>simp[Builtin.firstCells,loadCells,loadCellsFrom]
    . have hcl:=hex rfl;subst hcl;obtain⟨TT,fr,hbw⟩:=hs.heap.know b0 c hb0;have hss:sz0=j.size:=by
       exact bq
      subst hss;have hget:∀k,k<es.length*j.size->∃v,c[off+k]?=some v:=fun k hk=>by
       have hi:k/j.size<es.length:=Nat.div_lt_of_lt_mul (by rw[Nat.mul_comm];exact hk);have hm:k%j.size<j.size:=Nat.mod_lt _ hp;have hjj:k/j.size*j.size+k%j.size=k:=by rw[Nat.mul_comm];exact Nat.div_add_mod k j.size
       have h1:es[k/j.size]?=some es[k/j.size]:=List.getElem?_eq_getElem hi;have h2:(es[k/j.size])[k%j.size]?=some ((es[k/j.size])[k%j.size]'(by rw[hsz' _ _ h1];exact hm)):=List.getElem?_eq_getElem _;have:=hv _ _ _ _ h1 h2;rw[Nat.add_assoc,hjj]at this;exact⟨_,this⟩
      have hfit:off+es.length*j.size<=c.size:=by
       rcases Nat.eq_zero_or_pos (es.length*j.size)with h0|h0
       . have:=List.length_pos_iff.2 hne;have:=Nat.mul_pos this hp;omega
       . obtain⟨v,hv⟩:=hget (es.length*j.size-1) Aa;have:=(Array.getElem?_eq_some_iff.1 hv).1;omega
      have hg:∀k,k<es.length*j.size->((c.toList.drop off).take (es.length*j.size))[k]?=c[off+k]?:=fun k hk=>by
       rw[List.getElem?_take_of_lt hk,List.getElem?_drop,Array.getElem?_toList]
      have hl:((c.toList.drop off).take (es.length*j.size)).length=es.length*j.size:=by simp;omega
      refine⟨_,(c.toList.drop off).take (es.length*j.size),rfl,?_,hl,fun i cs k x h1 h2=>?_⟩
      . rw[f4];refine run_firstCells_some (P:=P) w.drew j.size es.length ⟨b0,off,none⟩ es.length es.length _ hl (fun k v hk=>?_);have hkl:k<es.length*j.size:=by
         have:=(List.getElem?_eq_some_iff.1 hk).1;omega
        rw[hg k hkl]at hk;rw[FQ,World.cell?_drew,HP hbw];exact hk
      . have hi:i<es.length:=(List.getElem?_eq_some_iff.1 h1).1;have hkk:k<j.size:=by rw[<-hsz' i cs h1];exact(List.getElem?_eq_some_iff.1 h2).1
        have h3:=hv i cs k x h1 h2;exact⟨_,by rw[hg _ (Cp hi hkk),<-Nat.add_assoc];exact h3,hr i cs k x h1 h2,hc1 i cs k x h1 h2⟩
   have hfit:Builtin.nextslicecap (es.length+es2.length) es.length*infou.bytes<=281474976710656:=growslice_fits Aa (by rw[f5];exact hby);have hrun:=run_append_grow_src (P:=P) w t t' o.type u infou z e2 f1 hz1 base es.length es.length olds hold vb es2.length news hsrcw Aa h63 hfit;have hge:=grownCap_ge w (es.length+es2.length) es.length u;have hcm:grownCap w (es.length+es2.length) es.length u<=maxLen:=grownCap_le_maxLen w _ es.length u hml;generalize hcc:grownCap w (es.length+es2.length) es.length u=nc at*;generalize hC:(olds++news).toArray++Builtin.zeroCells z.cells (nc-(es.length+es2.length))=C at*;have hCs:C.size=nc*j.size:=by
    exact bC
   have hCg:∀k,k<olds.length+news.length->C[k]?=(olds++news)[k]?:=fun k hk=>by
    rw[<-hC,Array.getElem?_append_left He]
    simp
   have hnewsp:∀(i:Nat) (cs:List AV) (k:Nat) (y:AV),es2[i]?=some cs->cs[k]?=some y->∃v,news[i*j.size+k]?=some v/\Rel H BI y v/\y.cell1=true:=fun i cs k y h1 h2=>by
    obtain⟨v,k1,k2,k3⟩:=hnews i cs k y h1 h2;exact⟨v,k1,Dq (List.all_eq_true.1 (hpure cs (List.mem_of_getElem? h1)) y (List.mem_of_getElem? h2)) k2,k3⟩
   refine⟨_,C,u,w.drew,rfl,rfl,rfl,?_,ES hol hnl hu2 (fun i cs h=>hu cs (List.mem_of_getElem? h)) holdr hnewsp hCg,hexec _ _ (hv▸hrun),?_⟩
   . rw[List.length_append,hCs];exact Nat.mul_le_mul_right _ hge
   . have:=Rel.refL (H:=H) (Ed ι b ⟨w.heap.size,j.size,(es++es2).length,C.size⟩) b (es++es2).length 0 (es++es2).length nc _ (Bw _ _ _) rfl Aa (by rw[List.length_append];exact hge) (by simp[hCs]) hcm;simpa using this
end
theorem Ghost.trans{s s' s'':An}(g1:Ghost s s')(g2:Ghost s' s''):Ghost s s'':=fun H ι a w hs=>by
 obtain⟨H1,ι1,h1,s1⟩:=g1 H ι a w hs;obtain⟨H2,ι2,h2,s2⟩:=g2 H1 ι1 a w h1;exact⟨H2,ι2,h2,Step.trans hs.heap s1 h1.heap s2⟩
theorem U7{H:AJ}{ι:Bi}{v:Value}(h:Rel H ι .nil v):Rel H ι (.lst false []) v:=by
 rw[h.nil_inv];exact .lst0 _ _ _ _ Em (Nat.zero_le _) (fun _=>rfl) trivial
theorem Bq{h:Ag}{k b:Nat}(hh:HSub (AE k) h)(hb:b<k):HSub (AE k) (hrm h b):=fun c x hx=>by
 have hne:c≠b:=fun e=>by
  subst e;have h1:Nat.blt c k=true:=by rw[Nat.blt_eq];exact hb
  simp only[AE,h1,cond_true]at hx
  cases hx
 rw[IZ _ hne];exact hh c x hx
section
variable {P : Program}
end
section
variable {P : Program} {T : Nat -> Option AD} {o : Oper} {e : AN} {h : Ag}
end
def IJ(b:Nat)(es:List (List AV)):AV:=TY es.isEmpty b es
def NG(sz:Nat)(es:List (List AV)):AObj:=Mr es.isEmpty sz es
def mQ(b:Nat)(es:List (List AV)):AV:=bif es.isEmpty then .lst false []else .ref b es.length 0 es.length
def mP(es:List (List AV)):AObj:=bif es.isEmpty then .free else .row true 1 es
theorem OU{α:Type}(l:List α)(x:α):(l++[x]).isEmpty=false:=by cases l<;>rfl
theorem P9(b:Nat)(es:List (List AV))(x:List AV):IJ b (es++[x])=.ref b (es.length+1) 0 (es.length+1):=by
 simp[IJ,OU,TY]
theorem P8(sz:Nat)(es:List (List AV))(x:List AV):NG sz (es++[x])=.row true sz (es++[x]):=by
 simp[NG,OU,Mr]
theorem Ve(f:Bool)(b:Nat)(es:List (List AV)):(TY f b es).cells=[TY f b es]:=by cases f<;>rfl
theorem UH(b:Nat)(es:List (List AV)):(IJ b es).cells=[IJ b es]:=Ve _ _ _
theorem UI(b:Nat)(es:List (List AV)):(IJ b es).cell1=true:=by unfold IJ TY;cases es.isEmpty<;>rfl
theorem Gp{k:Nat->Bool}{b:Nat}(es:List (List AV))(h:k b=true):(IJ b es).avoid k=true:=by unfold IJ TY;cases es.isEmpty<;>simp[AV.avoid,AV.flat,h]
theorem Nv{k:Nat->Bool}{b:Nat}(es:List (List AV))(h:k b=true):(mQ b es).avoid k=true:=by unfold mQ;cases es.isEmpty<;>simp[AV.avoid,AV.flat,h]
theorem DT{k:Nat->Bool}(sz:Nat)(es:List (List AV)):(NG sz es).avoid k=true:=by unfold NG Mr;cases es.isEmpty<;>rfl
theorem Nu{k:Nat->Bool}(es:List (List AV)):(mP es).avoid k=true:=by unfold mP;cases es.isEmpty<;>rfl
section
variable {P : Program} {T : Nat -> Option AD} {o : Oper} {e : AN} {h : Ag}
theorem Xe(hT:DP P T){t:TypeId}{x y:Operand}{b m k off:Nat}{p:Bool}{sz:Nat}{es:List (List AV)}{cs:List AV}{q:AV}{i:AD}(ho:o.op=.store t x y)(hd:o.dst=none)(hx:AA e x=some (.ptr b m k off))(hy:AA e y=some q)(hi:T t=some i)(his:i.size=1)
 (hb:h b=some (.row p sz es)) (hm:m=es.length) (hk:es[k]?=some cs) (hq:q.cells=[q]) (hfit:off+1<=sz) (h1:q.cell1=true) (hp:p=true->q.isPure1=true):
 OLoc P o e h [b] [(b,.row p sz (es.set k (Er cs off [q])))] none:=by
 have:=BA hT ho hd hx hy hi hb hm hk (by rw[hq,his];rfl) (by rw[his];exact hfit) (by rw[hq];simp[h1]) (fun h=>by rw[hq];simp[hp h]);rwa[hq]at this
theorem Mc(hT:DP P T){t t':TypeId}{x y:Operand}{i i' j:AD}{u u':Nat}{ex2:Bool}{sz:Nat}{es:List (List AV)}{x0:List AV}{b:Nat}
 (ho:o.op=.call {callee:=.builtin .append,args:= #[x,y],argTypes:= #[t,t']}) (hx:AA e x=some (IJ b es)) (hy:AA e y=some (.lst ex2 [x0])) (hi:T t=some i) (hk:i.k=.slice u) (hj:T u=some j) (hi':T t'=some i') (hk':i'.k=.slice u')
 (hb:h b=some (NG sz es)) (hsz:sz=j.size) (hz:j.zero.length=j.size) (hp:0<j.size)
 (hu:∀cs∈es,cs.length=sz) (hpu:∀cs∈es,cs.all AV.isPure1=true) (hu2:x0.length=sz) (hpure:x0.all AV.isPure1=true)
 (hby:(es.length+1)*j.bytes<=140737488355328) (hml:es.length+1<=maxLen):
 OLoc P o e h [b] [(b,NG sz (es++[x0]))] (some (IJ b (es++[x0]))):=by
 have:=U4 (f:=es.isEmpty) hT b ho hx hy hi hk hj hi' hk' hb hsz hz hp hu hpu (by simpa using hu2) (by simpa using hpure) hby hml;have e1:(es.isEmpty&&[x0].isEmpty)=(es++[x0]).isEmpty:=by rw[OU];simp
 rw[e1]at this;exact this
end
theorem Ei{n:Nat}{e:AN}{h:Ag}(b:Nat){sz:Nat}{es es':List (List AV)}(hb:h b=some (.row false sz es))(hl:es'.length=es.length)
 (hw:∀(i:Nat) (cs cs':List AV),es[i]?=some cs->es'[i]?=some cs'->cs'.length=cs.length/\∀(j:Nat) (x y:AV),cs[j]?=some x->cs'[j]?=some y->(x.cell1=true->y.cell1=true)/\∀H ι v,Rel H ι x v->Rel H ι y v):Ghost ⟨n,e,h⟩ ⟨n,e,Ar h b (.row false sz es')⟩:=fun H ι a w hs=>by
 obtain⟨r,hr,⟨r1,r2,r3,r4,r5,r6⟩,r7⟩:=hs.heap.obj b _ hb rfl;have hlput:Ed ι b r=ι:=by
  funext c
  by_cases hc:c=b
  . subst hc;rw[Bw,hr]
  . rw[DI _ _ hc]
 have hget:∀(i:Nat) (cs':List AV),es'[i]?=some cs'->∃cs,es[i]?=some cs:=fun i cs' hi=>by
  have:i<es'.length:=(List.getElem?_eq_some_iff.1 hi).1;exact⟨es[i]'(Aa),List.getElem?_eq_getElem Aa⟩
 have:=hs.heap.upd (o':=.row false sz es') (r':=r) (w':=w) hb rfl (.inr ⟨r,hr,rfl,.inl rfl⟩) (fun hsol=>.inr ⟨r,hr,rfl,hsol,rfl⟩) (fun _ _ _=>rfl) (Nat.le_refl _) rfl rfl
  ⟨r1,r2,by rw[hl];exact r3,by rw[hl];exact r4,fun i cs' hi=>by
   obtain⟨cs,hc⟩:=hget i cs' hi;rw[(hw i cs cs' hc hi).1];exact r5 i cs hc,fun hsol=>by
   obtain⟨c,T,c1,c2,c3,c4⟩:=r6 hsol;refine⟨c,T,c1,c2,fun i cs' hi=>?_,?_⟩
   . obtain⟨cs,hc⟩:=hget i cs' hi;rw[(hw i cs cs' hc hi).1];exact r5 i cs hc
   rw[hlput];intro i cs' j y hi hj;obtain⟨cs,hc⟩:=hget i cs' hi;obtain⟨w1,w2⟩:=hw i cs cs' hc hi;have hjlt:j<cs'.length:=(List.getElem?_eq_some_iff.1 hj).1;have hx:cs[j]?=some (cs[j]'(Aa)):=List.getElem?_eq_getElem Aa;obtain⟨v,v1,v2,v3⟩:=c4 i cs j _ hc hx;obtain⟨g1,g2⟩:=w2 j _ y hx hj;exact⟨v,v1,g2 _ _ _ v2,g1 v3⟩⟩
 rw[hlput]at this;exact⟨H,ι,⟨hs.n,hs.d,hs.env,this.1⟩,this.2⟩
section
variable {P : Program} {T : Nat -> Option AD} {o : Oper} {e : AN} {h : Ag}
end
section
variable {P : Program} {T : Nat -> Option AD} {o : Oper} {e : AN} {h : Ag}
theorem Sx(hT:DP P T){t t':TypeId}{x y:Operand}{i i' j:AD}{u u':Nat}{ex2:Bool}{sz:Nat}{es:List (List AV)}{x0:List AV}{b:Nat}
 (ho:o.op=.call {callee:=.builtin .append,args:= #[x,y],argTypes:= #[t,t']}) (hx:AA e x=some (IJ b es)) (hy:AA e y=some (.lst ex2 [x0])) (hi:T t=some i) (hk:i.k=.slice u) (hj:T u=some j) (hi':T t'=some i') (hk':i'.k=.slice u')
 (hb:h b=some (NG sz es)) (hsz:sz=j.size) (hz:j.zero.length=j.size) (hp:0<j.size)
 (hu:∀cs∈es,cs.length=sz) (hpu:∀cs∈es,cs.all AV.isPure1=true) (hu2:x0.length=sz) (hpure:x0.all AV.isPure1=true)
 (hby:(es.length+1)*j.bytes<=140737488355328) (hml:es.length+1<=maxLen):
 OLoc P o e h [b] [(b,.row true sz (es++[x0]))] (some (.ref b (es.length+1) 0 (es.length+1))):=by
 have:=Mc hT ho hx hy hi hk hj hi' hk' hb hsz hz hp hu hpu hu2 hpure hby hml;rwa[P9,P8]at this
end
def Gj(base:Ag)(F:Nat->AObj):Ag:=fun c=>bif Nat.ble 16 c then some (F (c-16))else base c
theorem Ax(base:Ag)(F:Nat->AObj)(x:Nat):Gj base F (x+16)=some (F x):=by
 have:Nat.ble 16 (x+16)=true:=by rw[Nat.ble_eq];omega
 simp only[Gj,this,cond_true,Nat.add_sub_cancel]
theorem Gi(base:Ag)(F:Nat->AObj){c:Nat}(h:c<16):Gj base F c=base c:=by
 have:Nat.ble 16 c=false:=by rw[<-Bool.not_eq_true,Nat.ble_eq];omega
 simp only[Gj,this,cond_false]
def U5:List AObj->Nat->AObj
  | [],_=>.free
  |o::_,0=>o
  |_::L,n+1=>U5 L n
def nb(L:List AObj):Ag:=fun c=>some (U5 L c)
def kf(k0:Nat):Nat->Bool:=fun c=>Nat.blt c k0||Nat.ble 16 c
theorem Hj(k0 x:Nat):kf k0 (x+16)=true:=by
 have:Nat.ble 16 (x+16)=true:=by rw[Nat.ble_eq];omega
 simp[kf,this]
theorem Xz{k0 c:Nat}(h:kf k0 c=false):k0<=c/\c<16:=by
 simp only[kf,Bool.or_eq_false_iff]at h;obtain⟨h1,h2⟩:=h;rw[<-Bool.not_eq_true,Nat.blt_eq]at h1;rw[<-Bool.not_eq_true,Nat.ble_eq]at h2;omega
theorem O9:∀{L:List AObj} {c:Nat},L.length<=c->U5 L c=.free
 | [],_,_=>rfl
 |_::L,0,h=>absurd h At
 |_::L,c+1,h=>O9 (L:=L) Ko
def LowAt(h:Ag)(k:Nat->Bool):Nat->List AObj->Prop
  |_,[]=>True
  |i,o::L=>(h i=some o/\o.avoid k=true)/\LowAt h k (i+1) L
theorem LowAt.get{h:Ag}{k:Nat->Bool}:∀{L:List AObj} {i c:Nat},LowAt h k i L->c<L.length->h (i+c)=some (U5 L c)/\(U5 L c).avoid k=true
 | [],_,_,_,hc=>absurd hc At
 |o::L,i,0,hl,_=>hl.1
 |o::L,i,c+1,hl,hc=>by
  have:=LowAt.get (L:=L) (i:=i+1) (c:=c) hl.2 (by simpa using hc);rw[show i+(c+1)=i+1+c by omega];exact this
theorem EG{L:List AObj}{F:Nat->AObj}{k0:Nat}(hk:L.length=k0){c:Nat}(h:kf k0 c=false):Gj (nb L) F c=some .free:=by
 obtain⟨h1,h2⟩:=Xz h;rw[Gi _ _ h2];show some (U5 L c)=_;rw[O9 Aa]
theorem G6{L:List AObj}{F:Nat->AObj}{k0:Nat}{h:Ag}(hk:L.length=k0)(h1:LowAt h (kf k0) 0 L)(h2:∀x,h (x+16)=some (F x))(h3:∀x,(F x).avoid (kf k0)=true):M5 (kf k0) (Gj (nb L) F) h:=by
 intro c o ho
 cases hc:kf k0 c with
 |false=>
  rw[EG hk hc]at ho
  cases ho
  exact .inr ⟨rfl,rfl⟩
 |true=>
  by_cases h16:16<=c
  . obtain⟨x,rfl⟩:∃x,c=x+16:=⟨c-16,by omega⟩
    rw[Ax]at ho;cases ho;exact .inl ⟨h2 x,fun _=>⟨rfl,h3 x⟩⟩
  . have hlt:c<k0:=by
     simp only[kf,Bool.or_eq_true,Nat.blt_eq,Nat.ble_eq]at hc;omega
    rw[Gi _ _ Aa]at ho;have ho':some (U5 L c)=some o:=ho
    cases ho'
    have:=h1.get (c:=c) Aa;rw[Nat.zero_add]at this;exact .inl ⟨this.1,fun _=>⟨rfl,this.2⟩⟩
theorem Ey{L:List AObj}{F:Nat->AObj}{k0:Nat}{h:Ag}(hk:L.length=k0)(h1:LowAt h (kf k0) 0 L)(h2:∀x,h (x+16)=some (F x))(h3:∀c,k0<=c->c<16->h c=some .free):HSub (Gj (nb L) F) h:=by
 intro c o ho
 by_cases h16:16<=c
 . obtain⟨x,rfl⟩:∃x,c=x+16:=⟨c-16,by omega⟩
   rw[Ax]at ho;cases ho;exact h2 x
 . rw[Gi _ _ Aa]at ho;have ho':some (U5 L c)=some o:=ho
   cases ho'
   by_cases hlt:c<k0
   . have:=h1.get (c:=c) Aa;rw[Nat.zero_add]at this;exact this.1
   . rw[O9 Aa];exact h3 c Aa Aa
theorem Ph{h:Ag}{F:Nat->AObj}(hh:∀x,h (x+16)=some (F x))(z:Nat)(o:AObj):∀x,Ar h (z+16) o (x+16)=some (if x=z then o else F x):=fun x=>by
 by_cases hx:x=z
 . subst hx;rw[Br,if_pos rfl]
 . rw[Bb _ _ Aa,if_neg hx];exact hh x
def IE(φ:Nat->Nat)(l:List Nat)(m:List Nat):Prop:=∀b∈l,φ b∈m
def LJ(φ:Nat->Nat):List (List Nat×List Nat)->List (List Nat×List Nat)->Prop
  | [],[]=>True
  |s::S,m::M=>IE φ s.1 m.1/\IE φ s.2 m.2/\LJ φ S M
  |_,_=>False
theorem IL{φ:Nat->Nat}:∀{S M:List (List Nat×List Nat)} {i:Nat} {s:List Nat×List Nat},LJ φ S M->S[i]?=some s->∃m,M[i]?=some m/\IE φ s.1 m.1/\IE φ s.2 m.2
 | [],_,_,_,_,h=>by simp at h
 |_::_,[],_,_,hs,_=>hs.elim
 |s::S,m::M,0,_,hs,h=>by simp at h;subst h;exact⟨m,rfl,hs.1,hs.2.1⟩
 |s::S,m::M,i+1,t,hs,h=>by
  simp only[List.getElem?_cons_succ]at h|-;exact IL hs.2.2 h
theorem Hu{φ:Nat->Nat}:∀{S M:List (List Nat×List Nat)} {i:Nat},LJ φ S M->S[i]?=none->M[i]?=none
 | [],[],_,_,_=>by simp
 | [],_::_,_,hs,_=>hs.elim
 |_::_,[],_,hs,_=>hs.elim
 |s::S,m::M,0,_,h=>by simp at h
 |s::S,m::M,i+1,hs,h=>by
  simp only[List.getElem?_cons_succ]at h|-;exact Hu hs.2.2 h
theorem VR{φ:Nat->Nat}{x y x' y':List Nat×List Nat}(hx1:IE φ x.1 x'.1)(hx2:IE φ x.2 x'.2)(hy1:IE φ y.1 y'.1)(hy2:IE φ y.2 y'.2)(h:Cn x' y'=true):Cn x y=true:=by
 simp only[Cn,Bool.and_eq_true,List.all_eq_true,Bool.not_eq_true',List.contains_eq_mem,decide_eq_false_iff_not]at h|-;exact⟨fun b hb=>⟨fun hc=>(h.1 (φ b) (hx2 b hb)).1 (hy1 b hc),fun hc=>(h.1 (φ b) (hx2 b hb)).2 (hy2 b hc)⟩,fun b hb hc=>h.2 (φ b) (hy2 b hb) (hx1 b hc)⟩
theorem Z8{ops:Array Oper}(φ:Nat->Nat){S M:List (List Nat×List Nat)}(hs:LJ φ S M)(h:Z9 ops M=true):Z9 ops S=true:=by
 unfold Z9 at h|-;rw[List.all_eq_true]at h|-;intro j hj;have hjj:=h j hj
 cases ho:ops[j]? with
 |none=>rw[ho]at hjj;cases hjj
 |some oj=>
  rw[ho]at hjj
  cases hsj:S[j]? with
  |none=>rw[Hu hs hsj]at hjj;cases hjj
  |some sj=>
   obtain⟨mj,hmj,c1,c2⟩:=IL hs hsj;rw[hmj]at hjj;simp only[Bool.and_eq_true]at hjj|-;refine⟨hjj.1,?_⟩;rw[List.all_eq_true];intro i hi;have hii:=List.all_eq_true.1 hjj.2 i hi
   cases hoi:ops[i]? with
   |none=>rw[hoi]at hii;cases hii
   |some oi=>
    rw[hoi]at hii
    cases hsi:S[i]? with
    |none=>rw[Hu hs hsi]at hii;cases hii
    |some si=>
     obtain⟨mi,hmi,d1,d2⟩:=IL hs hsi;rw[hmi]at hii;simp only[Bool.or_eq_true,Bool.and_eq_true]at hii|-;rcases hii with hii|hii
     . exact .inl hii
     . exact .inr ⟨hii.1,VR d1 d2 c1 c2 hii.2⟩
theorem Cc{P:Program}{ops:Array Oper}{n:Nat}{e:AN}{h:Ag}{acc:List (List Nat×List Nat)}{K:An->Prop}(φ:Nat->Nat)(M:List (List Nat×List Nat))(hs:LJ φ acc M)(hc:Z9 ops M=true)(hk:K ⟨n,e,h⟩):DOps P ops n [] e h acc K:=DOps.nil (Z8 φ hs hc) hk
theorem PH{p:Nat->Prop}:∀{L:List Nat},(∀b∈L,p b)->AllL L p
 | [],_=>trivial
 |b::L,h=>⟨h b At,PH fun c hc=>h c (by simp[hc])⟩
def K0(f:Nat->Nat)(o:Nat->AObj)(n:Nat):List (Nat×AObj):=(List.range n).map fun i=>(f i,o i)
def eC(f:Nat->Nat)(n:Nat):List Nat:=(List.range n).map f
theorem famL_mem{f:Nat->Nat}{n b:Nat}:b∈eC f n↔ ∃i,i<n/\b=f i:=by
 unfold eC;simp only[List.mem_map,List.mem_range];exact⟨fun⟨i,h1,h2⟩=>⟨i,h1,h2.symm⟩,fun⟨i,h1,h2⟩=>⟨i,h1,h2.symm⟩⟩
theorem HJ{f:Nat->Nat}{o:Nat->AObj}{n b:Nat}(h:Ag)(hb:∀i,i<n->b≠f i):AB h (K0 f o n) b=h b:=by
 refine Oe fun p hp=>?_
 unfold K0 at hp;simp only[List.mem_map,List.mem_range]at hp;obtain⟨i,hi,rfl⟩:=hp;exact fun e=>hb i hi e.symm
theorem Vk(f:Nat->Nat)(o:Nat->AObj)(n:Nat):K0 f o (n+1)=K0 f o n++[(f n,o n)]:=by
 unfold K0;rw[List.range_succ,List.map_append];rfl
theorem Mx:∀(h:Ag) (W:List (Nat×AObj)) (b:Nat) (o:AObj),AB h (W++[(b,o)])=Ar (AB h W) b o
 |h,[],b,o=>rfl
 |h,(c,q)::W,b,o=>by
  rw[List.cons_append];exact Mx (Ar h c q) W b o
theorem T6{f:Nat->Nat}{o:Nat->AObj}(hf:∀i j,f i=f j->i=j):∀{n:Nat} (h:Ag) {i:Nat},i<n->AB h (K0 f o n) (f i)=some (o i)
 |0,_,_,hi=>absurd hi Aa
 |n+1,h,i,hi=>by
  rw[Vk,Mx]
  by_cases e:i=n
  . subst e;exact Br _ _ _
  . rw[Bb _ _ (fun x=>e (hf _ _ x))];exact T6 hf h Aa
theorem XT(f:Nat->Nat)(o:Nat->AObj)(n:Nat)(p:Nat×AObj->Bool)(h:∀i,i<n->p (f i,o i)=true):(K0 f o n).all p=true:=by
 rw[List.all_eq_true];intro x hx;unfold K0 at hx;simp only[List.mem_map,List.mem_range]at hx;obtain⟨i,hi,rfl⟩:=hx;exact h i hi
section
variable {P : Program} {T : Nat -> Option AD} {o : Oper} {e : AN} {h : Ag}
theorem Zg(hT:DP P T){t:TypeId}{x:Operand}{f:Nat}{cs:List AV}{r:AV}{i j:AD}{fs:List (Nat×Nat)}{off u:Nat}(ho:o.op=.field t x f)(hx:AA e x=some (.agg cs))(hi:T t=some i)(hk:i.k=.struct fs)
 (hf:fs[f]?=some (off,u)) (hj:T u=some j) (hc:j.k.isCell=true) (hr:cs[off]?=some r):QLoc P o e h [] r:=by
 intro H ι a w s hs h1 h2;have hx':AA s.env x=some (.agg cs):=by rw[h1 x D8,hx]
 obtain⟨info,d,e1,e2,e3,e4,e5,e6⟩:=Av (hT _ _ hi);obtain⟨info',d',f1,f2,f3,f4,f5,f6⟩:=Av (hT _ _ hj);obtain⟨A,rfl,rfl,hz⟩:=Ep (P:=P) (d:=d) (e3▸hk);rw[List.getElem?_map,Array.getElem?_toList]at hf
 cases ef:A[f]? with
 |none=>rw[ef]at hf;cases hf
 |some g=>
  rw[ef]at hf;simp only[Option.map_some,Option.some.injEq,Prod.mk.injEq]at hf;obtain⟨rfl,rfl⟩:=hf;obtain⟨us,hv,hl,hrel⟩:=(AH hs hx').agg_inv;have hlt:g.offset<us.size:=by rw[<-hl];exact(List.getElem?_eq_some_iff.1 hr).1
  have hagg:Ms d'=false:=by
   have:=TD (P:=P) (d:=d') (by rw[<-f3];exact hc)
   cases d'<;>first|rfl|exact absurd rfl (this.1 _)|exact absurd rfl (this.2 _ _)
  refine⟨us[g.offset],hrel g.offset r _ hr (Array.getElem?_eq_getElem hlt),?_⟩;simp only[execOp,ho,Instr.field,hv,Sem.run_bind,Sem.run_pure,Result.andThen_ok,A1 e2,ef,asAgg,part,HY f2,hagg,Bool.false_eq_true,if_false,Array.getElem?_eq_getElem hlt]
end
def W2(h:Ag):AV->Option (List Nat×List AV)
  | .loc cs=>some ([],cs)
  | .ptr b n i o=>match h b with
    |some (.row p sz es)=>match Nat.beq n es.length,es[i]? with
      |true,some cs=>some ([b],cs.drop o)
      |_,_=>none
    |_=>none
  |_=>none
theorem Sj{h:Ag}{p:AV}{R:List Nat}{cs:List AV}(e:W2 h p=some (R,cs)):PtsTo h p R cs:=by
 unfold W2 at e;split at e
 . simp only[Option.some.injEq,Prod.mk.injEq]at e;obtain⟨rfl,rfl⟩:=e;exact .loc _
 . split at e
   . rename_i b n i o p sz es hb;split at e
     . rename_i cs h1 h2;simp only[Option.some.injEq,Prod.mk.injEq]at e;obtain⟨rfl,rfl⟩:=e;exact .ptr _ _ _ _ _ _ _ _ hb (Nat.eq_of_beq_eq_true h1) h2
     . cases e
   . cases e
 . cases e
def kr(T:Nat->Option AD)(o:Op)(e:AN)(h:Ag):Option (List Nat×AV):=
  match o with
  | .move x=>match AA e x with
    |some p=>some ([],p)
    |none=>none
  | .assign x=>match AA e x with
    |some p=>some ([],p)
    |none=>none
  | .load t x=>match AA e x,T t with
    |some p,some i=>match W2 h p with
      |some (R,cs)=>match IY i cs with
        |some r=>some (R,r)
        |none=>none
      |none=>none
    |_,_=>none
  | .fieldAddr t x f=>match AA e x,T t with
    |some p,some i=>match i.k with
      | .struct fs=>match fs[f]? with
        |some (off,u)=>match J5 p off with
          |some r=>some ([],r)
          |none=>none
        |none=>none
      |_=>none
    |_,_=>none
  | .binOp op t x y t'=>match AA e x,AA e y with
    |some p,some q=>match Bh op p q with
      |some r=>some ([],r)
      |none=>none
    |_,_=>none
  | .unOp .not t x=>match AA e x with
    |some (.bool b)=>some ([],.bool (!b))
    |_=>none
  | .pick c x y=>match AA e c with
    |some (.bool true)=>match AA e x with
      |some p=>some ([],p)
      |none=>none
    |some (.bool false)=>match AA e y with
      |some p=>some ([],p)
      |none=>none
    |_=>none
  | .extract x k=>match AA e x with
    |some (.tup vs)=>match vs[k]? with
      |some r=>some ([],r)
      |none=>none
    |_=>none
  | .nilCheck x=>match AA e x with
    |some p=>match(match p with| .loc _| .ptr .. =>true|_=>false)with
      |true=>some ([],p)
      |false=>none
    |none=>none
  | .field t x f=>match AA e x,T t with
    |some (.agg cs),some i=>match i.k with
      | .struct fs=>match fs[f]? with
        |some (off,u)=>match T u with
          |some j=>match j.k.isCell,cs[off]? with
            |true,some r=>some ([],r)
            |_,_=>none
          |none=>none
        |none=>none
      |_=>none
    |_,_=>none
  | .convert t u x=>match AA e x,T t,T u with
    |some (.int k' n),some i,some j=>match j.k with
      | .int k=>some ([],.int k (k.wrap n))
      |_=>none
    |_,_,_=>none
  | .call ⟨.builtin .len,args,tys⟩=>match args.toList,tys.toList with
    | [x],[t]=>match AA e x,T t with
      |some p,some i=>match(match p with| .str _=>(match i.k with| .string=>true|_=>false)|_=>(match i.k with| .slice _=>true|_=>false)),Mo p with
        |true,some n=>some ([],.int .i64 n)
        |_,_=>none
      |_,_=>none
    |_,_=>none
  |_=>none
theorem Ud{α:Type}{a:Array α}{x:α}(h:a.toList=[x]):a= #[x]:=Array.ext' h
section
variable {P : Program} {T : Nat -> Option AD} {o : Oper} {e : AN} {h : Ag} {R : List Nat} {r : AV}
theorem Qt(hT:DP P T)(hq:kr T o.op e h=some (R,r)):QLoc P o e h R r:=by
 unfold kr at hq;split at hq
 . rename_i x ho;split at hq
   . rename_i p hp;simp only[Option.some.injEq,Prod.mk.injEq]at hq;obtain⟨rfl,rfl⟩:=hq;exact JV (.inl ho) hp
   . cases hq
 . rename_i x ho;split at hq
   . rename_i p hp;simp only[Option.some.injEq,Prod.mk.injEq]at hq;obtain⟨rfl,rfl⟩:=hq;exact JV (.inr ho) hp
   . cases hq
 . rename_i t x ho;split at hq
   . rename_i p i hp hi;split at hq
     . rename_i R' cs hc;split at hq
       . rename_i r' hr;simp only[Option.some.injEq,Prod.mk.injEq]at hq;obtain⟨rfl,rfl⟩:=hq;exact BE hT ho hp hi (Sj hc) hr
       . cases hq
     . cases hq
   . cases hq
 . rename_i t x f ho;split at hq
   . rename_i p i hp hi;split at hq
     . rename_i fs hk;split at hq
       . rename_i off u hf;split at hq
         . rename_i r' hr;simp only[Option.some.injEq,Prod.mk.injEq]at hq;obtain⟨rfl,rfl⟩:=hq;exact Hz hT ho hp hi hk hf hr
         . cases hq
       . cases hq
     . cases hq
   . cases hq
 . rename_i op t x y t' ho;split at hq
   . rename_i p q hp hq';split at hq
     . rename_i r' hr;simp only[Option.some.injEq,Prod.mk.injEq]at hq;obtain⟨rfl,rfl⟩:=hq;exact AG ho hp hq' hr
     . cases hq
   . cases hq
 . rename_i t x ho;split at hq
   . rename_i b hp;simp only[Option.some.injEq,Prod.mk.injEq]at hq;obtain⟨rfl,rfl⟩:=hq;exact TN ho hp
   . cases hq
 . rename_i c x y ho;split at hq
   . rename_i hc;split at hq
     . rename_i p hp;simp only[Option.some.injEq,Prod.mk.injEq]at hq;obtain⟨rfl,rfl⟩:=hq;exact Hy true ho hc rfl hp
     . cases hq
   . rename_i hc;split at hq
     . rename_i p hp;simp only[Option.some.injEq,Prod.mk.injEq]at hq;obtain⟨rfl,rfl⟩:=hq;exact Jr false ho hc rfl hp
     . cases hq
   . cases hq
 . rename_i x k ho;split at hq
   . rename_i vs hp;split at hq
     . rename_i r' hr;simp only[Option.some.injEq,Prod.mk.injEq]at hq;obtain⟨rfl,rfl⟩:=hq;exact JW ho hp hr
     . cases hq
   . cases hq
 . rename_i x ho;split at hq
   . rename_i p hp;split at hq
     . rename_i hc;simp only[Option.some.injEq,Prod.mk.injEq]at hq;obtain⟨rfl,rfl⟩:=hq;exact Sh ho hp (by cases p<;>first|rfl|cases hc)
     . cases hq
   . cases hq
 . rename_i t x f ho;split at hq
   . rename_i cs i hp hi;split at hq
     . rename_i fs hk;split at hq
       . rename_i off u hf;split at hq
         . rename_i j hj;split at hq
           . rename_i r' hc hr;simp only[Option.some.injEq,Prod.mk.injEq]at hq;obtain⟨rfl,rfl⟩:=hq;exact Zg hT ho hp hi hk hf hj hc hr
           . cases hq
         . cases hq
       . cases hq
     . cases hq
   . cases hq
 . rename_i t u x ho;split at hq
   . rename_i k' n i j hp hi hj;split at hq
     . rename_i k hk;simp only[Option.some.injEq,Prod.mk.injEq]at hq;obtain⟨rfl,rfl⟩:=hq;exact JX hT ho hp hi hj hk
     . cases hq
   . cases hq
 . rename_i args tys ho;split at hq
   . rename_i x t ha ht;split at hq
     . rename_i p i hp hi;split at hq
       . rename_i n hk hn;simp only[Option.some.injEq,Prod.mk.injEq]at hq;obtain⟨rfl,rfl⟩:=hq;exact jy hT (ho.trans (by rw[Ud ha,Ud ht])) hp hi (by cases p<;>exact hk) hn
       . cases hq
     . cases hq
   . cases hq
 . cases hq
end
def WX(T:Nat->Option AD)(ops:Array Oper)(n:Nat):Nat->List Oper->AN->Ag->Option (List Oper×AN)
  |0,l,e,_=>some (l,e)
  |k+1,o::l,e,h=>match o.dst with
    |some d=>match Nat.blt d n,A2 ops o e with
      |true,some true=>match kr T o.op e h with
        |some (_,r)=>WX T ops n k l (Ad e d r) h
        |none=>none
      |true,some false=>WX T ops n k l (Ad e d (.tup [])) h
      |_,_=>none
    |none=>none
  |_+1,[],_,_=>none
section
variable {P : Program} {T : Nat -> Option AD} {ops : Array Oper} {n : Nat} {h : Ag} {K : An -> Prop}
theorem aQ(hT:DP P T):∀(k:Nat) {l l':List Oper} {e e':AN},WX T ops n k l e h=some (l',e')->AOps P ops l' ⟨n,e',h⟩ K->AOps P ops l ⟨n,e,h⟩ K
 |0,l,l',e,e',hq,hr=>by
  simp only[WX,Option.some.injEq,Prod.mk.injEq]at hq;obtain⟨rfl,rfl⟩:=hq;exact hr
 |k+1,[],_,_,_,hq,_=>by cases hq
 |k+1,o::l,l',e,e',hq,hr=>by
  unfold WX at hq;split at hq
  . rename_i d hd;split at hq
    . rename_i hb hg;split at hq
      . rename_i R r hv;exact AOps.s d hd hb hg (Qt hT hv) (aQ hT k hq hr)
      . cases hq
    . rename_i hb hg;exact AOps.k d hd hb hg (aQ hT k hq hr)
    . cases hq
  . cases hq
end
def Qs(T:Nat->Option AD)(ops:Array Oper)(n:Nat):Nat->List Oper->AN->Ag->List (List Nat×List Nat)->Option (List Oper×AN×List (List Nat×List Nat))
  |0,l,e,_,acc=>some (l,e,acc)
  |k+1,o::l,e,h,acc=>match o.dst with
    |some d=>match Nat.blt d n,A2 ops o e with
      |true,some true=>match kr T o.op e h with
        |some (R,r)=>Qs T ops n k l (Ad e d r) h (acc++[(R,[])])
        |none=>none
      |true,some false=>Qs T ops n k l (Ad e d (.tup [])) h (acc++[([],[])])
      |_,_=>none
    |none=>none
  |_+1,[],_,_,_=>none
section
variable {P : Program} {T : Nat -> Option AD} {ops : Array Oper} {n : Nat} {h : Ag} {K : An -> Prop}
theorem dQ(hT:DP P T):∀(k:Nat) {l l':List Oper} {e e':AN} {acc acc':List (List Nat×List Nat)},Qs T ops n k l e h acc=some (l',e',acc')->DOps P ops n l' e' h acc' K->DOps P ops n l e h acc K
 |0,l,l',e,e',acc,acc',hq,hr=>by
  simp only[Qs,Option.some.injEq,Prod.mk.injEq]at hq;obtain⟨rfl,rfl,rfl⟩:=hq;exact hr
 |k+1,[],_,_,_,_,_,hq,_=>by cases hq
 |k+1,o::l,l',e,e',acc,acc',hq,hr=>by
  unfold Qs at hq;split at hq
  . rename_i d hd;split at hq
    . rename_i hb hg;split at hq
      . rename_i R r hv;exact DOps.s d hd hb hg (Qt hT hv) (dQ hT k hq hr)
      . cases hq
    . rename_i hb hg;exact YB d hd hb hg (dQ hT k hq hr)
    . cases hq
  . cases hq
end
section
variable {P : Program} {T : Nat -> Option AD} {ops : Array Oper} {rest : List Oper} {n : Nat} {e : AN} {h : Ag} {K : An -> Prop} {acc : List (List Nat × List Nat)} {d : Nat} {t ty : TypeId} {ps : String} {af : Array Edge} {x y : Operand}
theorem wK{op:Op}{g:Nat×Bool}(hr:AOps P ops rest ⟨n,Ad e d (.tup []),h⟩ K)(hb:Nat.blt d n=true:=by exact rfl)(hg:A2 ops ⟨some d,op,ty,ps,af,some g⟩ e=some false:=by exact rfl):AOps P ops (⟨some d,op,ty,ps,af,some g⟩::rest) ⟨n,e,h⟩ K:=ak d hr rfl hb hg
theorem wS{b m k off sz:Nat}{p:Bool}{es:List (List AV)}{cs:List AV}{q:AV}{i:AD}(hT:DP P T)(hr:AOps P ops rest ⟨n,e,AB h [(b,.row p sz (es.set k (Er cs off q.cells)))]⟩ K)(hx:AA e x=some (.ptr b m k off):=by exact rfl)(hy:AA e y=some q:=by exact rfl)(hi:T t=some i:=by exact rfl)
 (hb:h b=some (.row p sz es):=by exact rfl) (hm:m=es.length:=by exact rfl) (hk:es[k]?=some cs:=by exact rfl) (hq:q.cells.length=i.size:=by exact rfl) (hfit:off+i.size<=sz:=by decide) (h1:q.cells.all AV.cell1=true:=by exact rfl) (hp:p=true->q.cells.all AV.isPure1=true:=by first|exact fun _=>rfl|(intro h;cases h)):
 AOps P ops (⟨none,.store t x y,ty,ps,af,none⟩::rest) ⟨n,e,h⟩ K:=AOps.w rfl rfl (BA hT rfl rfl hx hy hi hb hm hk hq hfit h1 hp) hr
theorem vS{b m k off sz:Nat}{p:Bool}{es:List (List AV)}{cs:List AV}{q:AV}{i:AD}(hT:DP P T)(hr:DOps P ops n rest e (AB h [(b,.row p sz (es.set k (Er cs off q.cells)))]) (acc++[([b],[b])]) K)(hx:AA e x=some (.ptr b m k off):=by exact rfl)(hy:AA e y=some q:=by exact rfl)(hi:T t=some i:=by exact rfl)
 (hb:h b=some (.row p sz es):=by exact rfl) (hm:m=es.length:=by exact rfl) (hk:es[k]?=some cs:=by exact rfl) (hq:q.cells.length=i.size:=by exact rfl) (hfit:off+i.size<=sz:=by decide) (h1:q.cells.all AV.cell1=true:=by exact rfl) (hp:p=true->q.cells.all AV.isPure1=true:=by first|exact fun _=>rfl|(intro h;cases h)):
 DOps P ops n (⟨none,.store t x y,ty,ps,af,none⟩::rest) e h acc K:=DOps.w rfl rfl (BA hT rfl rfl hx hy hi hb hm hk hq hfit h1 hp) hr
end
inductive Gs:Nat->Prop
  |mk (n:Nat):Gs n
theorem kn{n:Nat}(_:Gs (n+1)):Gs n:=.mk n
theorem wk(n:Nat){p q:Prop}(k:q)(w:Gs n->q->p:=by
 intro g_ k_;repeat(replace g_:=kn g_;first|refine aQ Aj 1 rfl ?_|refine an ?_|refine VQ ?_|refine kj ?_|refine act ?_|refine Ej ?_|refine eN ?_|refine wK ?_|refine I9 ?_|refine dQ Aj 1 rfl ?_|refine wS Aj ?_|refine DOps.nil Al ?_|refine YD nf ?_|refine AGo.block ?_|refine AGo.exit ?_|refine vS Aj ?_|refine aq _ Uu ?_|refine dq _ Uu ?_|refine ak _ ?_|refine dk _ ?_)
 exact k_):p:=w (.mk n) k
end Go.Proofs.YtmfihmkopmgelaaGreat.Sv
namespace Go.Proofs.YtmfihmkopmgelaaGreat.Sv
open Go Go.ChangeShapes Go.WideShapes Go.ChangeAt Go.RowKit
def Cf(W:World):AJ:=fun b=>match W.heap[b]? with
  |some (.cells c _ _)=>some c
  |_=>none
theorem QZ(W:World)(hg:GlobOk (Cf W)):PA (Cf W) W where
 know:=fun b c h=>by
  unfold Cf at h;split at h
  . rename_i c' T fr e;cases h;exact⟨T,fr,e⟩
  . cases h
 glob:=hg
theorem Gg{W:World}{a:Addr}{v:Value}(h:W.cell? a=some v):∃c,Cf W a.block=some c/\a.spot=none/\c[a.off]?=some v:=by
 unfold World.cell? at h;split at h
 . rename_i c T fr e;split at h
   . cases h
   . rename_i hs;refine⟨c,by simp[Cf,e],?_,h⟩
     cases e2:a.spot with
     |none=>rfl
     |some x=>simp[e2]at hs
 . cases h
def Reads(W:World)(cs:List Value)(xs:List AV):Prop:=xs.length=cs.length/\∀(j:Nat) (x:AV) (v:Value),xs[j]?=some x->cs[j]?=some v->Rel (Cf W) BI x v/\x.cell1=true
section
variable {H : Type}
def Dec(enc:TypeId×Value->H)(P:Program)(W:World)(t:TypeId){α:Type}(f:α->List AV)(Q:α->Prop):Prop:=
  ∀(fuel:Nat) (cs:List Value) (x:DataW H×List MemPlace),DataW.trod enc P W 0 (fun _=>true) true fuel t cs=some x->(x.1.weights P t).all (· <=reachBytes)=true->∃a,Reads W cs (f a)/\Q a
variable {enc : TypeId × Value -> H} {P : Program} {W : World} {t e : TypeId}
theorem Reads.one{v:Value}{x:AV}(h:Rel (Cf W) BI x v)(h1:x.cell1=true):Reads W [v] [x]:=⟨rfl,fun j y u hy hu=>by
 cases j with
 |zero=>simp at hy hu;subst hy;subst hu;exact⟨h,h1⟩
 |succ j=>simp at hy⟩
theorem Dec.int{k:IntKind}(ht:P.underlying t=some (.int k)):Dec enc P W t (fun n:Int=>[.int k n]) (fun n=>(Lit.int k n).wf=true):=fun fuel cs x h _=>by
 obtain⟨n,rfl,rfl,hw⟩:=DataW.trod_int ht h;exact⟨n,.one (.int _ _ _) rfl,hw⟩
theorem Dec.bool(ht:P.underlying t=some .bool):Dec enc P W t (fun b:Bool=>[.bool b]) (fun _=>True):=fun fuel cs x h _=>by
 obtain⟨b,rfl,rfl⟩:=DataW.trod_bool ht h;exact⟨b,.one (.bool _ _) rfl,trivial⟩
theorem Dec.string(ht:P.underlying t=some .string):Dec enc P W t (fun s:ByteArray=>[.str s]) (fun s=>s.size<=maxLen/\s.size<=reachBytes):=fun fuel cs x h hw=>by
 obtain⟨s,rfl,rfl,hs⟩:=DataW.trod_string ht h;refine⟨s,.one (.str _ _) rfl,hs,?_⟩;simpa[DataW.weights]using hw
theorem HK{α:Type}{R:Nat->α->Prop}:∀n:Nat,(∀i,i<n->∃a,R i a)->∃l:List α,l.length=n/\∀i a,l[i]?=some a->R i a
 |0,_=>⟨[],rfl,fun i a h=>by simp at h⟩
 |n+1,h=>by
  obtain⟨l,h1,h2⟩:=HK n (fun i hi=>h i Aa);obtain⟨a,ha⟩:=h n Aa;refine⟨l++[a],by simp[h1],fun i b hb=>?_⟩
  by_cases hi:i<n
  . rw[List.getElem?_append_left Aa]at hb;exact h2 i b hb
  . rw[List.getElem?_append_right Aa]at hb;have:i=n:=by
     rcases Nat.lt_or_ge (i-l.length) 1 with h|h
     . omega
     . rw[List.getElem?_eq_none Ko]at hb;cases hb
    subst this;simp[h1]at hb;subst hb;exact ha
theorem Fp:∀{ds:List (DataW H)} {d:DataW H} {i:Nat},(DataW.weightsAll P e ds).all (· <=reachBytes)=true->ds[i]?=some d->(d.weights P e).all (· <=reachBytes)=true
 | [],_,_,_,h=>by simp at h
 |d::r,d',0,hw,h=>by
  simp at h;subst h;simp only[DataW.weightsAll,List.all_append,Bool.and_eq_true]at hw;exact hw.1
 |d::r,d',i+1,hw,h=>by
  simp only[DataW.weightsAll,List.all_append,Bool.and_eq_true]at hw;exact Fp (ds:=r) hw.2 Ko
theorem Dec.slice{α:Type}{f:α->List AV}{Q:α->Prop}(ht:P.underlying t=some (.slice e))(hc:0<P.cellsOf e)(he:Dec enc P W e f Q):
 Dec enc P W t (fun l:List α=>[.lst false (l.map f)]) (fun l=>l.length*P.bytesOf e<=reachBytes/\∀a∈l,Q a):=fun fuel cs x h hw=>by
 rcases DataW.trod_slice ht h with⟨rfl,rfl⟩|⟨a,len,cap,elems,rest,n,rfl,rfl,rfl,hb,hl,hm,hlen,hel,hsp,hns⟩
 . exact⟨[],.one (.lst0 _ _ _ _ Em (Nat.zero_le _) (fun _=>rfl) trivial) rfl,by simp,fun a h=>by cases h⟩
 simp only[DataW.weights,ht,List.all_cons,List.all_append,Bool.and_eq_true,decide_eq_true_eq,List.length_map]at hw;obtain⟨w1,w2,w3⟩:=hw;have key:∀i,i<len->∃y,∃cs',W.cells? 0 (a.add (i*P.cellsOf e)) (P.cellsOf e)=some cs'/\Reads W cs' (f y)/\Q y:=fun i hi=>by
  have h1:=hel i hi;have hlt:i<elems.length:=by omega
  rw[List.getElem?_eq_getElem hlt]at h1;rw[Option.bind_eq_some_iff]at h1;obtain⟨cs',c1,c2⟩:=h1;obtain⟨y,y1,y2⟩:=he _ _ _ c2 (Fp w2 (i:=i) db);exact⟨y,cs',c1,y1,y2⟩
 obtain⟨l,l1,l2⟩:=HK len key;have hQ:∀y∈l,Q y:=fun y hy=>by
  obtain⟨i,hi⟩:=List.mem_iff_getElem?.1 hy;obtain⟨cs',_,_,q⟩:=l2 i y hi;exact q
 have hbytes:l.length*P.bytesOf e<=reachBytes:=by
  refine Nat.le_trans (Nat.mul_le_mul_right _ ?_) w1;omega
 refine⟨l,.one ?_ rfl,hbytes,hQ⟩
 by_cases h0:len=0
 . have:l=[]:=List.length_eq_zero_iff.1 Aa;subst this;subst h0;exact .lst0 _ _ _ _ Em hm Em trivial
 . obtain⟨y0,cs0,k1,k2,k3⟩:=key 0 Aa;obtain⟨_,m1,m2⟩:=World.cells?_some k1;have hz:cs0[0]?=some cs0[0]:=List.getElem?_eq_getElem Aa;have hcell:=m2 0 hc;rw[hz]at hcell;have ha0:(a.add (0*P.cellsOf e)).add 0=a:=by simp[Addr.add]
   rw[ha0]at hcell;obtain⟨c,hH,hspot,_⟩:=Gg hcell;obtain⟨ab,ao,asp⟩:=a;simp only at hspot hH;subst hspot;have hsz:∀(i:Nat) (xs:List AV),(l.map f)[i]?=some xs->xs.length=P.cellsOf e/\∀(j:Nat) (x:AV),xs[j]?=some x->∃v,c[ao+i*P.cellsOf e+j]?=some v/\Rel (Cf W) BI x v/\x.cell1=true:=fun i xs hi=>by
    exact fF
   have:=Rel.lst (H:=Cf W) BI false (l.map f) ab ao cap (P.cellsOf e) c (fun i j=>(c[ao+i*P.cellsOf e+j]?).getD undef) (fun hh=>by rw[List.map_eq_nil_iff]at hh;subst hh;simp at l1;omega) hH
    (fun i xs hi=>(hsz i xs hi).1) fV
    fY fX Em (by simp[l1];exact hl) hm
   rw[List.length_map,l1]at this;exact this
variable {T : Nat -> Option AD}
theorem FN{i:AD}(hT:DP P T)(hi:T t=some i):P.cellsOf t=i.size:=by
 obtain⟨info,d,e1,e2,e3,e4,e5,e6⟩:=Av (hT _ _ hi);simp[Program.cellsOf,e1,e4]
theorem MT{i:AD}(hT:DP P T)(hi:T t=some i):P.bytesOf t=i.bytes:=by
 obtain⟨info,d,e1,e2,e3,e4,e5,e6⟩:=Av (hT _ _ hi);simp[Program.bytesOf,e1,e5]
theorem HU{k:IntKind}{i:AD}(hT:DP P T)(hi:T t=some i)(hk:i.k=.int k):Dec enc P W t (fun n:Int=>[.int k n]) (fun n=>(Lit.int k n).wf=true):=by
 obtain⟨info,d,e1,e2,e3,e4,e5,e6⟩:=Av (hT _ _ hi);have hd:=OR (P:=P) (d:=d) (e3▸hk);subst hd;exact Dec.int e2
theorem VY{i:AD}(hT:DP P T)(hi:T t=some i)(hk:i.k=.bool):Dec enc P W t (fun b:Bool=>[.bool b]) (fun _=>True):=by
 obtain⟨info,d,e1,e2,e3,e4,e5,e6⟩:=Av (hT _ _ hi);have hd:=OS (P:=P) (d:=d) (e3▸hk);subst hd;exact Dec.bool e2
theorem D3{i:AD}(hT:DP P T)(hi:T t=some i)(hk:i.k=.string):Dec enc P W t (fun s:ByteArray=>[.str s]) (fun s=>s.size<=maxLen/\s.size<=reachBytes):=by
 obtain⟨info,d,e1,e2,e3,e4,e5,e6⟩:=Av (hT _ _ hi);have hd:=Fe (P:=P) (d:=d) (e3▸hk);subst hd;exact Dec.string e2
theorem Dec.slice'{α:Type}{f:α->List AV}{Q:α->Prop}{i j:AD}{u:Nat}(hT:DP P T)(hi:T t=some i)(hk:i.k=.slice u)(hj:T u=some j)(hp:0<j.size)(he:Dec enc P W u f Q):
 Dec enc P W t (fun l:List α=>[.lst false (l.map f)]) (fun l=>l.length*j.bytes<=reachBytes/\∀a∈l,Q a):=by
 obtain⟨info,d,e1,e2,e3,e4,e5,e6⟩:=Av (hT _ _ hi);have hd:=Cy (P:=P) (d:=d) (e3▸hk);subst hd;have:=Dec.slice (enc:=enc) (W:=W) e2 (by rw[FN hT hj];exact hp) he;rwa[MT hT hj]at this
theorem C2:∀{ts:List TypeId} {ds:List (DataW H)} {t:TypeId} {d:DataW H} {i:Nat},(DataW.weightsEach P ts ds).all (· <=reachBytes)=true->ts[i]?=some t->ds[i]?=some d->(d.weights P t).all (· <=reachBytes)=true
 | [],_,_,_,_,_,h,_=>by simp at h
 |_::_,[],_,_,_,_,_,h=>by simp at h
 |t::ts,d::ds,t',d',0,hw,h1,h2=>by
  simp at h1 h2;subst h1;subst h2;simp only[DataW.weightsEach,List.all_append,Bool.and_eq_true]at hw;exact hw.1
 |t::ts,d::ds,t',d',i+1,hw,h1,h2=>by
  simp only[DataW.weightsEach,List.all_append,Bool.and_eq_true]at hw;exact C2 (ts:=ts) (ds:=ds) hw.2 (by simpa using h1) (by simpa using h2)
def kk(enc:TypeId×Value->H)(P:Program)(W:World)(T:Nat->Option AD)(cs:List Value)(fs:List (Nat×Nat)):Prop:=
  ∀(i off u:Nat),fs[i]?=some (off,u)->∀{α:Type} {f:α->List AV} {Q:α->Prop},Dec enc P W u f Q->∃a,Reads W ((cs.drop off).take (P.cellsOf u)) (f a)/\Q a
theorem GN{i:AD}{fs:List (Nat×Nat)}(hT:DP P T)(hi:T t=some i)(hk:i.k=.struct fs){fuel:Nat}{cs:List Value}{x:DataW H×List MemPlace}(h:DataW.trod enc P W 0 (fun _=>true) true fuel t cs=some x)(hw:(x.1.weights P t).all (· <=reachBytes)=true):
 cs.length=i.size/\kk enc P W T cs fs:=by
 obtain⟨info,d,e1,e2,e3,e4,e5,e6⟩:=Av (hT _ _ hi);obtain⟨A,rfl,rfl,_⟩:=Ep (P:=P) (d:=d) (e3▸hk);obtain⟨xs,n,rfl,rfl,hl,hxl,hx⟩:=DataW.trod_struct e2 h;refine⟨by rw[hl,FN hT hi],fun j off u hj α f Q hd=>?_⟩;rw[List.getElem?_map,Option.map_eq_some_iff]at hj;obtain⟨F,hF,hF2⟩:=hj;simp only[Prod.mk.injEq]at hF2;obtain⟨rfl,rfl⟩:=hF2;have hFa:A[j]?=some F:=by simpa using hF
 have hjlt:j<xs.length:=by rw[hxl];exact(Array.getElem?_eq_some_iff.1 hFa).1
 have h1:=hx j F hFa;rw[List.getElem?_eq_getElem hjlt]at h1;simp only[DataW.weights,e2]at hw;exact hd _ _ _ h1 (C2 hw (i:=j) (by rw[List.getElem?_map,hF];rfl) (by rw[List.getElem?_map,List.getElem?_eq_getElem hjlt];rfl))
theorem Reads.nil(W:World)(cs:List Value):Reads W (cs.take 0) []:=⟨by simp,fun j x v h=>by simp at h⟩
theorem Reads.app{cs:List Value}{off n:Nat}{xs ys:List AV}(h1:Reads W (cs.take off) xs)(h2:Reads W ((cs.drop off).take n) ys)(ho:off<=cs.length):Reads W (cs.take (off+n)) (xs++ys):=by
 have hl1:xs.length=off:=by rw[h1.1,List.length_take];omega
 refine⟨by rw[List.length_append,h2.1,hl1];simp only[List.length_take,List.length_drop];omega,fun j x v hx hv=>?_⟩;rw[List.take_add]at hv
 by_cases hj:j<off
 . rw[List.getElem?_append_left Aa]at hx;rw[List.getElem?_append_left (by rw[List.length_take];omega)]at hv;exact h1.2 j x v hx hv
 . rw[List.getElem?_append_right Aa]at hx;rw[List.getElem?_append_right (by rw[List.length_take];omega)]at hv;have hll:(List.take off cs).length=off:=by rw[List.length_take];omega
   rw[hll]at hv;rw[hl1]at hx;exact h2.2 _ x v hx hv
theorem Reads.all{cs:List Value}{n:Nat}{xs:List AV}(h:Reads W (cs.take n) xs)(hn:cs.length=n):Reads W cs xs:=by
 rwa[List.take_of_length_le Aa]at h
theorem Ue{α:Type}{f:α->List AV}{Q:α->Prop}{v:Value}{d:DataW H}{ps:List MemPlace}(h:DataW.Trod enc P W 0 (fun _=>true) true t v d ps)(hw:(d.weights P t).all (· <=reachBytes)=true)(hd:Dec enc P W t f Q):∃a,Reads W v.cells.toList (f a)/\Q a:=by
 obtain⟨fuel,hf⟩:=h;exact hd _ _ _ hf hw
theorem Reads.val{v:Value}{xs:List AV}(h:Reads W v.cells.toList xs)(hv:∃cs,v=.agg cs):Rel (Cf W) BI (.agg xs) v:=by
 obtain⟨cs,rfl⟩:=hv;exact .agg _ _ _ (by simpa[Value.cells]using h.1) fun j x u h1 h2=>(h.2 j x u h1 (by simpa[Value.cells]using h2)).1
theorem Reads.val1{v:Value}{x:AV}(h:Reads W v.cells.toList [x])(hv:∀cs,v≠ .agg cs):Rel (Cf W) BI x v:=by
 have hc:v.cells.toList=[v]:=by cases v<;>first|rfl|exact absurd rfl (hv _)
 rw[hc]at h;exact(h.2 0 x v rfl rfl).1
theorem Su{b0:Nat}{v:Value}{i:AD}{fs:List (Nat×Nat)}(hT:DP P T)(hi:T t=some i)(hk:i.k=.struct fs)(h:Value.okWide P W .any b0 t v):∃cs,v=.agg cs:=by
 obtain⟨info,d,e1,e2,e3,e4,e5,e6⟩:=Av (hT _ _ hi);obtain⟨A,rfl,_,_⟩:=Ep (P:=P) (d:=d) (e3▸hk);unfold Value.okWide at h;rw[e2]at h;obtain⟨cs,h1,_⟩:=h;exact⟨cs,h1⟩
theorem Grow.kept{H0 H':AJ}{W W':World}(g:Grow H0 W H' W')(may:MemPlace->Prop):W.keptBut W' may:=by
 refine⟨g.os,g.out,fun i hi=>?_⟩;rw[g.keep i hi];split<;>simp_all
theorem W5{f:Func}{s:ChangeSpec}{apart fresh handsOn:Bool}{W W':World}{args:Array Value}{v:Value}{ds gs:List (DataW H)}{before pa pv:List MemPlace}
 (hW:DataW.Whole enc P f.params.toList s.vars apart W args.toList ds gs before)
 (hres:∀(b:Nat) (sp:Nat->Bool) (hd:Bool),DataW.TrodAll enc P W' b sp hd f.resultTypes.toList (v.resultList f.resultTypes.size) (s.fn H (ds++gs)).results [])
 (hargs:∀sp:Nat->Bool,(∀p∈before,sp p.block=true)->DataW.TrodAll enc P W' 0 sp true f.params.toList args.toList (s.fn H (ds++gs)).args pa)
 (hvars:∀sp:Nat->Bool,(∀p∈before,sp p.block=true)->DataW.TrodVars enc P W' sp s.vars (s.fn H (ds++gs)).vars pv)
 (hps:before=pa++pv) (hk:∀may:MemPlace->Prop,W.keptBut W' may):s.post enc P f apart fresh handsOn false W args v W':=by
 have hold:∀p∈before,(fun b=>decide (b<W.heap.size)) p.block=true:=fun p hp=>by simpa using hW.lt p hp
 exact⟨ds,gs,before,[],pa,pv,hW,hres _ _ _,hargs _ hold,hvars _ hold,hk _,fun h=>by cases h⟩
theorem Iv(hl:laidOutB P=true){W':World}{sp:Nat->Bool}:∀{ts:List TypeId} {vs:List Value} {ds:List (DataW H)} {ps:List MemPlace},ts.all (fun t=>P.readableRec t&&decide (t<P.types.size))=true->
 DataW.TrodAll enc P W 0 (fun _=>true) true ts vs ds ps->(∀p∈ps,W.sameAt W' p)->(∀p∈ps,sp p.block=true)->DataW.TrodAll enc P W' 0 sp true ts vs ds ps
 | [],vs,ds,ps,_,h,_,_=>by
  obtain⟨rfl,rfl,rfl⟩:=trodAll_nil h;rfl
 |t::ts,vs,ds,ps,hr,h,h1,h2=>by
  obtain⟨v,vs',d,ds',p,q,rfl,rfl,rfl,hd,hrest⟩:=trodAll_cons h;simp only[List.all_cons,Bool.and_eq_true,decide_eq_true_eq]at hr;exact⟨p,q,WideElems.Trod_stays hl hr.1.1 hr.1.2 hd (fun x hx=>h1 x (by simp[hx])) (fun x hx=>h2 x (by simp[hx])),Iv hl hr.2 hrest (fun x hx=>h1 x (by simp[hx])) (fun x hx=>h2 x (by simp[hx])),rfl⟩
theorem Grow.same{H0 H':AJ}{W W':World}(g:Grow H0 W H' W'){p:MemPlace}(hp:p.block<W.heap.size):W.sameAt W' p:=by
 cases p with
 |cell b off=>
  have:=g.keep b hp;show W'.cell? _=W.cell? _;unfold World.cell?;simp only[this]
 |map b=>exact g.keep b hp
theorem Vc{f:FuncId}{fn:Func}{s:ChangeSpec}{args:Array Value}{ds gs:List (DataW H)}{before:List MemPlace}{tb:TypeId}{xs:List AV}(hl:laidOutB P=true)(hvs:s.vars=[])(hr:fn.params.toList.all (fun t=>P.readableRec t&&decide (t<P.types.size))=true)
 (hres:fn.resultTypes= #[tb]) (hb:P.underlying tb=some .bool) (hs1:(s.fn H (ds++gs)).results=[.lit (.bool true)]) (hs2:(s.fn H (ds++gs)).args=ds) (hs3:(s.fn H (ds++gs)).vars=[])
 (hW:DataW.Whole enc P fn.params.toList s.vars false W args.toList ds gs before) (hrel:RelAll (Cf W) BI xs args) (hc:APure P f xs (fun r=>r=.bool true)) (hg:GlobOk (Cf W)) {fresh handsOn:Bool}:
 Calls P f args W fun e W'=>∃v,e=.returned v/\s.post enc P fn false fresh handsOn false W args v W':=by
 have hW':=hW;obtain⟨p,q,hA,hV,rfl,hfz,hnd⟩:=hW;rw[hvs]at hV;obtain⟨rfl,rfl⟩:=trodVars_none hV;have hlt:∀x∈p++[],x.block<W.heap.size:=fun x hx=>hW'.lt x hx
 refine(hc (Cf W) W args hrel (QZ W hg)).mono fun e W' hx=>?_
 obtain⟨v,r,H',rfl,rfl,h3,h4⟩:=hx;have hv:=h3.bool_inv;subst hv;refine⟨_,rfl,W5 (pa:=p) (pv:=[]) hW' (fun b sp hd=>?_) (fun sp hsp=>?_) (fun sp hsp=>?_) rfl (fun may=>h4.kept may)⟩
 . rw[hs1,hres];exact trodAll_mk1 (shut_bool hb true)
 . rw[hs2];exact Iv hl hr hA (fun x hx=>h4.same (hlt x (by simp[hx]))) (fun x hx=>hsp x (by simp[hx]))
 . rw[hs3,hvs];rfl
theorem RelAll.nil{K:AJ}{ι:Bi}:RelAll K ι [] #[]:=⟨rfl,fun j x v h=>by simp at h⟩
theorem RelAll.cons{K:AJ}{ι:Bi}{x:AV}{xs:List AV}{v:Value}{vs:List Value}(h:Rel K ι x v)(hs:RelAll K ι xs ⟨vs⟩):RelAll K ι (x::xs) ⟨v::vs⟩:=by
 refine⟨by have:=hs.1;simp at this|-;exact this,fun j y u h1 h2=>?_⟩
 cases j with
 |zero=>simp at h1 h2;subst h1;subst h2;exact h
 |succ j=>exact hs.2 j y u (by simpa using h1) (by simpa using h2)
end
end Go.Proofs.YtmfihmkopmgelaaGreat.Sv
namespace Go.Proofs.YtmfihmkopmgelaaGreat.Sv
open Go
def setsOp(op:Int):Bool:=op==1||(op==2||(op==3||(op==4||(op==6||op==8))))
def Tac.sets(t:Tac):Int:=bif setsOp t.op then t.d else -1
def use1(op:Int):Bool:=op==2||(op==5||(op==6||op==9))
def use2(op:Int):Bool:=op==3||op==7
def Tac.uses(t:Tac):List Int:=bif use1 t.op then [t.a]else bif use2 t.op then [t.a,t.b]else []
theorem Wx(t:Tac):t.uses.length<=2:=by
 unfold Tac.uses
 cases use1 t.op<;>cases use2 t.op<;>simp
def A4(i n:Int):Bool:=decide (0<=i)&&decide (i<n)
theorem TC(op:Int):(use1 op&&use2 op)=false:=by
 rw[Bool.eq_false_iff];intro h;simp only[use1,use2,Bool.and_eq_true,Bool.or_eq_true,beq_iff_eq]at h;omega
def HR(op:Int):Bool:=op==4||op==5
def KU(op:Int):Bool:=op==6||op==7
def Tac.want(t:Tac):Tac where
  op:=t.op
  d:=bif setsOp t.op then t.d else 0
  a:=bif use1 t.op||use2 t.op then t.a else 0
  b:=bif use2 t.op then t.b else 0
  k:=bif t.op==3 then t.k else 0
  base:=bif HR t.op||(KU t.op||t.op==10)then t.base else 0
  size:=bif KU t.op then t.size else 0
  n:=bif t.op==1 then t.n else 0
def Tac.same(x y:Tac):Bool:=x.op==y.op&&(x.d==y.d&&(x.a==y.a&&(x.b==y.b&&(x.k==y.k&&(x.base==y.base&&(x.size==y.size&&(x.n==y.n&&true)))))))
theorem Py(x y:Tac):x.same y=true↔x=y:=by
 have h1:=Tac.eqCells x y;have h2:Sv.eqCells x.cells y.cells=some (x.same y):=rfl;rw[h1]at h2;have h3:decide (x=y)=x.same y:=by simpa using h2
 rw[<-h3,decide_eq_true_iff]
def Tac.rest(t:Tac)(f words:Int):Bool:=
  bif t.op==3 then decide (4<=t.k)&&decide (t.k<=15)
  else bif HR t.op then A4 t.base words
  else bif KU t.op then decide (1<=t.size)&&(decide (t.size<=4096)&&(decide (0<=t.base)&&decide (t.base<=words-t.size)))
  else bif t.op==10 then A4 t.base f
  else true
def Tac.fits(t:Tac)(f regs words:Int):Bool:=
  decide (1<=t.op)&&(decide (t.op<=10)&&((!setsOp t.op||A4 t.d regs)&&(t.uses.all (fun r=>A4 r regs)&&(t.rest f words&&t.same t.want))))
theorem Qd{t:Tac}(h:decide (t.sets>=0)=true):setsOp t.op=true:=by
 unfold Tac.sets at h
 cases e:setsOp t.op with
 |true=>rfl
 |false=>rw[e]at h;simp at h
theorem ZR{t:Tac}{f regs words:Int}(h:¬(1<=t.op/\t.op<=10)):t.fits f regs words=false:=by
 rw[Bool.eq_false_iff];intro h2;simp only[Tac.fits,Bool.and_eq_true,decide_eq_true_eq]at h2;exact h ⟨h2.1,h2.2.1⟩
theorem eu{t:Tac}{f regs words:Int}(h:setsOp t.op=true)(h2:A4 t.d regs=false):t.fits f regs words=false:=by
 simp[Tac.fits,h,h2]
theorem XO{t:Tac}{f regs words:Int}(h:t.uses.all (fun r=>A4 r regs)=false):t.fits f regs words=false:=by
 simp only[Tac.fits,h,Bool.false_and,Bool.and_false]
theorem Oj{t:Tac}{f regs words:Int}(h:t.rest f words=false):t.fits f regs words=false:=by
 simp only[Tac.fits,h,Bool.false_and,Bool.and_false]
theorem Vj{t:Tac}{f regs words:Int}(h1:decide (t.op<1)=false)(h2:decide (t.op>10)=false)(hd:(!setsOp t.op||A4 t.d regs)=true)(hu:t.uses.all (fun r=>A4 r regs)=true)(hr:t.rest f words=true):t.fits f regs words=t.same t.want:=by
 have h1':decide (1<=t.op)=true:=by simp at h1|-;omega
 have h2':decide (t.op<=10)=true:=by simp at h2|-;omega
 simp only[Tac.fits,h1',h2',hd,hu,hr,Bool.true_and]
def Block.ends(b:Block)(blocks regs:Int):Bool:=
  bif b.fin==1 then A4 b.to blocks&&(b.v==0&&b.els==0)
  else bif b.fin==2 then A4 b.to blocks&&(A4 b.els blocks&&A4 b.v regs)
  else b.fin==3&&(b.v==0&&(b.to==0&&b.els==0))
def Block.ok(x:Block)(blocks regs number words:Int):Bool:=x.ends blocks regs&&x.ins.all (fun t=>t.fits number regs words)
def BFunc.one(f:BFunc)(number words:Int):Bool:=
  decide (0<=f.regs)&&(decide (f.regs<=4000)&&(!f.blocks.isEmpty&&f.blocks.all (fun x=>x.ok f.blocks.length f.regs number words)))
def Blocks.right(b:Blocks):Bool:=
  decide (0<=b.words)&&(decide (b.words<=1048576)&&(!b.funcs.isEmpty&&b.funcs.zipIdx.all (fun p=>p.1.one (p.2:Int) b.words)))
theorem Zs{f:BFunc}{number words:Int}(h:¬(0<=f.regs/\f.regs<=4000/\f.blocks.length≠0)):f.one number words=false:=by
 rw[Bool.eq_false_iff];intro h2;simp only[BFunc.one,Bool.and_eq_true,decide_eq_true_eq,Bool.not_eq_true',List.isEmpty_eq_false_iff]at h2;exact h ⟨h2.1,h2.2.1,fun e=>h2.2.2.1 (List.length_eq_zero_iff.1 e)⟩
theorem O8{f:BFunc}{number words:Int}(h1:0<=f.regs)(h2:f.regs<=4000)(h3:f.blocks.length≠0):f.one number words=f.blocks.all (fun x=>x.ok f.blocks.length f.regs number words):=by
 have h3':f.blocks.isEmpty=false:=by
  rw[List.isEmpty_eq_false_iff];intro e;rw[e]at h3;exact h3 rfl
 simp only[BFunc.one,decide_eq_true h1,decide_eq_true h2,h3',Bool.not_false,Bool.true_and]
theorem UO{b:Blocks}(h:¬(0<=b.words/\b.words<=1048576/\b.funcs.length≠0)):b.right=false:=by
 rw[Bool.eq_false_iff];intro h2;simp only[Blocks.right,Bool.and_eq_true,decide_eq_true_eq,Bool.not_eq_true',List.isEmpty_eq_false_iff]at h2;exact h ⟨h2.1,h2.2.1,fun e=>h2.2.2.1 (List.length_eq_zero_iff.1 e)⟩
theorem NK{b:Blocks}(h1:0<=b.words)(h2:b.words<=1048576)(h3:b.funcs.length≠0):b.right=b.funcs.zipIdx.all (fun p=>p.1.one (p.2:Int) b.words):=by
 have h3':b.funcs.isEmpty=false:=by
  rw[List.isEmpty_eq_false_iff];intro e;rw[e]at h3;exact h3 rfl
 simp only[Blocks.right,decide_eq_true h1,decide_eq_true h2,h3',Bool.not_false,Bool.true_and]
theorem Dl{α:Type}{l:List α}{p:α->Bool}{k:Nat}{x:α}(hx:l[k]?=some x)(h:(l.take k).all p=true)(hp:p x=true):(l.take (k+1)).all p=true:=by
 rw[AZ hx,List.all_append,h];simp[hp]
theorem Bp{α:Type}{l:List α}{p:α->Bool}{k:Nat}{x:α}(hx:l[k]?=some x)(hp:p x=false):l.all p=false:=by
 rw[Bool.eq_false_iff];intro h;rw[List.all_eq_true.1 h x (List.mem_of_getElem? hx)]at hp
 cases hp
theorem BB{α:Type}{l:List α}{p:α->Bool}{k:Nat}(h:(l.take k).all p=true)(hk:l.length<=k):l.all p=true:=by
 rwa[List.take_of_length_le hk]at h
theorem WC{α:Type}{l:List α}{p:α->Nat}{k:Nat}{x:α}(hx:l[k]?=some x):((l.take (k+1)).map p).sum=((l.take k).map p).sum+p x:=by
 rw[AZ hx,List.map_append,List.sum_append];simp
theorem BK{α:Type}{l:List α}{k:Nat}{x:α}(hx:l[k]?=some x):l.zipIdx[k]?=some (x,k):=by
 rw[List.getElem?_zipIdx,hx];simp
def Jc(op a b:Int):Int×Int:=bif b==0 then(0,14)else bif op==7 then(IntKind.u32.wrap (a.tdiv b),0)else(a.tmod b,0)
def Gd(op a b:Int):Int:=bif decide (b>31)then 0 else bif op==12 then IntKind.u32.wrap (a*2^(min b.toNat IntKind.u32.bits))else a.fdiv (2^(min b.toNat IntKind.u32.bits))
def Ea(op a b:Int):Int:=bif (op==14&&decide (a<b))||(op==15&&a==b)then 1 else 0
def BG(op a b:Int):Int×Int:=
  bif op==4 then(IntKind.u32.wrap (a+b),0)
  else bif op==5 then(IntKind.u32.wrap (a-b),0)
  else bif op==6 then(IntKind.u32.wrap (a*b),0)
  else bif op==7||op==8 then Jc op a b
  else bif op==9 then(IntKind.u32.wrap ((BitVec.ofInt IntKind.u32.bits a&&&BitVec.ofInt IntKind.u32.bits b).toNat),0)
  else bif op==10 then(IntKind.u32.wrap ((BitVec.ofInt IntKind.u32.bits a|||BitVec.ofInt IntKind.u32.bits b).toNat),0)
  else bif op==11 then(IntKind.u32.wrap ((BitVec.ofInt IntKind.u32.bits a^^^BitVec.ofInt IntKind.u32.bits b).toNat),0)
  else bif op==12||op==13 then(Gd op a b,0)
  else bif op==14||op==15 then(Ea op a b,0)
  else(0,1)
def bV(p:Int×Int):AV:=.tup [.int .u32 p.1,.int .i64 p.2]
def CW(n:Int):Prop:=0<=n/\n<4294967296
theorem EK(n:Int):CW (IntKind.u32.wrap n):=by
 rw[IntKind.wrap_u32];constructor<;>omega
theorem Fd{op a b:Int}(ha:CW a)(hb:CW b):CW (BG op a b).1:=by
 unfold BG
 cases op==4<;>simp only[cond_true,cond_false]<;>try exact EK _
 cases op==5<;>simp only[cond_true,cond_false]<;>try exact EK _
 cases op==6<;>simp only[cond_true,cond_false]<;>try exact EK _
 cases op==7||op==8
 . simp only[cond_false]
   cases op==9<;>simp only[cond_true,cond_false]<;>try exact EK _
   cases op==10<;>simp only[cond_true,cond_false]<;>try exact EK _
   cases op==11<;>simp only[cond_true,cond_false]<;>try exact EK _
   cases op==12||op==13
   . simp only[cond_false]
     cases op==14||op==15
     . simp only[cond_false];constructor<;>omega
     . simp only[cond_true,Ea]
       cases (op==14&&decide (a<b))||(op==15&&a==b)<;>simp only[cond_true,cond_false]<;>constructor<;>omega
   . simp only[cond_true,Gd]
     cases decide (b>31)<;>simp only[cond_true,cond_false]
     . cases op==12<;>simp only[cond_true,cond_false]
       . have hp:(0:Int)<2^(min b.toNat IntKind.u32.bits):=Int.pow_pos Aa;rw[Int.fdiv_eq_ediv_of_nonneg _ (Int.le_of_lt hp)];refine⟨Int.ediv_nonneg ha.1 (Int.le_of_lt hp),?_⟩;have:=Int.ediv_le_self (2^(min b.toNat IntKind.u32.bits)) ha.1;have:=ha.2;omega
       . exact EK _
     . constructor<;>omega
 . simp only[cond_true,Jc]
   cases hz:b==0<;>simp only[cond_true,cond_false]
   . cases op==7<;>simp only[cond_true,cond_false]
     . rw[Int.tmod_eq_emod_of_nonneg ha.1];have hb0:b≠0:=by simpa using hz
       refine⟨Int.emod_nonneg _ hb0,?_⟩;have:=Int.emod_lt_of_pos a (show 0<b by have:=hb.1;omega);have:=hb.2;omega
     . exact EK _
   . constructor<;>omega
abbrev mG:=List (Int×Int)
def nm(K:mG):km:=K.map fun p=>(p.1,AV.int .u32 p.2)
theorem isW_zero:CW 0:=by constructor<;>omega
section
variable {P : Program} {T : Nat -> Option AD} {o : Oper} {e : AN} {h : Ag}
end
def XE(l:List Tac):Prop:=∀t∈l,CW t.n
end Go.Proofs.YtmfihmkopmgelaaGreat.Sv
namespace Go.Proofs.YtmfihmkopmgelaaGreat.Sv
open Go Go.ChangeShapes Go.WideShapes Go.ChangeAt Go.RowKit
def GJ(n:Int):Prop:= -9223372036854775808<=n/\n<=9223372036854775807
theorem OM{n:Int}(h:(Lit.int .i64 n).wf=true):GJ n:=by
 simpa[Lit.wf,IntKind.min,IntKind.max,IntKind.signed,IntKind.bits,GJ]using h
theorem dh{n:Int}(h:(Lit.int .u32 n).wf=true):CW n:=by
 simp[Lit.wf,IntKind.min,IntKind.max,IntKind.signed,IntKind.bits]at h;exact⟨h.1,by omega⟩
structure Tac.Ok(t:Tac):Prop where
  op:GJ t.op
  d:GJ t.d
  a:GJ t.a
  b:GJ t.b
  k:GJ t.k
  base:GJ t.base
  size:GJ t.size
  n:CW t.n
structure Block.Ok(x:Block):Prop where
  len:x.ins.length*64<=reachBytes
  ins:∀t∈x.ins,t.Ok
  fin:GJ x.fin
  v:GJ x.v
  to:GJ x.to
  els:GJ x.els
structure BFunc.Ok(f:BFunc):Prop where
  regs:GJ f.regs
  len:f.blocks.length*56<=reachBytes
  blocks:∀x∈f.blocks,x.Ok
structure Blocks.Ok(b:Blocks):Prop where
  words:GJ b.words
  len:b.funcs.length*32<=reachBytes
  funcs:∀f∈b.funcs,f.Ok
section
variable {H : Type} {enc : TypeId × Value -> H} {P : Program} {W : World} {T : Nat -> Option AD}
theorem GG{cs:List Value}{off u:Nat}{xs ys:List AV}{j:AD}(hT:DP P T)(hj:T u=some j){n:Nat}(hn:j.size=n)(h1:Reads W (cs.take off) xs)(h2:Reads W ((cs.drop off).take (P.cellsOf u)) ys)(ho:off<=cs.length):Reads W (cs.take (off+n)) (xs++ys):=by
 rw[FN hT hj,hn]at h2;exact h1.app h2 ho
end
theorem LM{b:Blocks}(h:b.right=true):0<=b.words/\b.words<=1048576/\b.funcs≠[]/\∀(i:Nat) (f:BFunc),b.funcs[i]?=some f->f.one (i:Int) b.words=true:=by
 simp only[Blocks.right,Bool.and_eq_true,decide_eq_true_eq,Bool.not_eq_true',List.isEmpty_eq_false_iff]at h;exact⟨h.1,h.2.1,h.2.2.1,fun i f hf=>List.all_eq_true.1 h.2.2.2 (f,i) (List.mem_of_getElem? (BK hf))⟩
theorem Xc{f:BFunc}{i w:Int}(h:f.one i w=true):0<=f.regs/\f.regs<=4000/\f.blocks≠[]/\∀x∈f.blocks,x.ends f.blocks.length f.regs=true/\∀t∈x.ins,t.fits i f.regs w=true:=by
 simp only[BFunc.one,Bool.and_eq_true,decide_eq_true_eq,Bool.not_eq_true',List.isEmpty_eq_false_iff]at h;refine⟨h.1,h.2.1,h.2.2.1,fun x hx=>?_⟩;have:=List.all_eq_true.1 h.2.2.2 x hx;simp only[Block.ok,Bool.and_eq_true]at this;exact⟨this.1,fun t ht=>List.all_eq_true.1 this.2 t ht⟩
theorem SL{α:Type}{p:α->Nat}:∀{l:List α} {x:α},x∈l->p x<=(l.map p).sum
 |y::l,x,h=>by
  rcases List.mem_cons.1 h with rfl|h
  . simp
  . have:=SL (p:=p) h;simp;omega
end Go.Proofs.YtmfihmkopmgelaaGreat.Sv
namespace Go.Proofs.YtmfihmkopmgelaaGreat
open Go.ChangeShapes Go.WideShapes Go.ChangeAt Go.RowKit Sv
theorem own':ownKnob Tryz.prog.godebug=none:=by kernel_rfl
theorem laidOut':laidOutB Tryz.prog=true:=by kernel_rfl
theorem bool':Tryz.prog.underlying 4=some .bool:=by kernel_rfl
section
variable {H : Type} {enc : TypeId × Value -> H} {W : World}
end
end Go.Proofs.YtmfihmkopmgelaaGreat
namespace Go.Proofs.YtmfihmkopmgelaaGreat
open Go.ChangeShapes Go.WideShapes Go.ChangeAt Go.RowKit Sv
theorem okWide_cellS{P:Program}{W:World}{T:Nat->Option AD}{t b0:Nat}{v:Value}{i:AD}(hT:DP P T)(hi:T t=some i)(hk:i.k=.string)(h:Value.okWide P W .any b0 t v):∀cs,v≠ .agg cs:=by
 obtain⟨info,d,e1,e2,e3,e4,e5,e6⟩:=Av (hT _ _ hi);have hd:=Fe (P:=P) (d:=d) (e3▸hk);subst hd;obtain⟨s,rfl⟩:=okWide_string e2 h;intro cs h
 cases h
section
variable {H : Type} {enc : TypeId × Value -> H} {W : World}
theorem decStr:Dec enc Tryz.prog W 9 (fun s:ByteArray=>[.str s]) (fun s=>s.size<=maxLen/\s.size<=reachBytes):=D3 Aj rfl rfl
end
end Go.Proofs.YtmfihmkopmgelaaGreat
namespace Go.Proofs.YtmfihmkopmgelaaGreat.Sv
open Go
def valB:List Nat->Nat
  | []=>0
  |b::r=>b+2*valB r
theorem Jd:∀(l:List Nat) (j:Nat),(∀b∈l,b<2)->(valB l).testBit j=((l[j]?).getD 0==1)
 | [],j,_=>by simp[valB]
 |b::r,0,h=>by
  have hb:=h b At
  grind[valB]
 |b::r,j+1,h=>by
  have hb:=h b At;have ih:=Jd r j (fun c hc=>h c (by simp[hc]))
  grind[valB]
theorem TA:∀(l:List Nat),(∀b∈l,b<2)->valB l<2^l.length
 | [],_=>by simp[valB]
 |b::r,h=>by
  have hb:=h b At;have ih:=TA r (fun c hc=>h c (by simp[hc]))
  grind[valB]
def DG(n k:Nat):List Nat:=(List.range k).map fun i=>n/2^i%2
theorem Kj{n k i:Nat}(h:i<k):(DG n k)[i]?=some (n/2^i%2):=by
 simp[DG,h]
def VB(op:Int)(x y:Nat):Nat:=bif (x+y==2&&op !=11)||(!(x+y==2&&op !=11)&&(x+y==1&&op !=9))then 1 else 0
def Eh(op:Int)(a b:Nat):List Nat:=(List.range 32).map fun i=>VB op (a/2^i%2) (b/2^i%2)
theorem Yh(op:Int)(x y:Nat):VB op x y<2:=by
 grind[VB]
theorem DR(n i:Nat):n.testBit i=(n/2^i%2==1):=by
 grind
theorem Gk{op:Int}{a b j:Nat}:(valB (Eh op a b)).testBit j=(decide (j<32)&&(VB op (a/2^j%2) (b/2^j%2)==1)):=by
 grind[Jd,Eh,Yh,valB,VB]
theorem Yf{a b:Nat}(ha:a<2^32)(hb:b<2^32):valB (Eh 9 a b)=a&&&b:=by
 apply Nat.eq_of_testBit_eq;intro j;rw[Gk,Nat.testBit_and,DR a,DR b]
 by_cases hj:j<32
 . rcases(by omega:a/2^j%2=0\/a/2^j%2=1)with h1|h1<;>rcases(by omega:b/2^j%2=0\/b/2^j%2=1)with h2|h2<;>simp[h1,h2,hj,VB]
 . have:a/2^j=0:=Nat.div_eq_of_lt (Nat.lt_of_lt_of_le ha (Nat.pow_le_pow_right Ab Aa));simp[hj,this]
theorem ac{a b:Nat}(ha:a<2^32)(hb:b<2^32):valB (Eh 10 a b)=a|||b:=by
 apply Nat.eq_of_testBit_eq;intro j;rw[Gk,Nat.testBit_or,DR a,DR b];exact fi
theorem Ye{a b:Nat}(ha:a<2^32)(hb:b<2^32):valB (Eh 11 a b)=a^^^b:=by
 apply Nat.eq_of_testBit_eq;intro j;rw[Gk,Nat.testBit_xor,DR a,DR b];exact fi
theorem H9{a:Int}(h:CW a):BitVec.ofInt IntKind.u32.bits a=BitVec.ofNat 32 a.toNat:=by
 obtain⟨h1,h2⟩:=h;obtain⟨n,rfl⟩:=Int.eq_ofNat_of_zero_le h1;show BitVec.ofInt 32 (n:Int)=_
 grind
theorem dg{n:Nat}(h:n<2^32):IntKind.u32.wrap (n:Int)=(n:Int):=by
 rw[IntKind.wrap_u32];omega
theorem Xl{a:Int}(h:CW a):a.toNat<2^32:=by
 grind[CW]
theorem Vy{op a b:Int}(ha:CW a)(hb:CW b)(ho:op=9\/op=10\/op=11):BG op a b=((valB (Eh op a.toNat b.toNat):Int),0):=by
 have h1:=Xl ha;have h2:=Xl hb;have e1:(BitVec.ofNat 32 a.toNat).toNat=a.toNat:=by rw[BitVec.toNat_ofNat];omega
 have e2:(BitVec.ofNat 32 b.toNat).toNat=b.toNat:=by rw[BitVec.toNat_ofNat];omega
 rcases ho with rfl|rfl|rfl
 . have:BG 9 a b=(IntKind.u32.wrap ((BitVec.ofInt IntKind.u32.bits a&&&BitVec.ofInt IntKind.u32.bits b).toNat),0):=rfl;rw[this,H9 ha,H9 hb,Yf h1 h2];have h3:(BitVec.ofNat 32 a.toNat&&&BitVec.ofNat 32 b.toNat).toNat=a.toNat&&&b.toNat:=by rw[BitVec.toNat_and,e1,e2]
   exact V7
 . have:BG 10 a b=(IntKind.u32.wrap ((BitVec.ofInt IntKind.u32.bits a|||BitVec.ofInt IntKind.u32.bits b).toNat),0):=rfl;rw[this,H9 ha,H9 hb,ac h1 h2];have h3:(BitVec.ofNat 32 a.toNat|||BitVec.ofNat 32 b.toNat).toNat=a.toNat|||b.toNat:=by rw[BitVec.toNat_or,e1,e2]
   exact V7
 . have:BG 11 a b=(IntKind.u32.wrap ((BitVec.ofInt IntKind.u32.bits a^^^BitVec.ofInt IntKind.u32.bits b).toNat),0):=rfl;rw[this,H9 ha,H9 hb,Ye h1 h2];have h3:(BitVec.ofNat 32 a.toNat^^^BitVec.ofNat 32 b.toNat).toNat=a.toNat^^^b.toNat:=by rw[BitVec.toNat_xor,e1,e2]
   exact V7
def shN(op:Int):Nat->Nat->Nat
  |n,0=>n
  |n,k+1=>bif op==12 then 2*shN op n k%4294967296 else shN op n k/2
theorem OX{op:Int}{n:Nat}(h:n<4294967296):∀k,shN op n k<4294967296
 |0=>h
 |k+1=>by
  unfold shN;have:=OX (op:=op) h k
  grind
theorem TG{n:Nat}:∀k,shN 12 n k%4294967296=n*2^k%4294967296
 |0=>by simp[shN]
 |k+1=>by
  have ih:=TG (n:=n) k;have e:shN 12 n (k+1)=2*shN 12 n k%4294967296:=rfl;rw[e,Nat.mod_mod,Nat.mul_mod,ih,<-Nat.mul_mod,Nat.pow_succ]
  grind
theorem TF{op:Int}(ho:(op==12)=false){n:Nat}:∀k,shN op n k=n/2^k
 |0=>by simp[shN]
 |k+1=>by
  have ih:=TF ho (n:=n) k;have e:shN op n (k+1)=shN op n k/2:=by rw[shN,ho];rfl
  rw[e,ih,Nat.div_div_eq_div_mul,Nat.pow_succ]
theorem R8{op a b:Int}(ha:CW a)(hb:0<=b)(hb2:¬b>31)(ho:op=12\/op=13):Gd op a b=((shN op a.toNat b.toNat:Nat):Int):=by
 have h1:=Xl ha;have hd:decide (b>31)=false:=by simpa using hb2
 have hmin:min b.toNat IntKind.u32.bits=b.toNat:=by
  show min b.toNat 32=b.toNat;omega
 obtain⟨n,rfl⟩:=Int.eq_ofNat_of_zero_le ha.1;unfold Gd;rw[hd,hmin];simp only[cond_false,Int.toNat_natCast];rcases ho with rfl|rfl
 . have h3:=TG (n:=n) b.toNat;have h4:=OX (op:=12) (n:=n) (by simpa using h1) b.toNat;show IntKind.u32.wrap ((n:Int)*2^b.toNat)=_;rw[Nat.mod_eq_of_lt h4]at h3;rw[h3,IntKind.wrap_u32,Int.natCast_emod,Int.natCast_mul,Int.natCast_pow];rfl
 . rw[TF (by rfl)];show Int.fdiv (n:Int) (2^b.toNat)=_;have hp:(0:Int)<=2^b.toNat:=Int.le_of_lt (Int.pow_pos Aa);rw[Int.fdiv_eq_ediv_of_nonneg _ hp,Int.natCast_ediv,Int.natCast_pow];rfl
theorem Nr{n:Nat}(h:n<9223372036854775808):IntKind.i64.wrap (n:Int)=(n:Int):=BF Aa Aa
theorem Cm{n:Nat}(h:n<18446744073709551616):IntKind.u64.wrap (n:Int)=(n:Int):=by
 rw[IntKind.wrap_u64];omega
theorem C5{n:Nat}(h:n<4294967296):IntKind.u32.wrap (n:Int)=(n:Int):=by
 rw[IntKind.wrap_u32];omega
theorem FK{k:IntKind}{a b:Nat}(hb:0<b):Bh .rem (.int k (a:Int)) (.int k (b:Int))=some (.int k ((a%b:Nat):Int)):=by
 have h0:¬(b:Int)=0:=by omega
 simp only[Bh,BP,isShift,cond_false,if_true,if_neg h0];rw[Int.tmod_eq_emod_of_nonneg Aa,Int.natCast_emod]
theorem JH{k:IntKind}{a b:Nat}(hb:0<b)(hw:k.wrap ((a/b:Nat):Int)=((a/b:Nat):Int)):Bh .quo (.int k (a:Int)) (.int k (b:Int))=some (.int k ((a/b:Nat):Int)):=by
 have h0:¬(b:Int)=0:=by omega
 simp only[Bh,BP,isShift,cond_false,if_true,if_neg h0];rw[Int.tdiv_eq_ediv_of_nonneg Aa,<-Int.natCast_ediv,hw]
theorem HL{k:IntKind}{a b:Nat}(hw:k.wrap ((a+b:Nat):Int)=((a+b:Nat):Int)):Bh .add (.int k (a:Int)) (.int k (b:Int))=some (.int k ((a+b:Nat):Int)):=by
 simp only[Bh,BP,isShift,cond_false,if_true];rw[<-Int.natCast_add,hw]
theorem MJ{k:IntKind}{a b:Nat}(hw:k.wrap ((a*b:Nat):Int)=((a*b:Nat):Int)):Bh .mul (.int k (a:Int)) (.int k (b:Int))=some (.int k ((a*b:Nat):Int)):=by
 simp only[Bh,BP,isShift,cond_false,if_true];rw[<-Int.natCast_mul,hw]
section
variable {P : Program} {T : Nat -> Option AD} {o : Oper} {e : AN} {h : Ag}
theorem Cd(hT:DP P T){t u:TypeId}{x:Operand}{k k':IntKind}{n:Int}{i j:AD}(ho:o.op=.convert t u x)(hx:AA e x=some (.int k' n))(hi:T t=some i)(hj:T u=some j)(hk:j.k=.int k)(hw:k.wrap n=n):QLoc P o e h [] (.int k n):=by
 have:=JX (h:=h) hT ho hx hi hj hk;rwa[hw]at this
end
def A3(l:List Nat):List (List AV):=l.map fun(b:Nat)=>[AV.int .i64 (b:Int)]
theorem Td(n k:Nat):DG n (k+1)=DG n k++[n/2^k%2]:=by
 simp[DG,List.range_succ]
theorem CB(n k:Nat):(DG n k).length=k:=by simp[DG]
theorem UB{l:List Nat}{i b:Nat}(h:l[i]?=some b):valB (l.drop i)=b+2*valB (l.drop (i+1)):=by
 have hi:i<l.length:=(List.getElem?_eq_some_iff.1 h).1;rw[List.drop_eq_getElem_cons hi];have:l[i]=b:=by rw[List.getElem?_eq_getElem hi]at h;cases h;rfl
 rw[this];rfl
def HH(op:Int)(a b i:Nat):List Nat:=(Eh op a b).take i++(DG a 32).drop i
theorem Ds(op:Int)(a b:Nat):(Eh op a b).length=32:=by simp[Eh]
theorem KJ{op:Int}{a b i:Nat}(h:i<=32):(HH op a b i).length=32:=by
 simp[HH,Ds,CB];omega
theorem Mk{op:Int}{a b i:Nat}(h:i<32):(HH op a b i)[i]?=some (a/2^i%2):=by
 have hl:((Eh op a b).take i).length=i:=by simp[Ds];omega
 rw[HH,List.getElem?_append_right Aa,hl,Nat.sub_self,List.getElem?_drop,Nat.add_zero,Kj h]
theorem N5{op:Int}{a b i:Nat}(h:i<32):HH op a b (i+1)=(HH op a b i).set i (VB op (a/2^i%2) (b/2^i%2)):=by
 have hl:((Eh op a b).take i).length=i:=by simp[Ds];omega
 have hg:(Eh op a b)[i]?=some (VB op (a/2^i%2) (b/2^i%2)):=by simp[Eh,h]
 have hd:(DG a 32).drop i=(a/2^i%2)::(DG a 32).drop (i+1):=by
  have hi:i<(DG a 32).length:=by rw[CB];exact h
  rw[List.drop_eq_getElem_cons hi];congr 1;have:=Kj (n:=a) h;rw[List.getElem?_eq_getElem hi]at this;exact Option.some.inj this
 unfold HH;rw[List.set_append,if_neg Aa,hl,Nat.sub_self,AZ hg,List.append_assoc,hd];rfl
theorem EL{α:Type}{l:List α}{f:α->List AV}{n:Int}{x:α}(h:l[n.toNat]?=some x):(l.map f)[n.toNat]?=some (f x):=by
 rw[List.getElem?_map,h];rfl
theorem Ghost.freezeAll{n:Nat}{e:AN}{h:Ag}(t b:Nat){m sz:Nat}{es:List (List AV)}(ht:e t=some (.ref b m 0 m))(hb:h b=some (.row true sz es))(hm:m=es.length):
 Ghost ⟨n,e,h⟩ ⟨n,Ad e t (.lst false es),hrm h b⟩:=by
 exact aW
theorem X7{k:IntKind}{a b:Nat}(hba:b<=a)(hw:k.wrap ((a-b:Nat):Int)=((a-b:Nat):Int)):Bh .sub (.int k (a:Int)) (.int k (b:Int))=some (.int k ((a-b:Nat):Int)):=by
 grind[Bh,BP,isShift]
theorem E5{l:List Nat}{i b:Nat}(h:l[i]?=some b):(A3 l)[0+((i:Nat):Int).toNat]?=some [AV.int .i64 (b:Int)]:=by
 grind[A3]
theorem Ch{α:Type}{l:List α}{i:Nat}{x y:α}(h:l[i]?=some x):(l.set i y)[i]?=some y:=by
 grind
theorem Cz(l:List Nat):(A3 l).length=l.length:=by simp[A3]
theorem KY(l:List Nat)(b:Nat):A3 (l++[b])=A3 l++[[AV.int .i64 (b:Int)]]:=by simp[A3]
theorem Jx(l:List Nat)(i b:Nat):(A3 l).set i [AV.int .i64 (b:Int)]=A3 (l.set i b):=by simp[A3,List.map_set]
theorem Rn(a k:Nat):A3 (DG a k)++[[AV.int .i64 ((a/2^k%2:Nat):Int)]]=A3 (DG a (k+1)):=by
 rw[Td,KY]
theorem Je{l:List Nat}(hl:l.length=32)(hb:∀b∈l,b<2)(m:Nat):valB (l.drop m)<4294967296:=by
 have h:=TA (l.drop m) (fun b h=>hb b (List.mem_of_mem_drop h));have:(2:Nat)^(l.drop m).length<=2^32:=Nat.pow_le_pow_right Ab He
 grind
theorem VA{op:Int}{a b k:Nat}(hk:k<32){c:List AV}(h:VB op (a/2^k%2) (b/2^k%2)=0):(A3 (HH op a b k)).set (0+((k:Nat):Int).toNat) [AV.int .i64 0]=A3 (HH op a b (k+1)):=by
 grind[N5,Jx,VB,A3,HH]
theorem Vz{op:Int}{a b k:Nat}(hk:k<32){c:List AV}(h:VB op (a/2^k%2) (b/2^k%2)=1):((A3 (HH op a b k)).set (0+((k:Nat):Int).toNat) c).set (0+((k:Nat):Int).toNat) [AV.int .i64 1]=A3 (HH op a b (k+1)):=by
 rw[List.set_set,N5 hk,h,<-Jx,Nat.zero_add,Int.toNat_natCast];rfl
theorem Va(op:Int)(a b:Nat):HH op a b 0=DG a 32:=by simp[HH]
theorem Xp(op:Int)(a b:Nat):HH op a b 32=Eh op a b:=by
 grind[Ds,CB,HH,List.drop_eq_nil_of_le,Eh]
theorem Yg(op:Int)(a b:Nat):∀c∈Eh op a b,c<2:=fun c hc=>by
 grind[Eh,Yh]
theorem Pe{a:Nat}(h:a<4294967296):CW (a:Int):=by constructor<;>omega
theorem Ww(a b:Nat):BG 4 a b=((((a+b)%4294967296:Nat):Int),0):=by
 show(IntKind.u32.wrap ((a:Int)+b),(0:Int))=_;rw[IntKind.wrap_u32];rfl
theorem Ws{a b:Nat}(h:b<4294967296):BG 5 a b=((((a+4294967296-b)%4294967296:Nat):Int),0):=by
 show(IntKind.u32.wrap ((a:Int)-b),(0:Int))=_;rw[IntKind.wrap_u32];congr 1;omega
theorem Wt(a b:Nat):BG 6 a b=(((a*b%4294967296:Nat):Int),0):=by
 show(IntKind.u32.wrap ((a:Int)*b),(0:Int))=_;rw[IntKind.wrap_u32,<-Int.natCast_mul];rfl
theorem Uy(op a:Int)(h:op=7\/op=8):BG op a 0=(0,14):=by
 rcases h with rfl|rfl<;>rfl
theorem Wv{a b:Nat}(ha:a<4294967296)(h:¬b=0):BG 7 a b=(((a/b:Nat):Int),0):=by
 show Jc 7 a b=_;have hb:((b:Int)==0)=false:=by simp;omega
 unfold Jc;rw[hb];show(IntKind.u32.wrap ((a:Int).tdiv b),(0:Int))=_;have h2:a/b<=a:=Nat.div_le_self a b;rw[Int.tdiv_eq_ediv_of_nonneg Aa,<-Int.natCast_ediv,C5 Aa]
theorem Wu{a b:Nat}(h:¬b=0):BG 8 a b=(((a%b:Nat):Int),0):=by
 grind[Jc,BG]
theorem Uz{op:Int}{a b:Nat}(ha:a<4294967296)(hb:b<4294967296)(ho:op=9\/op=10\/op=11):BG op a b=(((valB (Eh op a b):Nat):Int),0):=Vy (Pe ha) (Pe hb) ho
theorem RU{op:Int}{a b:Nat}(ho:op=12\/op=13):BG op a b=(Gd op a b,0):=by
 grind[BG,Gd]
theorem RO(op:Int){a b:Nat}(h:32<=b):Gd op a b=0:=by
 grind[Gd]
theorem OL{op:Int}{a b:Nat}(ha:a<4294967296)(hb:b<32)(ho:op=12\/op=13):Gd op a b=(shN op a b:Nat):=R8 (Pe ha) Aa Aa ho
theorem Y6(a b:Int):BG 14 a b=(bif decide (a<b)then 1 else 0,0):=by
 grind[Ea,BG]
theorem Y7(a b:Int):BG 15 a b=(bif a==b then 1 else 0,0):=by
 grind[Ea,BG]
def Tac.inR(t:Tac)(regs:Int):Prop:=(setsOp t.op=true->0<=t.d/\t.d<regs)/\∀u∈t.uses,0<=u/\u<regs
theorem XP{t:Tac}{f regs words:Int}(h:t.fits f regs words=true):t.inR regs:=by
 simp only[Tac.fits,Bool.and_eq_true,Bool.or_eq_true,Bool.not_eq_true',List.all_eq_true,A4,decide_eq_true_eq]at h;refine⟨fun hs=>?_,fun u hu=>h.2.2.2.1 u hu⟩
 grind
structure Mach where
  words:List Int
  out:List UInt8
  read:Nat
  steps:Nat
  fin:Int
def Ak(l:List Int)(z:Int):Int:=(l[z.toNat]?).getD 0
def rset(l:List Int)(z v:Int):List Int:=l.set z.toNat v
def Ef(n:Int):UInt8:=UInt8.ofNat n.toNat
def FE(s:ByteArray)(i:Nat):UInt8:=(s.data.toList[i]?).getD 0
def AI(fuel:Int)(m:Mach):Bool×Mach:=bif decide ((m.steps:Int)>=fuel)then(false,{m with fin:=5})else(true,{m with steps:=m.steps+1})
def A7(call:Int->Mach->Mach)(s:ByteArray)(t:Tac)(regs:List Int)(m:Mach):List Int×Mach:=
  bif t.op==1 then(rset regs t.d t.n,m)
  else bif t.op==2 then(rset regs t.d (Ak regs t.a),m)
  else bif t.op==3 then
    (bif (BG t.k (Ak regs t.a) (Ak regs t.b)).2==0 then(rset regs t.d (BG t.k (Ak regs t.a) (Ak regs t.b)).1,m)else(regs,{m with fin:=2}))
  else bif t.op==4 then(rset regs t.d (Ak m.words t.base),m)
  else bif t.op==5 then(regs,{m with words:=rset m.words t.base (Ak regs t.a)})
  else bif t.op==6 then(bif decide (Ak regs t.a>=t.size)then(regs,{m with fin:=3})else(rset regs t.d (Ak m.words (t.base+Ak regs t.a)),m))
  else bif t.op==7 then(bif decide (Ak regs t.a>=t.size)then(regs,{m with fin:=3})else(regs,{m with words:=rset m.words (t.base+Ak regs t.a) (Ak regs t.b)}))
  else bif t.op==8 then(bif decide (m.read<s.size)then(rset regs t.d ((FE s m.read).toNat:Int),{m with read:=m.read+1})else(rset regs t.d 256,m))
  else bif t.op==9 then(bif decide (m.out.length>=65536)then(regs,{m with fin:=4})else(regs,{m with out:=m.out++[Ef (Ak regs t.a)]}))
  else bif t.op==10 then(regs,call t.base m)
  else(regs,m)
def Da(call:Int->Mach->Mach)(s:ByteArray)(fuel:Int):List Tac->List Int->Mach->Bool×List Int×Mach
  | [],regs,m=>(true,regs,m)
  |t::r,regs,m=>
    bif (AI fuel m).1 then
      (bif (A7 call s t regs (AI fuel m).2).2.fin==0 then Da call s fuel r (A7 call s t regs (AI fuel m).2).1 (A7 call s t regs (AI fuel m).2).2
       else(false,A7 call s t regs (AI fuel m).2))
    else(false,regs,(AI fuel m).2)
def Block.next(k:Block)(regs:List Int):Int:=bif k.fin==2&&Ak regs k.v==0 then k.els else k.to
def E6(call:Int->Mach->Mach)(s:ByteArray)(fuel:Int)(f:BFunc):Nat->Int->List Int->Mach->Mach
  |0,_,_,m=>m
  |g+1,i,regs,m=>
    match f.blocks[i.toNat]? with
    |none=>m
    |some k=>
      let p:=Da call s fuel k.ins regs m
      bif p.1 then
        (bif (AI fuel p.2.2).1&& !(k.fin==3)then E6 call s fuel f g (k.next p.2.1) p.2.1 (AI fuel p.2.2).2 else(AI fuel p.2.2).2)
      else p.2.2
def El(b:Blocks)(s:ByteArray)(fuel:Int):Nat->Int->Mach->Mach
  |0,_,m=>m
  |n+1,i,m=>
    match b.funcs[i.toNat]? with
    |none=>m
    |some f=>E6 (El b s fuel n) s fuel f (fuel.toNat+1) 0 (List.replicate f.regs.toNat 0) m
def m0(b:Blocks):Mach:=⟨List.replicate b.words.toNat 0,[],0,0,0⟩
def E2(fuel:Int):Int:=bif decide (fuel<0)then 0 else fuel
def JA(b:Blocks)(s:ByteArray)(fuel:Int):Mach:=
  let m:=El b s (E2 fuel) b.funcs.length ((b.funcs.length:Int)-1) (m0 b)
  bif m.fin==0 then {m with fin:=1}else m
def Jp(m:Mach):List AV:=[.int .i64 m.fin,.str ⟨m.out.toArray⟩,.int .i64 m.steps]
def Au(l:List Int):List (List AV):=l.map fun n=>[AV.int .u32 n]
def Dc(l:List Int):Prop:=∀v∈l,CW v
theorem DC{l:List Int}(h:Dc l)(z:Int):CW (Ak l z):=by
 grind[Ak,isW_zero,List.mem_of_getElem?,Dc,CW]
theorem DB{l:List Int}(h:Dc l)(z:Int){v:Int}(hv:CW v):Dc (rset l z v):=fun u hu=>by
 grind[rset,Dc,CW]
theorem Bf(l:List Int)(z v:Int):(rset l z v).length=l.length:=by simp[rset]
theorem MU(c:UInt8):CW ((c.toNat:Nat):Int):=by
 have:c.toNat<256:=UInt8.toNat_lt c;constructor<;>omega
structure Mach.good(W:Nat)(m:Mach):Prop where
  len:m.words.length=W
  words:Dc m.words
  out:m.out.length<=65536
theorem DN{fuel:Int}{m:Mach}{W:Nat}(h:m.good W):(AI fuel m).2.good W:=by
 unfold AI
 cases decide ((m.steps:Int)>=fuel)<;>exact⟨h.1,h.2,h.3⟩
theorem HF(fuel:Int)(m:Mach):m.steps<=(AI fuel m).2.steps:=by
 grind[AI]
theorem N4{call:Int->Mach->Mach}{s:ByteArray}{W:Nat}(hc:∀i m,m.good W->(call i m).good W)(t:Tac)(ht:CW t.n){regs:List Int}{m:Mach}(hr:Dc regs)(h:m.good W):
 Dc (A7 call s t regs m).1/\(A7 call s t regs m).1.length=regs.length/\(A7 call s t regs m).2.good W:=by
 have ha:=DC hr t.a;have hb:=DC hr t.b;unfold A7
 cases t.op==1 with
 |true=>exact⟨DB hr _ ht,Bf _ _ _,h⟩
 |false=>
 cases t.op==2 with
 |true=>exact⟨DB hr _ ha,Bf _ _ _,h⟩
 |false=>
 cases t.op==3 with
 |true=>
  simp only[cond_true,cond_false]
  cases (BG t.k (Ak regs t.a) (Ak regs t.b)).2==0 with
  |true=>exact⟨DB hr _ (Fd ha hb),Bf _ _ _,h⟩
  |false=>exact⟨hr,rfl,⟨h.1,h.2,h.3⟩⟩
 |false=>
 cases t.op==4 with
 |true=>exact⟨DB hr _ (DC h.2 _),Bf _ _ _,h⟩
 |false=>
 cases t.op==5 with
 |true=>exact⟨hr,rfl,⟨by simp only[cond_true,cond_false];rw[Bf];exact h.1,DB h.2 _ ha,h.3⟩⟩
 |false=>
 cases t.op==6 with
 |true=>
  simp only[cond_true,cond_false]
  cases decide (Ak regs t.a>=t.size)with
  |true=>exact⟨hr,rfl,⟨h.1,h.2,h.3⟩⟩
  |false=>exact⟨DB hr _ (DC h.2 _),Bf _ _ _,h⟩
 |false=>
 cases t.op==7 with
 |true=>
  simp only[cond_true,cond_false]
  cases decide (Ak regs t.a>=t.size)with
  |true=>exact⟨hr,rfl,⟨h.1,h.2,h.3⟩⟩
  |false=>exact⟨hr,rfl,⟨by simp only[cond_false];rw[Bf];exact h.1,DB h.2 _ hb,h.3⟩⟩
 |false=>
 cases t.op==8 with
 |true=>
  simp only[cond_true,cond_false]
  cases decide (m.read<s.size)with
  |true=>exact⟨DB hr _ (MU _),Bf _ _ _,⟨h.1,h.2,h.3⟩⟩
  |false=>exact⟨DB hr _ ⟨by omega,by omega⟩,Bf _ _ _,h⟩
 |false=>
 cases t.op==9 with
 |true=>
  simp only[cond_true,cond_false]
  cases e:decide (m.out.length>=65536)with
  |true=>exact⟨hr,rfl,⟨h.1,h.2,h.3⟩⟩
  |false=>
   refine⟨hr,rfl,⟨h.1,h.2,?_⟩⟩;simp only[cond_false,List.length_append,List.length_cons,List.length_nil];simp at e;omega
 |false=>
 cases t.op==10 with
 |true=>exact⟨hr,rfl,hc _ _ h⟩
 |false=>exact⟨hr,rfl,h⟩
theorem Mi{call:Int->Mach->Mach}{s:ByteArray}(hc:∀i m,m.steps<=(call i m).steps)(t:Tac)(regs:List Int)(m:Mach):m.steps<=(A7 call s t regs m).2.steps:=by
 unfold A7
 cases t.op==1 with
 |true=>exact Nat.le_refl _
 |false=>
 cases t.op==2 with
 |true=>exact Nat.le_refl _
 |false=>
 cases t.op==3 with
 |true=>
  simp only[cond_true,cond_false]
  cases (BG t.k (Ak regs t.a) (Ak regs t.b)).2==0<;>exact Nat.le_refl _
 |false=>
 cases t.op==4 with
 |true=>exact Nat.le_refl _
 |false=>
 cases t.op==5 with
 |true=>exact Nat.le_refl _
 |false=>
 cases t.op==6 with
 |true=>
  simp only[cond_true,cond_false]
  cases decide (Ak regs t.a>=t.size)<;>exact Nat.le_refl _
 |false=>
 cases t.op==7 with
 |true=>
  simp only[cond_true,cond_false]
  cases decide (Ak regs t.a>=t.size)<;>exact Nat.le_refl _
 |false=>
 cases t.op==8 with
 |true=>
  simp only[cond_true,cond_false]
  cases decide (m.read<s.size)<;>exact Nat.le_refl _
 |false=>
 cases t.op==9 with
 |true=>
  simp only[cond_true,cond_false]
  cases e:decide (m.out.length>=65536)<;>exact Nat.le_refl _
 |false=>
 cases t.op==10 with
 |true=>exact hc _ _
 |false=>exact Nat.le_refl _
theorem N6{call:Int->Mach->Mach}{s:ByteArray}{fuel:Int}{W:Nat}(hc:∀i m,m.good W->(call i m).good W):∀(l:List Tac),XE l->∀(regs:List Int) (m:Mach),Dc regs->m.good W->
 Dc (Da call s fuel l regs m).2.1/\(Da call s fuel l regs m).2.1.length=regs.length/\(Da call s fuel l regs m).2.2.good W
 | [],_,regs,m,hr,h=>⟨hr,rfl,h⟩
 |t::r,hl,regs,m,hr,h=>by
  have h1:=DN (fuel:=fuel) h;have h2:=N4 (s:=s) hc t (hl t At) hr h1;unfold Da
  cases (AI fuel m).1 with
  |false=>exact⟨hr,rfl,h1⟩
  |true=>
   simp only[cond_true]
   cases (A7 call s t regs (AI fuel m).2).2.fin==0 with
   |false=>exact h2
   |true=>
    have ih:=N6 (fuel:=fuel) (s:=s) hc r (fun u hu=>hl u Hq) _ _ h2.1 h2.2.2;exact⟨ih.1,ih.2.1.trans h2.2.1,ih.2.2⟩
theorem GX{call:Int->Mach->Mach}{s:ByteArray}{fuel:Int}(hc:∀i m,m.steps<=(call i m).steps):∀(l:List Tac) (regs:List Int) (m:Mach),m.steps<=(Da call s fuel l regs m).2.2.steps
 | [],_,_=>Nat.le_refl _
 |t::r,regs,m=>by
  have h1:=HF fuel m;have h2:=Mi (s:=s) hc t regs (AI fuel m).2;unfold Da
  cases (AI fuel m).1 with
  |false=>exact h1
  |true=>
   simp only[cond_true]
   cases (A7 call s t regs (AI fuel m).2).2.fin==0 with
   |false=>exact Nat.le_trans h1 h2
   |true=>exact Nat.le_trans (Nat.le_trans h1 h2) (GX hc r _ _)
theorem N9{call:Int->Mach->Mach}{s:ByteArray}{fuel:Int}{W:Nat}(hc:∀i m,m.good W->(call i m).good W){f:BFunc}(hf:∀x∈f.blocks,XE x.ins):∀(g:Nat) (i:Int) (regs:List Int) (m:Mach),Dc regs->m.good W->(E6 call s fuel f g i regs m).good W
 |0,_,_,_,_,h=>h
 |g+1,i,regs,m,hr,h=>by
  unfold E6;split
  . exact h
  . rename_i k hk;have h2:=N6 (s:=s) (fuel:=fuel) hc k.ins (hf k (List.mem_of_getElem? hk)) regs m hr h;have h3:=DN (fuel:=fuel) h2.2.2;dsimp only
    cases (Da call s fuel k.ins regs m).1 with
    |false=>exact h2.2.2
    |true=>
     simp only[cond_true]
     cases (AI fuel (Da call s fuel k.ins regs m).2.2).1&& !(k.fin==3)with
     |false=>exact h3
     |true=>exact N9 hc hf g _ _ _ h2.1 h3
theorem Mm{call:Int->Mach->Mach}{s:ByteArray}{fuel:Int}(hc:∀i m,m.steps<=(call i m).steps){f:BFunc}:∀(g:Nat) (i:Int) (regs:List Int) (m:Mach),m.steps<=(E6 call s fuel f g i regs m).steps
 |0,_,_,_=>Nat.le_refl _
 |g+1,i,regs,m=>by
  unfold E6;split
  . exact Nat.le_refl _
  . rename_i k hk;have h2:=GX (s:=s) (fuel:=fuel) hc k.ins regs m;have h3:=HF fuel (Da call s fuel k.ins regs m).2.2;dsimp only
    cases (Da call s fuel k.ins regs m).1 with
    |false=>exact h2
    |true=>
     simp only[cond_true]
     cases (AI fuel (Da call s fuel k.ins regs m).2.2).1&& !(k.fin==3)with
     |false=>exact Nat.le_trans h2 h3
     |true=>exact Nat.le_trans (Nat.le_trans h2 h3) (Mm hc g _ _ _)
theorem GH(n:Nat):Dc (List.replicate n 0):=fun v hv=>by
 grind[isW_zero,Dc]
def Blocks.insW(b:Blocks):Prop:=∀f∈b.funcs,∀x∈f.blocks,Sv.XE x.ins
theorem N7{b:Blocks}(hb:b.insW){s:ByteArray}{fuel:Int}{W:Nat}:∀(n:Nat) (i:Int) (m:Mach),m.good W->(El b s fuel n i m).good W
 |0,_,_,h=>h
 |n+1,i,m,h=>by
  unfold El;split
  . exact h
  . rename_i f hf;exact N9 (fun i m h=>N7 hb n i m h) (hb f (List.mem_of_getElem? hf)) _ _ _ _ (GH _) h
theorem Fz{b:Blocks}{s:ByteArray}{fuel:Int}:∀(n:Nat) (i:Int) (m:Mach),m.steps<=(El b s fuel n i m).steps
 |0,_,_=>Nat.le_refl _
 |n+1,i,m=>by
  unfold El;split
  . exact Nat.le_refl _
  . exact Mm (fun i m=>Fz n i m) _ _ _ _
def DE(b:Blocks)(s:ByteArray)(fuel:Int)(m:Mach):List AV:=
  [.int .i64 b.words,JE b.funcs,.str s,.int .i64 fuel,.ref 1 b.words.toNat 0 b.words.toNat,.ref 2 m.out.length 0 m.out.length,.int .i64 (m.read:Int),.int .i64 (m.steps:Int),.int .i64 m.fin]
abbrev Hh(h:Ag)(b:Blocks)(s:ByteArray)(fuel:Int)(m:Mach):Ag:=
  Ar (Ar (Ar h 0 (.row false 9 [DE b s fuel m])) 1 (.row true 1 (Au m.words))) 2 (.row true 1 (AC m.out))
theorem AR(l:List Int):(Au l).length=l.length:=by simp[Au]
theorem GQ(n:Nat):List.replicate n [AV.int .u32 0]=Au (List.replicate n 0):=by simp[Au]
theorem CH{l:List Int}{z:Int}(h:0<=z/\z<l.length):(Au l)[0+z.toNat]?=some [AV.int .u32 (Ak l z)]:=by
 grind[Ah,Au,Ak]
theorem Gu(l:List Int)(z v:Int):(Au l).set (0+z.toNat) [AV.int .u32 v]=Au (rset l z v):=by
 rw[Nat.zero_add,Au,Au,rset,List.map_set]
theorem Se(l:List Int)(z v:Int)(c:List AV):((Au l).set (0+z.toNat) c).set (0+z.toNat) [AV.int .u32 v]=Au (rset l z v):=by
 rw[List.set_set,Gu]
theorem Mu{s:ByteArray}{i:Nat}(h:i<s.size):s.data.toList[i]?=some (FE s i):=by
 obtain⟨v,hv⟩:=Ah (l:=s.data.toList) (k:=i) Ko;rw[FE,hv];rfl
theorem Nq{n:Int}(h:CW n):IntKind.u8.wrap n=(((Ef n).toNat:Nat):Int):=by
 obtain⟨h1,h2⟩:=h;obtain⟨k,rfl⟩:=Int.eq_ofNat_of_zero_le h1;rw[IntKind.wrap_u8,Ef,Int.toNat_natCast]
 (simp_all;done)
section
variable {P : Program} {T : Nat -> Option AD} {o : Oper} {e : AN} {h : Ag}
theorem Co(hT:DP P T){t u:TypeId}{x:Operand}{k k':IntKind}{n r:Int}{i j:AD}(ho:o.op=.convert t u x)(hx:AA e x=some (.int k' n))(hi:T t=some i)(hj:T u=some j)(hk:j.k=.int k)(hw:k.wrap n=r):QLoc P o e h [] (.int k r):=by
 grind[JX,DP,AA,QLoc]
end
section
variable {call : Int -> Mach -> Mach} {s : ByteArray} {t : Tac} {regs : List Int} {m : Mach}
theorem jR(h:t.op=1):A7 call s t regs m=(rset regs t.d t.n,m):=by simp[A7,h]
theorem jQ(h:t.op=2):A7 call s t regs m=(rset regs t.d (Ak regs t.a),m):=by simp[A7,h]
theorem jP(h:t.op=3)(hz:((BG t.k (Ak regs t.a) (Ak regs t.b)).2 !=0)=false):A7 call s t regs m=(rset regs t.d (BG t.k (Ak regs t.a) (Ak regs t.b)).1,m):=by
 grind[BG,Ak,A7,rset]
theorem d6(h:t.op=3)(hz:((BG t.k (Ak regs t.a) (Ak regs t.b)).2 !=0)=true):A7 call s t regs m=(regs,{m with fin:=2}):=by
 grind[BG,Ak,A7]
theorem jO(h:t.op=4):A7 call s t regs m=(rset regs t.d (Ak m.words t.base),m):=by simp[A7,h]
theorem jN(h:t.op=5):A7 call s t regs m=(regs,{m with words:=rset m.words t.base (Ak regs t.a)}):=by simp[A7,h]
theorem TV(h:t.op=6\/t.op=7)(hz:decide (Ak regs t.a>=t.size)=true):A7 call s t regs m=(regs,{m with fin:=3}):=by
 grind[A7,Ak]
theorem jM(h:t.op=6)(hz:decide (Ak regs t.a>=t.size)=false):A7 call s t regs m=(rset regs t.d (Ak m.words (t.base+Ak regs t.a)),m):=by
 grind[A7,Ak,rset]
theorem jL(h:t.op=7)(hz:decide (Ak regs t.a>=t.size)=false):A7 call s t regs m=(regs,{m with words:=rset m.words (t.base+Ak regs t.a) (Ak regs t.b)}):=by
 grind[A7,Ak,rset]
theorem jK(h:t.op=8)(hz:m.read<s.size):A7 call s t regs m=(rset regs t.d ((FE s m.read).toNat:Int),{m with read:=m.read+1}):=by
 grind[A7,rset,FE]
theorem d5(h:t.op=8)(hz:¬m.read<s.size):A7 call s t regs m=(rset regs t.d 256,m):=by
 grind[A7,rset]
theorem d4(h:t.op=9)(hz:m.out.length>=65536):A7 call s t regs m=(regs,{m with fin:=4}):=by
 grind[A7]
theorem jJ(h:t.op=9)(hz:¬m.out.length>=65536):A7 call s t regs m=(regs,{m with out:=m.out++[Ef (Ak regs t.a)]}):=by
 grind[A7,Ef,Ak]
theorem SI(h:t.op=10):A7 call s t regs m=(regs,call t.base m):=by simp[A7,h]
end
theorem QP{fuel:Int}{m:Mach}(h:decide ((m.steps:Int)>=fuel)=true):AI fuel m=(false,{m with fin:=5}):=by simp[AI,h]
theorem N2{fuel:Int}{m:Mach}(h:decide ((m.steps:Int)>=fuel)=false):AI fuel m=(true,{m with steps:=m.steps+1}):=by simp[AI,h]
structure cf(t:Tac)(number R:Nat)(words:Nat):Prop where
  op:1<=t.op/\t.op<=10
  d:setsOp t.op=true->0<=t.d/\t.d<R
  a:use1 t.op=true\/use2 t.op=true->0<=t.a/\t.a<R
  b:use2 t.op=true->0<=t.b/\t.b<R
  base:t.op=4\/t.op=5->0<=t.base/\t.base<words
  arr:t.op=6\/t.op=7->1<=t.size/\t.size<=4096/\0<=t.base/\t.base+t.size<=words
  call:t.op=10->0<=t.base/\t.base<number
theorem WA{t:Tac}{f regs words:Int}(h:t.fits f regs words=true):cf t f.toNat regs.toNat words.toNat:=by
 have h0:=h;simp only[Tac.fits,Bool.and_eq_true,Bool.or_eq_true,Bool.not_eq_true',List.all_eq_true,A4,decide_eq_true_eq]at h;obtain⟨h1,h2,h3,h4,h5,_⟩:=h;refine⟨⟨h1,h2⟩,fun e=>?_,fun e=>?_,fun e=>?_,fun e=>?_,fun e=>?_,fun e=>?_⟩
 . rcases h3 with h3|h3
   . rw[e]at h3;cases h3
   . omega
 . have:=h4 t.a (by rcases e with e|e<;>simp[Tac.uses,e]<;>cases use1 t.op<;>simp);omega
 . have e2:=TC t.op;rw[e,Bool.and_true]at e2;have:=h4 t.b (by simp[Tac.uses,e,e2]);omega
 . rcases e with e|e<;>simp[Tac.rest,HR,e,A4]at h5<;>omega
 . rcases e with e|e<;>simp[Tac.rest,HR,KU,e]at h5<;>omega
 . simp[Tac.rest,HR,KU,e,A4]at h5;omega
structure FG where
  i:Int
  regs:List Int
  m:Mach
  g:Nat
structure IG where
  j:Nat
  regs:List Int
  m:Mach
section
variable {call : Int -> Mach -> Mach} {s : ByteArray} {fuel : Int} {f : BFunc} {W R : Nat} {tgt : Mach} {q : FG} {k : Block} {r : IG}
structure FInv(call:Int->Mach->Mach)(s:ByteArray)(fuel:Int)(f:BFunc)(W R:Nat)(tgt:Mach)(q:FG):Prop where
  good:q.m.good W
  fin:q.m.fin=0
  regs:Dc q.regs
  len:q.regs.length=R
  i:0<=q.i/\q.i<f.blocks.length
  g:0<q.g
  gas:fuel.toNat<q.m.steps+q.g
  tgt:E6 call s fuel f q.g q.i q.regs q.m=tgt
structure IInv(call:Int->Mach->Mach)(s:ByteArray)(fuel:Int)(k:Block)(q:FG)(W R:Nat)(r:IG):Prop where
  good:r.m.good W
  fin:r.m.fin=0
  regs:Dc r.regs
  len:r.regs.length=R
  j:r.j<=k.ins.length
  steps:q.m.steps<=r.m.steps
  eq:Da call s fuel (k.ins.drop r.j) r.regs r.m=Da call s fuel k.ins q.regs q.m
theorem FInv.start(h:FInv call s fuel f W R tgt q):IInv call s fuel k q W R ⟨0,q.regs,q.m⟩:=⟨h.good,h.fin,h.regs,h.len,Nat.zero_le _,Nat.le_refl _,rfl⟩
theorem FInv.unfold(h:FInv call s fuel f W R tgt q)(hk:f.blocks[q.i.toNat]?=some k):tgt=
 (bif (Da call s fuel k.ins q.regs q.m).1 then
  (bif (AI fuel (Da call s fuel k.ins q.regs q.m).2.2).1&& !(k.fin==3)then E6 call s fuel f (q.g-1) (k.next (Da call s fuel k.ins q.regs q.m).2.1) (Da call s fuel k.ins q.regs q.m).2.1 (AI fuel (Da call s fuel k.ins q.regs q.m).2.2).2 else(AI fuel (Da call s fuel k.ins q.regs q.m).2.2).2)
  else(Da call s fuel k.ins q.regs q.m).2.2):=by
 have h1:=h.tgt;obtain⟨g,hg⟩:∃g,q.g=g+1:=⟨q.g-1,by have:=h.g;omega⟩
 rw[hg]at h1|-;rw[<-h1,E6,hk];rfl
theorem IInv.head(hi:IInv call s fuel k q W R r){u:Tac}(hu:k.ins[r.j]?=some u):Da call s fuel k.ins q.regs q.m=Da call s fuel (u::k.ins.drop (r.j+1)) r.regs r.m:=by
 rw[<-hi.eq];have hl:=(List.getElem?_eq_some_iff.1 hu);obtain⟨h1,h2⟩:=hl;rw[List.drop_eq_getElem_cons h1,h2]
theorem j9(h:FInv call s fuel f W R tgt q)(hk:f.blocks[q.i.toNat]?=some k)(hi:IInv call s fuel k q W R r){u:Tac}(hu:k.ins[r.j]?=some u)(hs:(AI fuel r.m).1=false):tgt=(AI fuel r.m).2:=by
 have e:Da call s fuel k.ins q.regs q.m=(false,r.regs,(AI fuel r.m).2):=by rw[hi.head hu,Da,hs];rfl
 rw[h.unfold hk,e];rfl
theorem j8(h:FInv call s fuel f W R tgt q)(hk:f.blocks[q.i.toNat]?=some k)(hi:IInv call s fuel k q W R r){u:Tac}(hu:k.ins[r.j]?=some u)(hs:(AI fuel r.m).1=true)(hz:((A7 call s u r.regs (AI fuel r.m).2).2.fin !=0)=true):
 tgt=(A7 call s u r.regs (AI fuel r.m).2).2:=by
 have hz':((A7 call s u r.regs (AI fuel r.m).2).2.fin==0)=false:=by simpa[bne]using hz
 have e:Da call s fuel k.ins q.regs q.m=(false,A7 call s u r.regs (AI fuel r.m).2):=by rw[hi.head hu,Da,hs,hz'];rfl
 rw[h.unfold hk,e];rfl
theorem IInv.next(hi:IInv call s fuel k q W R r)(hcg:∀i m,m.good W->(call i m).good W)(hcs:∀i m,m.steps<=(call i m).steps){u:Tac}(hu:k.ins[r.j]?=some u)(hw:CW u.n)(hs:(AI fuel r.m).1=true)(hz:((A7 call s u r.regs (AI fuel r.m).2).2.fin !=0)=false):
 IInv call s fuel k q W R ⟨r.j+1,(A7 call s u r.regs (AI fuel r.m).2).1,(A7 call s u r.regs (AI fuel r.m).2).2⟩:=by
 have hz':((A7 call s u r.regs (AI fuel r.m).2).2.fin)=0:=by simpa using hz
 have hg:=N4 (s:=s) hcg u hw hi.regs (DN (fuel:=fuel) hi.good);refine⟨hg.2.2,hz',hg.1,hg.2.1.trans hi.len,(List.getElem?_eq_some_iff.1 hu).1,?_,?_⟩
 . exact Nat.le_trans hi.steps (Nat.le_trans (HF fuel r.m) (Mi hcs u r.regs _))
 . rw[hi.head hu]
   grind[Da,CW,AI,A7]
theorem IInv.done(hi:IInv call s fuel k q W R r)(hj:k.ins.length<=r.j):Da call s fuel k.ins q.regs q.m=(true,r.regs,r.m):=by
 rw[<-hi.eq,List.drop_eq_nil_of_le hj];rfl
theorem ey(h:FInv call s fuel f W R tgt q)(hk:f.blocks[q.i.toNat]?=some k)(hi:IInv call s fuel k q W R r)(hj:k.ins.length<=r.j)(hs:(AI fuel r.m).1=false):tgt=(AI fuel r.m).2:=by
 rw[h.unfold hk,hi.done hj]
 grind
theorem ew(h:FInv call s fuel f W R tgt q)(hk:f.blocks[q.i.toNat]?=some k)(hi:IInv call s fuel k q W R r)(hj:k.ins.length<=r.j)(hf:(k.fin==3)=true):tgt=(AI fuel r.m).2:=by
 rw[h.unfold hk,hi.done hj]
 grind
theorem j7(h:FInv call s fuel f W R tgt q)(hk:f.blocks[q.i.toNat]?=some k)(hi:IInv call s fuel k q W R r)(hj:k.ins.length<=r.j)(hs:(AI fuel r.m).1=false\/(k.fin==3)=true):tgt=(AI fuel r.m).2:=
 hs.elim (ey h hk hi hj) (ew h hk hi hj)
theorem GV{m:Mach}(hs:(AI fuel m).1=true):(m.steps:Int)<fuel/\(AI fuel m).2={m with steps:=m.steps+1}:=by
 grind[AI]
theorem FInv.next(h:FInv call s fuel f W R tgt q)(hk:f.blocks[q.i.toNat]?=some k)(hi:IInv call s fuel k q W R r)(hj:k.ins.length<=r.j)(hs:(AI fuel r.m).1=true)(hf:(k.fin==3)=false)(hn:0<=k.next r.regs/\k.next r.regs<f.blocks.length):
 FInv call s fuel f W R tgt ⟨k.next r.regs,r.regs,(AI fuel r.m).2,q.g-1⟩/\q.g-1<q.g:=by
 obtain⟨h1,h2⟩:=GV hs;have hg:=h.g;have hgas:=h.gas;have hst:=hi.steps;refine⟨⟨DN hi.good,by rw[h2];exact hi.fin,hi.regs,hi.len,hn,?_,?_,?_⟩,by omega⟩
 . grind
 . grind
 . rw[h.unfold hk,hi.done hj]
   grind
end
theorem Vl{k:Block}{blocks regs:Int}(h:k.ends blocks regs=true)(hf:(k.fin==3)=false)(l:List Int):0<=k.next l/\k.next l<blocks:=by
 grind[Block.ends,Block.next,A4,Ak]
theorem eH{k:Block}{blocks regs:Int}(h:k.ends blocks regs=true)(hf:(k.fin==2)=true):0<=k.v/\k.v<regs:=by
 grind[Block.ends,A4]
theorem FInv.first{call:Int->Mach->Mach}{s:ByteArray}{fuel:Int}{f:BFunc}{W:Nat}{m:Mach}(hm:m.good W)(h0:m.fin=0)(hf:f.blocks≠[]):
 FInv call s fuel f W f.regs.toNat (E6 call s fuel f (fuel.toNat+1) 0 (List.replicate f.regs.toNat 0) m) ⟨0,List.replicate f.regs.toNat 0,m,fuel.toNat+1⟩:=
 ⟨hm,h0,GH _,by simp,⟨by show(0:Int)<=0;omega,by show(0:Int)<_;have:=List.length_pos_iff.2 hf;omega⟩,Nat.succ_pos _,by show fuel.toNat<m.steps+(fuel.toNat+1);omega,rfl⟩
theorem Ghost.freezeA{n:Nat}{e:AN}{h:Ag}(t b:Nat){m sz:Nat}{es:List (List AV)}(ht:e t=some (.ref b m 0 m))(hb:h b=some (.row true sz es))(hm:m=es.length):
 Ghost ⟨n,e,h⟩ ⟨n,Ad e t (.lst false es),hrm h b⟩:=by
 exact aW
structure DS where
  been:List Bool
  way:List (Int×Int)
def ju(next:List (List Int))(b:Int):List Int:=(next[b.toNat]?).getD []
structure DS.ok(next:List (List Int))(s:DS):Prop where
  len:s.been.length=next.length
  way:∀p∈s.way,0<=p.1/\p.1<next.length/\0<=p.2/\p.2<=(ju next p.1).length
def Block.mid(x:Block)(l:List Tac):Block:={x with ins:=l}
inductive CE where
  |mk (kind op num slot size:Int) (kids:List CE)
inductive CS where
  |mk (kind slot size:Int) (es:List CE) (thn els:List CS)
structure CFn where
  params:Int
  slots:Int
  first:Int
  word:Bool
  body:List CS
structure Core where
  words:Int
  funcs:List CFn
namespace CE
def kind:CE->Int|mk k _ _ _ _ _=>k
def op:CE->Int|mk _ o _ _ _ _=>o
def num:CE->Int|mk _ _ n _ _ _=>n
def slot:CE->Int|mk _ _ _ s _ _=>s
def size:CE->Int|mk _ _ _ _ z _=>z
def kids:CE->List CE|mk _ _ _ _ _ l=>l
end CE
namespace CS
def kind:CS->Int|mk k _ _ _ _ _=>k
def slot:CS->Int|mk _ s _ _ _ _=>s
def size:CS->Int|mk _ _ z _ _ _=>z
def es:CS->List CE|mk _ _ _ l _ _=>l
def thn:CS->List CS|mk _ _ _ _ l _=>l
def els:CS->List CS|mk _ _ _ _ _ l=>l
end CS
mutual
def CE.parts:CE->Nat
  | .mk _ _ _ _ _ kids=>1+CE.partsL kids
def CE.partsL:List CE->Nat
  | []=>0
  |e::l=>e.parts+CE.partsL l
end
mutual
def CS.parts:CS->Nat
  | .mk _ _ _ es thn els=>1+CE.partsL es+CS.partsL thn+CS.partsL els
def CS.partsL:List CS->Nat
  | []=>0
  |s::l=>s.parts+CS.partsL l
end
def Core.parts(c:Core):Nat:=(c.funcs.map fun f=>CS.partsL f.body).sum
structure Bd where
  regs:Int
  blocks:List Block
  now:Nat
abbrev blk0:Block:=⟨[],3,0,0,0⟩
def Bd.upd(b:Bd)(g:Block->Block):Bd:={b with blocks:=b.blocks.modify b.now g}
def Bd.put(b:Bd)(t:Tac):Bd:={b.upd (fun x=>x.mid (x.ins++[t]))with regs:=max b.regs (t.d+1)}
def Bd.opened(b:Bd):Bd:={b with blocks:=b.blocks++[blk0]}
def Bd.jump(b:Bd)(to:Nat):Bd:=b.upd fun x=>{x with fin:=1,to:=(to:Int)}
def Bd.fork(b:Bd)(v to els:Nat):Bd:=b.upd fun x=>{x with fin:=2,v:=(v:Int),to:=(to:Int),els:=(els:Int)}
def Bd.go(b:Bd)(n:Nat):Bd:={b with now:=n}
def Bd.ret(b:Bd):Bd:=b.upd fun x=>{x with fin:=3}
def Bd.inside(b:Bd)(i to:Nat)(g:Bd->Bd):Bd:=((g (b.go i)).jump to).go b.now
abbrev AY(d:Nat)(n:Int):Tac:=⟨1,d,0,0,0,0,0,n⟩
abbrev AP(op:Int)(d x y:Nat):Tac:=⟨3,d,x,y,op,0,0,0⟩
abbrev Dx(d:Nat)(w:Int):Tac:=⟨4,d,0,0,0,w,0,0⟩
abbrev AL(w:Int)(a:Nat):Tac:=⟨5,0,a,0,0,w,0,0⟩
abbrev GZ(d a:Nat)(w z:Int):Tac:=⟨6,d,a,0,0,w,z,0⟩
abbrev BN(a b:Nat)(w z:Int):Tac:=⟨7,0,a,b,0,w,z,0⟩
abbrev Mv(d:Nat):Tac:=⟨8,d,0,0,0,0,0,0⟩
abbrev J8(a:Nat):Tac:=⟨9,0,a,0,0,0,0,0⟩
abbrev E1(g:Int):Tac:=⟨10,0,0,0,0,g,0,0⟩
def CE.flagged(e:CE):Bool:=e.kind==7||(e.kind==8||(e.kind==9||(e.kind==6&&(e.op==14||e.op==15))))
def Bd.not(b:Bd)(d:Nat):Bd:=(b.put (AY (d+1) 0)).put (AP 15 d d (d+1))
def Bd.truth(b:Bd)(e:CE)(d:Nat):Bd:=bif e.flagged then b else(b.not d).put (AP 15 d d (d+1))
def Bd.args(b:Bd)(first:Int)(d:Nat):Nat->Bd
  |0=>b
  |n+1=>(b.args first d n).put (AL (first+n) (d+n))
def Core.first(c:Core)(g:Int):Int:=((c.funcs[g.toNat]?).map CFn.first).getD 0
def Bd.called(b:Bd)(c:Core)(g:Int)(n d:Nat):Bd:=(b.args (c.first g) d n).put (E1 g)
def Bd.either0(b:Bd)(k:Int)(d:Nat):Bd:=bif k==8 then b.opened.opened.fork d b.blocks.length (b.blocks.length+1)else b.opened.opened.fork d (b.blocks.length+1) b.blocks.length
mutual
def CE.build(c:Core):CE->Nat->Bd->Bd
  | .mk k o n s z kids,d,b=>
    if k=1 then b.put (AY d n)
    else if k=2 then b.put (Dx d s)
    else if k=3 then(CE.buildL c kids d b).put (GZ d d s z)
    else if k=4 then((CE.buildL c kids d b).called c s kids.length d).put (Dx d c.words)
    else if k=5 then b.put (Mv d)
    else if k=6 then(CE.buildL c kids d b).put (AP o d d (d+1))
    else if k=7 then(CE.buildL c kids d b).not d
    else if k=8\/k=9 then D5 c k kids d b
    else b
def CE.buildL(c:Core):List CE->Nat->Bd->Bd
  | [],_,b=>b
  |e::l,d,b=>CE.buildL c l (d+1) (e.build c d b)
def D5(c:Core)(k:Int):List CE->Nat->Bd->Bd
  | [],_,b=>b
  |e::l,d,b=>D4 c l d ((e.build c d b).truth e d) k
def D4(c:Core):List CE->Nat->Bd->Int->Bd
  | [],_,b,_=>b
  |e::_,d,b,k=>((b.either0 k d).inside b.blocks.length (b.blocks.length+1) fun x=>(e.build c d x).truth e d).go (b.blocks.length+1)
end
def Bd.leave(b:Bd)(c:Core)(w:Bool):Bd:=(bif w then(b.put (AY 0 0)).put (AL c.words 0)else b).ret
def Bd.next(b:Bd):Bd:=b.opened.go b.blocks.length
mutual
def CS.build(c:Core)(w:Bool):CS->Bd->Bd
  | .mk k s z es thn els,b=>
    if k=1 then(CE.buildL c es 0 b).put (AL s 0)
    else if k=2 then(CE.buildL c es 0 b).put (BN 0 1 s z)
    else if k=3 then(CE.buildL c es 0 b).put (J8 0)
    else if k=6 then(CE.buildL c es 0 b).called c s es.length 0
    else if k=7 then(if es=[]then b.leave c w else(CE.buildL c es 0 b).put (AL c.words 0)).next
    else if k=4 then
      let b1:=CE.buildL c es 0 b
      let n:=b1.blocks.length
      let b2:=if els=[]then(b1.opened.opened).fork 0 n (n+1)else(b1.opened.opened.opened.inside (n+2) (n+1) fun x=>CS.buildL c w els x).fork 0 n (n+2)
      (b2.inside n (n+1) fun x=>CS.buildL c w thn x).go (n+1)
    else if k=5 then
      let n:=b.blocks.length
      let b1:=((b.opened.opened.opened).inside b.now n fun x=>x).go n
      let b2:=(CE.buildL c es 0 b1).fork 0 (n+1) (n+2)
      (b2.inside (n+1) n fun x=>CS.buildL c w thn x).go (n+2)
    else b
def CS.buildL(c:Core)(w:Bool):List CS->Bd->Bd
  | [],b=>b
  |s::l,b=>CS.buildL c w l (s.build c w b)
end
end Go.Proofs.YtmfihmkopmgelaaGreat.Sv
namespace Go.Proofs.YtmfihmkopmgelaaGreat.Sv
open Go
structure CM where
  m:Mach
  over:Bool
  val:Int
def CM.put(c:CM)(m:Mach):CM:={c with m:=m}
def CM.fin(c:CM):Int:=c.m.fin
def zf(b:Bool):Int:=bif b then 1 else 0
abbrev Cr:=Int->List Int->CM->Int×CM
section
variable (call : Cr) (s : ByteArray)
mutual
def CE.ev:CE->CM->Int×CM
  | .mk k o n sl z kids,c=>
    if k=1 then(n,c)
    else if k=2 then(Ak c.m.words sl,c)
    else if k=3 then CE.evI sl z kids c
    else if k=4 then CE.evC sl kids [] c
    else if k=5 then(bif decide (c.m.read<s.size)then(((FE s c.m.read).toNat:Int),c.put {c.m with read:=c.m.read+1})else(256,c))
    else Dm k o kids c
def CE.evI(sl z:Int):List CE->CM->Int×CM
  | [],c=>(0,c)
  |e::_,c=>match e.ev c with
    |(i,c1)=>bif c1.fin==0 then(bif decide (i>=z)then(0,c1.put {c1.m with fin:=3})else(Ak c1.m.words (sl+i),c1))else(0,c1)
def CE.evC(f:Int):List CE->List Int->CM->Int×CM
  | [],args,c=>call f args c
  |e::l,args,c=>match e.ev c with
    |(x,c1)=>bif c1.fin==0 then CE.evC f l (args++[x]) c1 else(0,c1)
def Dm(k o:Int):List CE->CM->Int×CM
  | [],c=>(0,c)
  |e::l,c=>match e.ev c with
    |(x,c1)=>bif c1.fin==0 then(bif k==7 then(zf (x==0),c1)else bif k==8&&x==0 then(0,c1)else bif k==9&& !(x==0)then(1,c1)else CE.evR k o l x c1)else(0,c1)
def CE.evR(k o:Int):List CE->Int->CM->Int×CM
  | [],_,c=>(0,c)
  |e::_,x,c=>match e.ev c with
    |(y,c1)=>bif k==8||k==9 then(zf (!(y==0)),c1)else bif c1.fin==0 then(bif (BG o x y).2==0 then((BG o x y).1,c1)else((BG o x y).1,c1.put {c1.m with fin:=2}))else(0,c1)
end
end
def BH(fuel:Int)(c:CM):Bool×CM:=((AI fuel c.m).1,c.put (AI fuel c.m).2)
def De(fuel:Int)(cond:CM->Int×CM)(body:CM->CM):Nat->CM->CM
  |0,c=>c.put {c.m with fin:=5}
  | g +1,c=>bif c.fin==0&& !c.over then(bif (BH fuel c).1 then(match cond (BH fuel c).2 with
      |(x,c1)=>bif c1.fin==0&& !(x==0)then De fuel cond body g (body c1)else c1)else(BH fuel c).2)else c
def Cu(call:Cr)(s:ByteArray):List CE->CM->Int×CM
  | [],c=>(0,c)
  |e::_,c=>e.ev call s c
section
variable (call : Cr) (s : ByteArray) (fuel : Int)
mutual
def CS.run:CS->CM->CM
  | .mk k sl z es thn els,c=>
    if k=6 then(CE.evC call s sl es [] c).2
    else if k=5 then De fuel (Cu call s es) (fun c=>CS.runL thn c) (fuel.toNat+1) c
    else match Cu call s es c with
    |(x,c1)=>
      bif c1.fin==0 then
        (if k=7 then {c1 with over:=true,val:=x}
        else if k=1 then c1.put {c1.m with words:=rset c1.m.words sl x}
        else if k=2 then(match Cu call s (es.drop 1) c1 with
          |(y,c2)=>bif c2.fin==0 then(bif decide (x>=z)then c2.put {c2.m with fin:=3}else c2.put {c2.m with words:=rset c2.m.words (sl+x) y})else c2)
        else if k=3 then(bif decide (c1.m.out.length>=65536)then c1.put {c1.m with fin:=4}else c1.put {c1.m with out:=c1.m.out++[Ef x]})
        else(bif x==0 then CS.runL els c1 else CS.runL thn c1))
      else c1
def CS.runL:List CS->CM->CM
  | [],c=>c
  |st::l,c=>bif c.fin==0&& !c.over then CS.runL l (st.run c)else c
end
end
def Bt(w:List Int)(a:Int):Nat->List Int
  |0=>w
  |n+1=>rset (Bt w a n) (a+n) 0
def CT(w:List Int)(a:Int)(l:List Int):Nat->List Int
  |0=>w
  |n+1=>rset (CT w a l n) (a+n) (Ak l n)
def FM(C:Core)(s:ByteArray)(fuel:Int):Nat->Cr
  |0,_,_,c=>(0,c)
  |n+1,f,args,c=>
    bif (BH fuel c).1 then
      (match C.funcs[f.toNat]? with
      |none=>(0,c)
      |some g=>
        match CS.runL (FM C s fuel n) s fuel g.body ((BH fuel c).2.put {(BH fuel c).2.m with words:=CT (Bt c.m.words g.first g.slots.toNat) g.first args args.length})with
        |c1=>bif c1.over then(c1.val,{c1 with over:=false})else(0,c1))
    else(0,(BH fuel c).2)
def c0(C:Core):CM:=⟨⟨List.replicate C.words.toNat 0,[],0,0,0⟩,false,0⟩
def Iq(C:Core)(s:ByteArray)(fuel:Int):Mach:=
  match C.funcs[C.funcs.length-1]? with
  |none=>⟨[],[],0,0,0⟩
  |some g=>
    match(CS.runL (FM C s fuel (C.funcs.length-1)) s fuel g.body (c0 C)).m with
    |m=>bif m.fin==0 then {m with fin:=1}else m
inductive PE where
  |mk (kind op num:Int) (name:ByteArray) (kids:List PE)
inductive PSt where
  |mk (kind:Int) (name:ByteArray) (es:List PE) (thn els:List PSt)
structure PFn where
  name:ByteArray
  params:List ByteArray
  locals:List ByteArray
  word:Bool
  body:List PSt
structure PProg where
  vars:List ByteArray
  arrays:List (ByteArray×Int)
  funcs:List PFn
namespace PE
def kind:PE->Int|mk k _ _ _ _=>k
def op:PE->Int|mk _ o _ _ _=>o
def num:PE->Int|mk _ _ n _ _=>n
def name:PE->ByteArray|mk _ _ _ s _=>s
def kids:PE->List PE|mk _ _ _ _ l=>l
end PE
namespace PSt
def kind:PSt->Int|mk k _ _ _ _=>k
def name:PSt->ByteArray|mk _ s _ _ _=>s
def es:PSt->List PE|mk _ _ l _ _=>l
def thn:PSt->List PSt|mk _ _ _ l _=>l
def els:PSt->List PSt|mk _ _ _ _ l=>l
end PSt
def placeOf(s:ByteArray):List ByteArray->Nat->Int
  | [],_=> -1
  |x::l,k=>bif decide (x=s)then(k:Int)else placeOf s l (k+1)
def PFn.names(f:PFn):List ByteArray:=f.params++f.locals
def PProg.globals(p:PProg):List ByteArray:=p.vars++(p.arrays.map (·.1))++p.funcs.map (·.name)
def PProg.find(p:PProg)(f:Nat)(s:ByteArray):Int×Int:=
  let own:Int:=match p.funcs[f]? with
    |some g=>placeOf s g.names 0
    |none=> -1
  bif decide (0<=own)then(1,own)else
  let k:=placeOf s p.globals 0
  bif decide (k<0)then(0,-1)
  else bif decide (k<p.vars.length)then(2,k)
  else bif decide (k-p.vars.length<p.arrays.length)then(3,k-p.vars.length)
  else(4,k-p.vars.length-p.arrays.length)
structure PM where
  m:Mach
  arrs:List (List Int)
def PM.fin(c:PM):Int:=c.m.fin
def PM.put(c:PM)(m:Mach):PM:={c with m:=m}
def PM.tick(fuel:Int)(c:PM):PM:=c.put (AI fuel c.m).2
def PM.arr(c:PM)(i:Int):List Int:=(c.arrs[i.toNat]?).getD []
abbrev Ct:=Nat->List Int->PM->Int×PM
section
variable (p : PProg) (call : Ct) (s : ByteArray) (f : Nat) (ws : List Int)
mutual
def PE.ev:PE->PM->Int×PM
  | .mk k o n nm kids,c=>
    bif !(c.fin==0)then(0,c)
    else if k=1 then(n,c)
    else if k=2 then(bif (p.find f nm).1==1 then Ak ws (p.find f nm).2 else Ak c.m.words (p.find f nm).2,c)
    else if k=3 then PE.evI (p.find f nm).2 kids c
    else if k=4 then PE.evC (p.find f nm).2.toNat kids [] c
    else if k=5 then(bif decide (c.m.read<s.size)then(((FE s c.m.read).toNat:Int),c.put {c.m with read:=c.m.read+1})else(256,c))
    else if k=6 then I6 o kids c
    else if k=7 then I7 kids c
    else PE.evL (k==8) kids c
def PE.evI(i:Int):List PE->PM->Int×PM
  | [],c=>(0,c)
  |e::_,c=>match e.ev c with
    |(x,c1)=>bif c1.fin==0 then(bif decide (x>=(c1.arr i).length)then(0,c1.put {c1.m with fin:=3})else(Ak (c1.arr i) x,c1))else(0,c1)
def PE.evC(g:Nat):List PE->List Int->PM->Int×PM
  | [],args,c=>call g args c
  |e::l,args,c=>match e.ev c with
    |(x,c1)=>PE.evC g l (args++[x]) c1
def I6(o:Int):List PE->PM->Int×PM
  | [],c=>(0,c)
  |e::l,c=>match e.ev c with
    |(x,c1)=>PE.evR o l x c1
def PE.evR(o:Int):List PE->Int->PM->Int×PM
  | [],_,c=>(0,c)
  |e::_,x,c=>match e.ev c with
    |(y,c1)=>bif c1.fin==0 then(bif (BG o x y).2==0 then((BG o x y).1,c1)else((BG o x y).1,c1.put {c1.m with fin:=2}))else(0,c1)
def I7:List PE->PM->Int×PM
  | [],c=>(0,c)
  |e::_,c=>match e.ev c with
    |(x,c1)=>(zf (x==0),c1)
def PE.evL(both:Bool):List PE->PM->Int×PM
  | [],c=>(0,c)
  |e::l,c=>match e.ev c with
    |(x,c1)=>bif both then(bif x==0 then(0,c1)else CU l c1)else(bif x==0 then CU l c1 else(x,c1))
def CU:List PE->PM->Int×PM
  | [],c=>(0,c)
  |e::_,c=>e.ev c
end
end
structure PX where
  ws:List Int
  back:Bool
  val:Int
  c:PM
def PX.fin(x:PX):Int:=x.c.fin
def PX.on(x:PX):Bool:=x.fin==0&& !x.back
def PX.tick(fuel:Int)(x:PX):PX:={x with c:=x.c.tick fuel}
def DA(fuel:Int)(cond:PX->Int×PM)(body:PX->PX):Nat->PX->PX
  |0,x=>{x with c:=x.c.put {x.c.m with fin:=5}}
  | g +1,x=>bif x.on then(match cond x with
      |(v,c1)=>bif v==0|| !(c1.fin==0)then {x with c:=c1}else(match body {x with c:=c1}with
        |y=>DA fuel cond body g (bif y.on then y.tick fuel else y)))else x
section
variable (p : PProg) (call : Ct) (s : ByteArray) (fuel : Int) (f : Nat)
def PX.ev(l:List PE)(x:PX):Int×PM:=CU p call s f x.ws l x.c
mutual
def PSt.run:PSt->PX->PX
  | .mk k nm es thn els,x=>
    if k=1 then(match PX.ev p call s f es x with
      |(v,c1)=>bif c1.fin==0 then(bif (p.find f nm).1==1 then {x with c:=c1,ws:=rset x.ws (p.find f nm).2 v}else {x with c:=c1.put {c1.m with words:=rset c1.m.words (p.find f nm).2 v}})else {x with c:=c1})
    else if k=2 then(match PX.ev p call s f es x with
      |(a,c1)=>match PX.ev p call s f (es.drop 1) {x with c:=c1}with
        |(v,c2)=>bif c2.fin==0 then(bif decide (a>=(c2.arr (p.find f nm).2).length)then {x with c:=c2.put {c2.m with fin:=3}}else {x with c:={c2 with arrs:=c2.arrs.set (p.find f nm).2.toNat (rset (c2.arr (p.find f nm).2) a v)}})else {x with c:=c2})
    else if k=3 then(match PX.ev p call s f es x with
      |(v,c1)=>bif c1.fin==0 then(bif decide (c1.m.out.length>=65536)then {x with c:=c1.put {c1.m with fin:=4}}else {x with c:=c1.put {c1.m with out:=c1.m.out++[Ef v]}})else {x with c:=c1})
    else if k=4 then(match PX.ev p call s f es x with
      |(v,c1)=>bif v==0 then PSt.runL els {x with c:=c1}else PSt.runL thn {x with c:=c1})
    else if k=5 then DA fuel (fun x=>PX.ev p call s f es x) (fun x=>PSt.runL thn x) (fuel.toNat+1) (x.tick fuel)
    else if k=6 then {x with c:=(PE.evC p call s f x.ws (p.find f nm).2.toNat es [] x.c).2}
    else if k=7 then(match PX.ev p call s f es x with
      |(v,c1)=>{x with c:=c1,back:=true,val:=v})
    else x
def PSt.runL:List PSt->PX->PX
  | [],x=>x
  |st::l,x=>bif x.on then PSt.runL l (st.run x)else x
end
end
def CQ(p:PProg)(s:ByteArray)(fuel:Int):Nat->Ct
  |0,_,_,c=>(0,c)
  |n+1,f,args,c=>
    bif c.fin==0&&(c.tick fuel).fin==0 then
      (match p.funcs[f]? with
      |none=>(0,c)
      |some g=>match PSt.runL p (CQ p s fuel n) s fuel f g.body ⟨args++List.replicate g.locals.length 0,false,0,c.tick fuel⟩with
        |x=>(x.val,x.c))
    else bif c.fin==0 then(0,c.tick fuel)else(0,c)
def PProg.start(p:PProg):PM:=⟨⟨List.replicate p.vars.length 0,[],0,0,0⟩,p.arrays.map fun a=>List.replicate a.2.toNat 0⟩
def Js(p:PProg)(s:ByteArray)(fuel:Int):Mach:=
  match p.funcs[p.funcs.length-1]? with
  |none=>⟨[],[],0,0,0⟩
  |some g=>
    match(PSt.runL p (CQ p s fuel (p.funcs.length-1)) s fuel (p.funcs.length-1) g.body ⟨List.replicate g.locals.length 0,false,0,p.start⟩).c.m with
    |m=>bif m.fin==0 then {m with fin:=1}else m
def PProg.base(p:PProg):Int:=p.vars.length+(p.arrays.map (·.2)).sum
def PProg.first(p:PProg)(f:Nat):Int:=p.base+((p.funcs.take f).map fun g=>((g.names.length:Nat):Int)).sum
def PProg.words(p:PProg):Int:=p.first p.funcs.length
def PProg.slot(p:PProg)(f:Nat)(s:ByteArray):Int×Int:=
  let k:=p.find f s
  bif k.1==1 then(p.first f+k.2,0)
  else bif k.1==3 then(p.vars.length+((p.arrays.take k.2.toNat).map (·.2)).sum,((p.arrays[k.2.toNat]?).getD (s,0)).2)
  else(k.2,0)
section
variable (p : PProg) (f : Nat)
mutual
def PE.core:PE->CE
  | .mk k o n nm kids=>bif nm.size==0 then .mk k o n 0 0 (PE.coreL kids)else .mk k o n (p.slot f nm).1 (p.slot f nm).2 (PE.coreL kids)
def PE.coreL:List PE->List CE
  | []=>[]
  |e::l=>e.core::PE.coreL l
end
mutual
def PSt.core:PSt->CS
  | .mk k nm es thn els=>bif nm.size==0 then .mk k 0 0 (PE.coreL p f es) (PSt.coreL thn) (PSt.coreL els)else .mk k (p.slot f nm).1 (p.slot f nm).2 (PE.coreL p f es) (PSt.coreL thn) (PSt.coreL els)
def PSt.coreL:List PSt->List CS
  | []=>[]
  |e::l=>e.core::PSt.coreL l
end
end
def PProg.coreF(p:PProg)(i:Nat)(g:PFn):CFn:=⟨g.params.length,g.names.length,p.first i,g.word,PSt.coreL p i g.body⟩
def PProg.core(p:PProg):Core:=⟨p.words,p.funcs.zipIdx.map fun x=>p.coreF x.2 x.1⟩
end Go.Proofs.YtmfihmkopmgelaaGreat.Sv
namespace Go.Proofs.YtmfihmkopmgelaaGreat.Sv
open Go Go.ChangeShapes Go.WideShapes Go.ChangeAt Go.RowKit
section
variable {H : Type}
def DecB(m:Nat)(enc:TypeId×Value->H)(P:Program)(W:World)(t:TypeId){α:Type}(f:α->List AV)(Q:α->Prop):Prop:=
  ∀(fuel:Nat),fuel<=m->∀(cs:List Value) (x:DataW H×List MemPlace),DataW.trod enc P W 0 (fun _=>true) true fuel t cs=some x->(x.1.weights P t).all (· <=reachBytes)=true->∃a,Reads W cs (f a)/\Q a
variable {enc : TypeId × Value -> H} {P : Program} {W : World} {t e : TypeId}
theorem Dec.bound{α:Type}{f:α->List AV}{Q:α->Prop}(h:Dec enc P W t f Q)(m:Nat):DecB m enc P W t f Q:=fun fuel _=>h fuel
theorem YA{α:Type}{f:α->List AV}{Q:α->Prop}(h:∀m,DecB m enc P W t f Q):Dec enc P W t f Q:=fun fuel=>h fuel fuel (Nat.le_refl _)
theorem DecB.less{m m':Nat}{α:Type}{f:α->List AV}{Q:α->Prop}(h:DecB m enc P W t f Q)(hm:m'<=m):DecB m' enc P W t f Q:=fun fuel hf=>h fuel Aa
theorem DecB.slice{m:Nat}{α:Type}{f:α->List AV}{Q:α->Prop}(ht:P.underlying t=some (.slice e))(hc:0<P.cellsOf e)(he:DecB m enc P W e f Q):
 DecB (m+1) enc P W t (fun l:List α=>[.lst false (l.map f)]) (fun l=>l.length*P.bytesOf e<=reachBytes/\∀a∈l,Q a):=fun fuel hm cs x h hw=>by
 rcases DataW.trod_slice ht h with⟨rfl,rfl⟩|⟨a,len,cap,elems,rest,n,rfl,rfl,rfl,hb,hl,hm',hlen,hel,hsp,hns⟩
 . exact⟨[],.one (.lst0 _ _ _ _ Em (Nat.zero_le _) (fun _=>rfl) trivial) rfl,by simp,fun a h=>by cases h⟩
 simp only[DataW.weights,ht,List.all_cons,List.all_append,Bool.and_eq_true,decide_eq_true_eq,List.length_map]at hw;obtain⟨w1,w2,w3⟩:=hw;have key:∀i,i<len->∃y,∃cs',W.cells? 0 (a.add (i*P.cellsOf e)) (P.cellsOf e)=some cs'/\Reads W cs' (f y)/\Q y:=fun i hi=>by
  have h1:=hel i hi;have hlt:i<elems.length:=by omega
  rw[List.getElem?_eq_getElem hlt]at h1;rw[Option.bind_eq_some_iff]at h1;obtain⟨cs',c1,c2⟩:=h1;obtain⟨y,y1,y2⟩:=he _ Aa _ _ c2 (Fp w2 (i:=i) db);exact⟨y,cs',c1,y1,y2⟩
 obtain⟨l,l1,l2⟩:=HK len key;have hQ:∀y∈l,Q y:=fun y hy=>by
  obtain⟨i,hi⟩:=List.mem_iff_getElem?.1 hy;obtain⟨cs',_,_,q⟩:=l2 i y hi;exact q
 have hbytes:l.length*P.bytesOf e<=reachBytes:=by
  refine Nat.le_trans (Nat.mul_le_mul_right _ ?_) w1;omega
 refine⟨l,.one ?_ rfl,hbytes,hQ⟩
 by_cases h0:len=0
 . have:l=[]:=List.length_eq_zero_iff.1 Aa;subst this;subst h0;exact .lst0 _ _ _ _ Em hm' Em trivial
 . obtain⟨y0,cs0,k1,k2,k3⟩:=key 0 Aa;obtain⟨_,m1,m2⟩:=World.cells?_some k1;have hz:cs0[0]?=some cs0[0]:=List.getElem?_eq_getElem Aa;have hcell:=m2 0 hc;rw[hz]at hcell;have ha0:(a.add (0*P.cellsOf e)).add 0=a:=by simp[Addr.add]
   rw[ha0]at hcell;obtain⟨c,hH,hspot,_⟩:=Gg hcell;obtain⟨ab,ao,asp⟩:=a;simp only at hspot hH;subst hspot;have hsz:∀(i:Nat) (xs:List AV),(l.map f)[i]?=some xs->xs.length=P.cellsOf e/\∀(j:Nat) (x:AV),xs[j]?=some x->∃v,c[ao+i*P.cellsOf e+j]?=some v/\Rel (Cf W) BI x v/\x.cell1=true:=fun i xs hi=>by
    exact fF
   have:=Rel.lst (H:=Cf W) BI false (l.map f) ab ao cap (P.cellsOf e) c (fun i j=>(c[ao+i*P.cellsOf e+j]?).getD undef) (fun hh=>by rw[List.map_eq_nil_iff]at hh;subst hh;simp at l1;omega) hH
    (fun i xs hi=>(hsz i xs hi).1) fV
    fY fX Em (by simp[l1];exact hl) hm'
   rw[List.length_map,l1]at this;exact this
variable {T : Nat -> Option AD}
theorem DecB.slice'{m:Nat}{α:Type}{f:α->List AV}{Q:α->Prop}{i j:AD}{u:Nat}(hT:DP P T)(hi:T t=some i)(hk:i.k=.slice u)(hj:T u=some j)(hp:0<j.size)(he:DecB m enc P W u f Q):
 DecB (m+1) enc P W t (fun l:List α=>[.lst false (l.map f)]) (fun l=>l.length*j.bytes<=reachBytes/\∀a∈l,Q a):=by
 obtain⟨info,d,e1,e2,e3,e4,e5,e6⟩:=Av (hT _ _ hi);have hd:=Cy (P:=P) (d:=d) (e3▸hk);subst hd;have:=DecB.slice (m:=m) (enc:=enc) (W:=W) e2 (by rw[FN hT hj];exact hp) he;rwa[MT hT hj]at this
def eP(m:Nat)(enc:TypeId×Value->H)(P:Program)(W:World)(T:Nat->Option AD)(cs:List Value)(fs:List (Nat×Nat)):Prop:=
  ∀(i off u:Nat),fs[i]?=some (off,u)->∀{α:Type} {f:α->List AV} {Q:α->Prop},DecB m enc P W u f Q->∃a,Reads W ((cs.drop off).take (P.cellsOf u)) (f a)/\Q a
theorem Iw{m:Nat}{i:AD}{fs:List (Nat×Nat)}(hT:DP P T)(hi:T t=some i)(hk:i.k=.struct fs){fuel:Nat}(hm:fuel<=m+1){cs:List Value}{x:DataW H×List MemPlace}(h:DataW.trod enc P W 0 (fun _=>true) true fuel t cs=some x)(hw:(x.1.weights P t).all (· <=reachBytes)=true):
 cs.length=i.size/\eP m enc P W T cs fs:=by
 obtain⟨info,d,e1,e2,e3,e4,e5,e6⟩:=Av (hT _ _ hi);obtain⟨A,rfl,rfl,_⟩:=Ep (P:=P) (d:=d) (e3▸hk);obtain⟨xs,n,rfl,rfl,hl,hxl,hx⟩:=DataW.trod_struct e2 h;refine⟨by rw[hl,FN hT hi],fun j off u hj α f Q hd=>?_⟩;rw[List.getElem?_map,Option.map_eq_some_iff]at hj;obtain⟨F,hF,hF2⟩:=hj;simp only[Prod.mk.injEq]at hF2;obtain⟨rfl,rfl⟩:=hF2;have hFa:A[j]?=some F:=by simpa using hF
 have hjlt:j<xs.length:=by rw[hxl];exact(Array.getElem?_eq_some_iff.1 hFa).1
 have h1:=hx j F hFa;rw[List.getElem?_eq_getElem hjlt]at h1;simp only[DataW.weights,e2]at hw;exact hd _ Aa _ _ h1 (C2 hw (i:=j) (by rw[List.getElem?_map,hF];rfl) (by rw[List.getElem?_map,List.getElem?_eq_getElem hjlt];rfl))
end
end Go.Proofs.YtmfihmkopmgelaaGreat.Sv
namespace Go.Proofs.YtmfihmkopmgelaaGreat.Sv
open Go
section
variable {call call' : Int -> Mach -> Mach} {s : ByteArray} {fuel : Int}
def My(fuel:Int)(g:Nat)(m:Mach):Prop:=fuel.toNat<m.steps+g
end
section
variable {call : Int -> Mach -> Mach} {s : ByteArray} {fuel : Int}
theorem QS(hcs:∀i m,m.steps<=(call i m).steps){f:BFunc}:∀(g g':Nat) (i:Int) (regs:List Int) (m:Mach),My fuel g m->My fuel g' m->0<g->0<g'->E6 call s fuel f g i regs m=E6 call s fuel f g' i regs m
 |0,_,_,_,_,_,_,h,_=>absurd h Aa
 |_+1,0,_,_,_,_,_,_,h=>absurd h Aa
 |g+1,g'+1,i,regs,m,h1,h2,_,_=>by
  unfold E6
  cases hk:f.blocks[i.toNat]? with
  |none=>rfl
  |some k=>
   have hst:=GX (s:=s) (fuel:=fuel) hcs k.ins regs m;dsimp only;generalize Da call s fuel k.ins regs m=X at hst|-;obtain⟨X1,X2,X3⟩:=X;dsimp only at hst|-
   cases X1 with
   |false=>rfl
   |true=>
    simp only[cond_true]
    cases hm:(AI fuel X3).1&& !(k.fin==3)with
    |false=>rfl
    |true=>
     simp only[cond_true];rw[Bool.and_eq_true]at hm;obtain⟨e1,e2⟩:=GV hm.1;unfold My at h1 h2;refine QS hcs g g' _ _ _ ?_ ?_ ?_ ?_
     . unfold My;rw[e2];dsimp only;omega
     . unfold My;rw[e2];dsimp only;omega
     . omega
     . omega
end
abbrev BS:=Nat×Nat
abbrev nx(a:BS):BS:=(a.1,a.2+1)
def InsAt(G:List Block)(a:BS)(t:Tac):Prop:=∃x,G[a.1]?=some x/\x.ins[a.2]?=some t
def BD(G:List Block)(a:BS)(fin v to els:Int):Prop:=∃x,G[a.1]?=some x/\x.ins.length=a.2/\x.fin=fin/\x.v=v/\x.to=to/\x.els=els
def Ng(call:Int->Mach->Mach)(s:ByteArray)(fuel:Int)(f:BFunc)(a:BS)(regs:List Int)(m:Mach):Mach:=
  match f.blocks[a.1]? with
  |none=>m
  |some k=>
    let p:=Da call s fuel (k.ins.drop a.2) regs m
    bif p.1 then(bif (AI fuel p.2.2).1&& !(k.fin==3)then E6 call s fuel f (fuel.toNat+1) (k.next p.2.1) p.2.1 (AI fuel p.2.2).2 else(AI fuel p.2.2).2)
    else p.2.2
section
variable {call : Int -> Mach -> Mach} {s : ByteArray} {fuel : Int} {f : BFunc}
theorem SJ(hcs:∀i m,m.steps<=(call i m).steps){i:Nat}{regs:List Int}{m:Mach}:E6 call s fuel f (fuel.toNat+1) (i:Int) regs m=Ng call s fuel f (i,0) regs m:=by
 unfold E6 Ng;rw[Int.toNat_natCast];dsimp only
 cases hk:f.blocks[i]? with
 |none=>rfl
 |some k=>
  have hst:=GX (s:=s) (fuel:=fuel) hcs k.ins regs m;simp only[List.drop_zero];generalize Da call s fuel k.ins regs m=X at hst|-;obtain⟨X1,X2,X3⟩:=X;dsimp only at hst|-
  cases X1 with
  |false=>rfl
  |true=>
   simp only[cond_true]
   cases hm:(AI fuel X3).1&& !(k.fin==3)with
   |false=>rfl
   |true=>
    simp only[cond_true];rw[Bool.and_eq_true]at hm;obtain⟨e1,e2⟩:=GV hm.1;refine QS hcs _ _ _ _ _ ?_ ?_ ?_ ?_
    . unfold My;rw[e2];dsimp only;omega
    . unfold My;rw[e2];dsimp only;omega
    . omega
    . omega
theorem Jz{m:Mach}(h:m.steps<fuel):AI fuel m=(true,{m with steps:=m.steps+1}):=by
 unfold AI;rw[decide_eq_false Aa];rfl
theorem bR{a:BS}{t:Tac}{regs:List Int}{m:Mach}(ht:InsAt f.blocks a t)(hs:m.steps<fuel)(h0:(A7 call s t regs {m with steps:=m.steps+1}).2.fin=0):
 Ng call s fuel f a regs m=Ng call s fuel f (nx a) (A7 call s t regs {m with steps:=m.steps+1}).1 (A7 call s t regs {m with steps:=m.steps+1}).2:=by
 obtain⟨k,hk,hp⟩:=ht;have hd:k.ins.drop a.2=t::k.ins.drop (a.2+1):=by
  rw[List.drop_eq_getElem_cons (List.getElem?_eq_some_iff.1 hp).1,(List.getElem?_eq_some_iff.1 hp).2]
 unfold Ng;simp only[hk,hd,Da,Jz hs,cond_true];rw[h0];rfl
theorem bS{a:BS}{t:Tac}{regs:List Int}{m:Mach}(ht:InsAt f.blocks a t)(hs:m.steps<fuel)(h0:(A7 call s t regs {m with steps:=m.steps+1}).2.fin≠0):
 Ng call s fuel f a regs m=(A7 call s t regs {m with steps:=m.steps+1}).2:=by
 obtain⟨k,hk,hp⟩:=ht;have hd:k.ins.drop a.2=t::k.ins.drop (a.2+1):=by
  rw[List.drop_eq_getElem_cons (List.getElem?_eq_some_iff.1 hp).1,(List.getElem?_eq_some_iff.1 hp).2]
 unfold Ng;simp only[hk,hd,Da,Jz hs,cond_true];rw[show((A7 call s t regs {m with steps:=m.steps+1}).2.fin==0)=false by simpa using h0];rfl
theorem bU(hcs:∀i m,m.steps<=(call i m).steps){a:BS}{fin v to els:Int}{regs:List Int}{m:Mach}(ht:BD f.blocks a fin v to els)(hs:m.steps<fuel)(h3:fin≠3){n:Nat}
 (hn:(bif fin==2&&Ak regs v==0 then els else to)=(n:Int)):Ng call s fuel f a regs m=Ng call s fuel f (n,0) regs {m with steps:=m.steps+1}:=by
 obtain⟨k,hk,hp,rfl,rfl,rfl,rfl⟩:=ht;have hd:k.ins.drop a.2=[]:=by rw[<-hp,List.drop_length]
 rw[<-SJ hcs];conv=>lhs;unfold Ng
 simp only[hk,hd,Da,Jz hs,cond_true];rw[show(k.fin==3)=false by simpa using h3];simp only[Bool.not_false,Bool.and_self,cond_true];unfold Block.next;rw[hn]
theorem gm{a:BS}{v to els:Int}{regs:List Int}{m:Mach}(ht:BD f.blocks a 3 v to els)(hs:m.steps<fuel):Ng call s fuel f a regs m={m with steps:=m.steps+1}:=by
 obtain⟨k,hk,hp,h3,_⟩:=ht;have hd:k.ins.drop a.2=[]:=by rw[<-hp,List.drop_length]
 unfold Ng;simp only[hk,hd,Da,Jz hs,cond_true];rw[h3];rfl
end
structure Cl where
  c:Int->Int->Mach->Mach
  st:∀fu i m,m.steps<=(c fu i m).steps
structure Goes(C:Cl)(s:ByteArray)(f:BFunc)(a:BS)(regs:List Int)(m:Mach)(b:BS)(regs':List Int)(m':Mach):Prop where
  le:m.steps<=m'.steps
  eq:∀fu:Nat,m'.steps<=fu->Ng (C.c fu) s fu f a regs m=Ng (C.c fu) s fu f b regs' m'
structure F8(C:Cl)(s:ByteArray)(f:BFunc)(a:BS)(regs:List Int)(m m':Mach):Prop where
  le:m.steps<=m'.steps
  eq:∀fu:Nat,m'.steps<=fu->Ng (C.c fu) s fu f a regs m=m'
section
variable {C : Cl} {s : ByteArray} {f : BFunc}
theorem Goes.refl(a:BS)(regs:List Int)(m:Mach):Goes C s f a regs m a regs m:=⟨Nat.le_refl _,fun _ _=>rfl⟩
theorem Goes.trans{a b c:BS}{r r1 r2:List Int}{m m1 m2:Mach}(h1:Goes C s f a r m b r1 m1)(h2:Goes C s f b r1 m1 c r2 m2):Goes C s f a r m c r2 m2:=
 ⟨Nat.le_trans h1.le h2.le,fun fu h=>(h1.eq fu (Nat.le_trans h2.le h)).trans (h2.eq fu h)⟩
theorem Goes.stops{a b:BS}{r r1:List Int}{m m1 m2:Mach}(h1:Goes C s f a r m b r1 m1)(h2:F8 C s f b r1 m1 m2):F8 C s f a r m m2:=
 ⟨Nat.le_trans h1.le h2.le,fun fu h=>(h1.eq fu (Nat.le_trans h2.le h)).trans (h2.eq fu h)⟩
theorem BX{a:BS}{t:Tac}{regs r':List Int}{m m':Mach}(ht:InsAt f.blocks a t)(hm:∀call,A7 call s t regs {m with steps:=m.steps+1}=(r',m'))(h0:m'.fin=0)(hst:m'.steps=m.steps+1):Goes C s f a regs m (nx a) r' m':=
 ⟨by omega,fun fu h=>by
  have:=bR (call:=C.c fu) (s:=s) (fuel:=fu) (regs:=regs) (m:=m) ht Aa (by rw[hm];exact h0);rw[this,hm]⟩
theorem ND{a:BS}{t:Tac}{regs r':List Int}{m m':Mach}(ht:InsAt f.blocks a t)(hm:∀call,A7 call s t regs {m with steps:=m.steps+1}=(r',m'))(h0:m'.fin≠0)(hst:m'.steps=m.steps+1):F8 C s f a regs m m':=
 ⟨by omega,fun fu h=>by
  have:=bS (call:=C.c fu) (s:=s) (fuel:=fu) (regs:=regs) (m:=m) ht Aa (by rw[hm];exact h0);rw[this,hm]⟩
theorem Vh{a:BS}{g:Int}{regs:List Int}{m m':Mach}(ht:InsAt f.blocks a (E1 g))(hm:∀fu:Nat,m'.steps<=fu->C.c fu g {m with steps:=m.steps+1}=m')(h0:m'.fin=0)(hst:m.steps+1<=m'.steps):Goes C s f a regs m (nx a) regs m':=
 ⟨by omega,fun fu h=>by
  have e:A7 (C.c fu) s (E1 g) regs {m with steps:=m.steps+1}=(regs,m'):=by
   rw[SI rfl,hm fu h]
  have:=bR (call:=C.c fu) (s:=s) (fuel:=fu) (regs:=regs) (m:=m) ht Aa (by rw[e];exact h0);rw[this,e]⟩
theorem R3{a:BS}{g:Int}{regs:List Int}{m m':Mach}(ht:InsAt f.blocks a (E1 g))(hm:∀fu:Nat,m'.steps<=fu->C.c fu g {m with steps:=m.steps+1}=m')(h0:m'.fin≠0)(hst:m.steps+1<=m'.steps):F8 C s f a regs m m':=
 ⟨by omega,fun fu h=>by
  have e:A7 (C.c fu) s (E1 g) regs {m with steps:=m.steps+1}=(regs,m'):=by
   rw[SI rfl,hm fu h]
  have:=bS (call:=C.c fu) (s:=s) (fuel:=fu) (regs:=regs) (m:=m) ht Aa (by rw[e];exact h0);rw[this,e]⟩
theorem GB{a:BS}{to:Nat}{regs:List Int}{m:Mach}(ht:BD f.blocks a 1 0 to 0):Goes C s f a regs m (to,0) regs {m with steps:=m.steps+1}:=
 ⟨Nat.le_succ _,fun fu h=>bU (C.st fu) ht dc Ab rfl⟩
theorem Ib{a:BS}{v to els:Nat}{regs:List Int}{m:Mach}(ht:BD f.blocks a 2 v to els):Goes C s f a regs m (if Ak regs v=0 then els else to,0) regs {m with steps:=m.steps+1}:=
 ⟨Nat.le_succ _,fun fu h=>bU (C.st fu) ht dc Ab (by
  by_cases e:Ak regs v=0
  . rw[if_pos e,e];rfl
  . rw[if_neg e,show(Ak regs v==0)=false by simpa using e];rfl)⟩
theorem JR{a:BS}{v to els:Int}{regs:List Int}{m:Mach}(ht:BD f.blocks a 3 v to els):F8 C s f a regs m {m with steps:=m.steps+1}:=
 ⟨Nat.le_succ _,fun fu h=>gm ht dc⟩
end
def Ui(G:List Block)(a:BS)(d:Nat)(b:BS):Prop:=InsAt G a (AY (d+1) 0)/\InsAt G (nx a) (AP 15 d d (d+1))/\b=nx (nx a)
def E9(G:List Block)(e:CE)(a:BS)(d:Nat)(b:BS):Prop:=if e.flagged=true then b=a else ∃a1,Ui G a d a1/\InsAt G a1 (AP 15 d d (d+1))/\b=nx a1
def JP(G:List Block)(a:BS)(first g:Int)(n d:Nat)(b:BS):Prop:=(∀i,i<n->InsAt G (a.1,a.2+i) (AL (first+i) (d+i)))/\InsAt G (a.1,a.2+n) (E1 g)/\b=(a.1,a.2+n+1)
mutual
def CE.code(c:Core)(G:List Block):CE->Nat->BS->BS->Prop
  | .mk k o n s z kids,d,a,b=>
    if k=1 then InsAt G a (AY d n)/\b=nx a
    else if k=2 then InsAt G a (Dx d s)/\b=nx a
    else if k=3 then ∃a1,CE.codeL c G kids d a a1/\InsAt G a1 (GZ d d s z)/\b=nx a1
    else if k=4 then ∃a1 a2,CE.codeL c G kids d a a1/\JP G a1 (c.first s) s kids.length d a2/\InsAt G a2 (Dx d c.words)/\b=nx a2
    else if k=5 then InsAt G a (Mv d)/\b=nx a
    else if k=6 then ∃a1,CE.codeL c G kids d a a1/\InsAt G a1 (AP o d d (d+1))/\b=nx a1
    else if k=7 then ∃a1,CE.codeL c G kids d a a1/\Ui G a1 d b
    else if k=8\/k=9 then Nb c G k kids d a b
    else False
def CE.codeL(c:Core)(G:List Block):List CE->Nat->BS->BS->Prop
  | [],_,a,b=>b=a
  |e::l,d,a,b=>∃a1,e.code c G d a a1/\CE.codeL c G l (d+1) a1 b
def Nb(c:Core)(G:List Block)(k:Int):List CE->Nat->BS->BS->Prop
  | [],_,_,_=>False
  |e::l,d,a,b=>∃a1 a2,e.code c G d a a1/\E9 G e a1 d a2/\Na c G k l d a2 b
def Na(c:Core)(G:List Block)(k:Int):List CE->Nat->BS->BS->Prop
  | [],_,_,_=>False
  |e::_,d,a,b=>∃(r h:Nat) (a1 a2:BS),(if k=8 then BD G a 2 d r h else BD G a 2 d h r)/\e.code c G d (r,0) a1/\E9 G e a1 d a2/\BD G a2 1 0 h 0/\b=(h,0)
end
mutual
def CE.ok(C:Core)(n:Nat):CE->Prop
  | .mk k o num s z kids=>CE.okL C n kids/\
    ((k=1/\CW num)\/(k=2/\0<=s/\s<C.words)\/(k=3/\kids.length=1/\1<=z/\z<=4096/\0<=s/\s+z<=C.words)\/
     (k=4/\0<=s/\s<n/\∃g,C.funcs[s.toNat]?=some g/\g.word=true/\g.params=kids.length/\kids.length<=6)\/k=5\/(k=6/\kids.length=2/\4<=o/\o<=15)\/(k=7/\kids.length=1)\/(k=8/\kids.length=2)\/(k=9/\kids.length=2))
def CE.okL(C:Core)(n:Nat):List CE->Prop
  | []=>True
  |e::l=>e.ok C n/\CE.okL C n l
end
structure RelM(W M:Nat)(c m:Mach):Prop where
  clen:c.words.length=W
  len:m.words.length=M
  w:∀j:Nat,j<W->m.words[j]?=c.words[j]?
  ok:Dc c.words
  out:m.out=c.out
  read:m.read=c.read
  fin:m.fin=0
  cfin:c.fin=0
theorem RelM.get{W M:Nat}{c m:Mach}(h:RelM W M c m){z:Int}(h0:0<=z)(h1:z<W):Ak m.words z=Ak c.words z:=by
 unfold Ak;rw[h.w z.toNat Aa]
theorem RelM.step{W M:Nat}{c m:Mach}(h:RelM W M c m)(k j:Nat):RelM W M {c with steps:=k} {m with steps:=j}:=⟨h.clen,h.len,h.w,h.ok,h.out,h.read,h.fin,h.cfin⟩
theorem RelM.put{W M:Nat}{c m:Mach}(h:RelM W M c m){z v:Int}(h0:0<=z)(h1:z<W)(hv:CW v)(k j:Nat):RelM W M {c with words:=rset c.words z v,steps:=k} {m with words:=rset m.words z v,steps:=j}:=by
 refine⟨by unfold rset;rw[List.length_set];exact h.clen,by unfold rset;rw[List.length_set];exact h.len,fun i hi=>?_,?_,h.out,h.read,h.fin,h.cfin⟩
 . have hc:=h.clen;have hm:=h.len;have hw:=h.w i hi;show(m.words.set z.toNat v)[i]?=(c.words.set z.toNat v)[i]?;have hi2:i<m.words.length:=by
    rw[List.getElem?_eq_getElem (by omega:i<c.words.length)]at hw;exact(List.getElem?_eq_some_iff.1 hw).1
   rw[List.getElem?_set,List.getElem?_set]
   by_cases e:z.toNat=i
   . rw[if_pos e,if_pos e,if_pos Aa,if_pos Aa]
   . rw[if_neg e,if_neg e];exact hw
 . exact DB h.ok z hv
structure Cx where
  C:Core
  s:ByteArray
  F:BFunc
  cl:Cl
  call:Cr
  n:Nat
  W:Nat
  M:Nat
  K:Nat
structure PG(X:Cx)(g:Int)(fn:CFn)(c:CM)(m:Mach)(p:Int×CM):Prop where
  le:c.m.steps<=p.2.m.steps
  go:p.2.fin=0->p.2.over=false/\CW p.1/\∃m',(∀fu:Nat,m'.steps<=fu->X.cl.c fu g m=m')/\m.steps<=m'.steps/\RelM X.W X.M p.2.m m'/\(fn.word=true->Ak m'.words X.C.words=p.1)/\m'.steps+X.K*c.m.steps<=m.steps+X.K*p.2.m.steps
  stop:p.2.fin≠0->p.2.fin≠5->∃m',(∀fu:Nat,m'.steps<=fu->X.cl.c fu g m=m')/\m.steps<=m'.steps/\m'.fin=p.2.fin/\m'.out=p.2.m.out/\m'.steps+X.K*c.m.steps<=m.steps+X.K*p.2.m.steps
structure Hn(X:Cx):Prop where
  w:X.C.words=(X.W:Int)
  wm:X.W<=X.M
  told:∀fn∈X.C.funcs,fn.word=true->X.W<X.M
  regs:∀x∈X.F.blocks,∀t∈x.ins,setsOp t.op=true->0<=t.d/\t.d<X.F.regs
  call:∀(g:Nat) (fn:CFn) (args:List Int) (c:CM) (m0 m:Mach),g<X.n->X.C.funcs[g]?=some fn->(args.length:Int)=fn.params->(∀x∈args,CW x)->c.over=false->RelM X.W X.M c.m m0->
    m.words=CT m0.words fn.first args args.length->m.out=m0.out->m.read=m0.read->m.fin=0->PG X g fn c m (X.call g args c)
theorem InsAt.reg{X:Cx}(hX:Hn X){a:BS}{t:Tac}(h:InsAt X.F.blocks a t)(hs:setsOp t.op=true):0<=t.d/\t.d<X.F.regs:=by
 obtain⟨x,h1,h2⟩:=h;exact hX.regs x (List.mem_of_getElem? h1) t (List.mem_of_getElem? h2) hs
structure EvOk(X:Cx)(parts d:Nat)(a b:BS)(regs:List Int)(c:CM)(m:Mach)(p:Int×CM):Prop where
  le:c.m.steps<=p.2.m.steps
  go:p.2.fin=0->p.2.over=false/\CW p.1/\∃regs' m',Goes X.cl X.s X.F a regs m b regs' m'/\RelM X.W X.M p.2.m m'/\regs'.length=regs.length/\Ak regs' (d:Int)=p.1/\(∀j:Nat,j<d->Ak regs' (j:Int)=Ak regs (j:Int))/\m'.steps+X.K*c.m.steps<=m.steps+parts+X.K*p.2.m.steps
  stop:p.2.fin≠0->p.2.fin≠5->∃m',F8 X.cl X.s X.F a regs m m'/\m'.fin=p.2.fin/\m'.out=p.2.m.out/\m'.steps+X.K*c.m.steps<=m.steps+parts+X.K*p.2.m.steps
def VV(X:Cx)(e:CE):Prop:=∀(d:Nat) (a b:BS) (regs:List Int) (c:CM) (m:Mach),e.code X.C X.F.blocks d a b->e.ok X.C X.n->(regs.length:Int)=X.F.regs->c.over=false->RelM X.W X.M c.m m->EvOk X (8*e.parts) d a b regs c m (e.ev X.call X.s c)
section
variable {call : Int -> Mach -> Mach} {s : ByteArray} {regs : List Int} {m : Mach}
theorem N3(d:Nat)(w:Int):A7 call s (Dx d w) regs m=(rset regs (d:Int) (Ak m.words w),m):=rfl
theorem GW(w:Int)(a:Nat):A7 call s (AL w a) regs m=(regs,{m with words:=rset m.words w (Ak regs (a:Int))}):=rfl
theorem Gy(op:Int)(d x y:Nat):A7 call s (AP op d x y) regs m=(bif (BG op (Ak regs x) (Ak regs y)).2==0 then(rset regs d (BG op (Ak regs x) (Ak regs y)).1,m)else(regs,{m with fin:=2})):=rfl
theorem Mj(d a:Nat)(w z:Int):A7 call s (GZ d a w z) regs m=(bif decide (Ak regs (a:Int)>=z)then(regs,{m with fin:=3})else(rset regs (d:Int) (Ak m.words (w+Ak regs (a:Int))),m)):=rfl
theorem HG(a b:Nat)(w z:Int):A7 call s (BN a b w z) regs m=(bif decide (Ak regs (a:Int)>=z)then(regs,{m with fin:=3})else(regs,{m with words:=rset m.words (w+Ak regs (a:Int)) (Ak regs (b:Int))})):=rfl
theorem QR(d:Nat):A7 call s (Mv d) regs m=(bif decide (m.read<s.size)then(rset regs (d:Int) ((FE s m.read).toNat:Int),{m with read:=m.read+1})else(rset regs (d:Int) 256,m)):=rfl
theorem QQ(a:Nat):A7 call s (J8 a) regs m=(bif decide (m.out.length>=65536)then(regs,{m with fin:=4})else(regs,{m with out:=m.out++[Ef (Ak regs (a:Int))]})):=rfl
end
theorem NL{l:List Int}{d j:Nat}{v:Int}:Ak (rset l (d:Int) v) (j:Int)=if d=j/\d<l.length then v else Ak l (j:Int):=by
 unfold Ak rset;rw[List.getElem?_set,Int.toNat_natCast,Int.toNat_natCast]
 by_cases h:d=j
 . subst h
   by_cases h2:d<l.length
   . simp[h2]
   . simp[h2]
 . simp[h]
theorem Cv{l:List Int}{d:Nat}{v:Int}(h:d<l.length):Ak (rset l (d:Int) v) (d:Int)=v:=by
 rw[NL,if_pos ⟨rfl,h⟩]
theorem A5{l:List Int}{d j:Nat}{v:Int}(h:d≠j):Ak (rset l (d:Int) v) (j:Int)=Ak l (j:Int):=by
 rw[NL,if_neg (fun e=>h e.1)]
theorem Vf{n:Nat}(h:n<4294967296):CW (n:Int):=⟨by omega,by omega⟩
theorem XB(b:Bool):CW (zf b):=by cases b<;>exact⟨by decide,by decide⟩
theorem XC(b:UInt8):CW ((b.toNat:Nat):Int):=Vf (by have:=b.toNat_lt;omega)
section
variable {X : Cx}
theorem EvOk.ins{parts d:Nat}{a b:BS}{regs:List Int}{c:CM}{m:Mach}{p:Int×CM}{t:Tac}{m':Mach}(ht:InsAt X.F.blocks a t)(hm:∀call,A7 call X.s t regs {m with steps:=m.steps+1}=(rset regs (d:Int) p.1,m'))
 (hd:d<regs.length) (hs:m'.steps=m.steps+1) (hst:p.2.m.steps=c.m.steps) (hr:RelM X.W X.M p.2.m m') (ho:p.2.over=false) (hv:CW p.1) (hp:1<=parts) (hb:b=nx a):EvOk X parts d a b regs c m p:=by
 refine⟨by omega,fun _=>⟨ho,hv,rset regs (d:Int) p.1,m',?_,hr,by unfold rset;exact List.length_set,Cv hd,fun j hj=>A5 Aa,by rw[hst];omega⟩,fun h _=>absurd (show p.2.fin=0 from hr.cfin) h⟩;rw[hb];exact BX ht hm hr.fin hs
theorem EvOk.pre{n1 n2 d:Nat}{a a1 b:BS}{regs r1:List Int}{c c1:CM}{m m1:Mach}{p:Int×CM}(h:EvOk X n2 d a1 b r1 c1 m1 p)(hg:Goes X.cl X.s X.F a regs m a1 r1 m1)(hl:r1.length=regs.length)(hle:c.m.steps<=c1.m.steps)
 (hj:∀j:Nat,j<d->Ak r1 (j:Int)=Ak regs (j:Int)) (hk:m1.steps+X.K*c.m.steps<=m.steps+n1+X.K*c1.m.steps) {n:Nat} (hn:n1+n2<=n):EvOk X n d a b regs c m p:=by
 refine⟨Nat.le_trans hle h.le,fun h0=>?_,fun h0 h5=>?_⟩
 . obtain⟨e1,e2,r',m',g1,g2,g3,g4,g5,g6⟩:=h.go h0;exact⟨e1,e2,r',m',hg.trans g1,g2,g3.trans hl,g4,fun j h=>(g5 j h).trans (hj j h),by omega⟩
 . obtain⟨m',g1,g2,g3,g4⟩:=h.stop h0 h5;exact⟨m',hg.stops g1,g2,g3,by omega⟩
theorem EvOk.ended{n1 n d d':Nat}{a b b':BS}{regs:List Int}{c:CM}{m:Mach}{p:Int×CM}(h:EvOk X n1 d a b regs c m p)(hf:p.2.fin≠0)(hn:n1<=n)(x:Int):EvOk X n d' a b' regs c m (x,p.2):=by
 refine⟨h.le,fun h0=>absurd h0 hf,fun h0 h5=>?_⟩;obtain⟨m',g1,g2,g3,g4⟩:=h.stop h0 h5;refine⟨m',g1,g2,g3,?_⟩;dsimp only;omega
theorem ku(x y:Int):BG 15 x y=(zf (x==y),0):=by
 unfold BG;simp only[show((15:Int)==4)=false from rfl,show((15:Int)==5)=false from rfl,show((15:Int)==6)=false from rfl,show((15:Int)==7)=false from rfl,show((15:Int)==8)=false from rfl,show((15:Int)==9)=false from rfl,show((15:Int)==10)=false from rfl,show((15:Int)==11)=false from rfl,show((15:Int)==12)=false from rfl,show((15:Int)==13)=false from rfl,show((15:Int)==14)=false from rfl,show((15:Int)==15)=true from rfl,Bool.false_or,Bool.or_true,Bool.or_false,cond_true,cond_false];unfold Ea zf;simp only[show((15:Int)==14)=false from rfl,show((15:Int)==15)=true from rfl,Bool.false_and,Bool.true_and,Bool.false_or]
theorem kv{o x y:Int}(h:o=14\/o=15):(BG o x y).1=0\/(BG o x y).1=1:=by
 rcases h with rfl|rfl
 . unfold BG;simp only[show((14:Int)==4)=false from rfl,show((14:Int)==5)=false from rfl,show((14:Int)==6)=false from rfl,show((14:Int)==7)=false from rfl,show((14:Int)==8)=false from rfl,show((14:Int)==9)=false from rfl,show((14:Int)==10)=false from rfl,show((14:Int)==11)=false from rfl,show((14:Int)==12)=false from rfl,show((14:Int)==13)=false from rfl,show((14:Int)==14)=true from rfl,Bool.false_or,Bool.true_or,Bool.or_false,cond_true,cond_false];unfold Ea
   cases (((14:Int)==14&&decide (x<y))||((14:Int)==15&&x==y))<;>simp
 . rw[ku];unfold zf
   cases (x==y)<;>simp
theorem QN(hX:Hn X){a b:BS}{d:Nat}{regs:List Int}{c:CM}{m:Mach}(h:Ui X.F.blocks a d b)(hl:(regs.length:Int)=X.F.regs)(hr:RelM X.W X.M c.m m):
 ∃regs',Goes X.cl X.s X.F a regs m b regs' {m with steps:=m.steps+2}/\regs'.length=regs.length/\Ak regs' (d:Int)=zf (Ak regs (d:Int)==0)/\Ak regs' ((d+1:Nat):Int)=0/\(∀j:Nat,j<d->Ak regs' (j:Int)=Ak regs (j:Int)):=by
 obtain⟨h1,h2,rfl⟩:=h;have l1:=(h1.reg hX rfl).2;have l2:=(h2.reg hX rfl).2;have e1:((d:Int)+1)=((d+1:Nat):Int):=by omega
 have hd1:d+1<regs.length:=by have:((d:Int)+1)<X.F.regs:=l1;omega
 have g1:=BX (C:=X.cl) (s:=X.s) (f:=X.F) (regs:=regs) (m:=m) (r':=rset regs ((d+1:Nat):Int) 0) (m':={m with steps:=m.steps+1}) h1 (fun _=>rfl) hr.fin rfl;have e2:Ak (rset regs ((d+1:Nat):Int) 0) (d:Int)=Ak regs (d:Int):=A5 Aa;have e3:Ak (rset regs ((d+1:Nat):Int) 0) ((d+1:Nat):Int)=0:=Cv hd1;refine⟨rset (rset regs ((d+1:Nat):Int) 0) (d:Int) (zf (Ak regs (d:Int)==0)),g1.trans (BX h2 (fun call=>?_) hr.fin rfl),by unfold rset;rw[List.length_set,List.length_set],?_,?_,fun j hj=>?_⟩
 . rw[Gy,e2,e3,ku];rfl
 . exact Cv (by unfold rset;rw[List.length_set];omega)
 . rw[A5 Aa];exact e3
 . rw[A5 Aa,A5 Aa]
theorem RW(hX:Hn X){e:CE}{a b:BS}{d:Nat}{regs:List Int}{c:CM}{m:Mach}(h:E9 X.F.blocks e a d b)(hl:(regs.length:Int)=X.F.regs)(hr:RelM X.W X.M c.m m)(hf:e.flagged=true->Ak regs (d:Int)=0\/Ak regs (d:Int)=1):
 ∃regs' k,k<=3/\Goes X.cl X.s X.F a regs m b regs' {m with steps:=m.steps+k}/\regs'.length=regs.length/\Ak regs' (d:Int)=zf (!(Ak regs (d:Int)==0))/\(∀j:Nat,j<d->Ak regs' (j:Int)=Ak regs (j:Int)):=by
 unfold E9 at h
 cases e1:e.flagged with
 |true=>
  rw[e1,if_pos rfl]at h;subst h;refine⟨regs,0,by omega,Goes.refl _ _ _,rfl,?_,fun _ _=>rfl⟩;rcases hf e1 with h|h<;>rw[h]<;>rfl
 |false=>
  rw[e1,if_neg Ab]at h;obtain⟨a1,h1,h2,rfl⟩:=h;obtain⟨r1,g1,g2,g3,g4,g5⟩:=QN hX h1 hl hr;have l2:=(h2.reg hX rfl).2;have hd:d<r1.length:=by have:(d:Int)<X.F.regs:=l2;omega
  refine⟨rset r1 (d:Int) (zf (!(Ak regs (d:Int)==0))),3,by omega,g1.trans (BX h2 (fun call=>?_) hr.fin rfl),by unfold rset;rw[List.length_set];exact g2,Cv hd,fun j hj=>by rw[A5 Aa];exact g5 j hj⟩;rw[Gy,g3,g4,ku]
  cases Ak regs (d:Int)==0<;>rfl
theorem ST{call:Cr}{s:ByteArray}{k o n sl z:Int}{kids:List CE}{c:CM}(h:(CE.mk k o n sl z kids).flagged=true):((CE.mk k o n sl z kids).ev call s c).1=0\/((CE.mk k o n sl z kids).ev call s c).1=1:=by
 have hz:∀b:Bool,zf b=0\/zf b=1:=fun b=>by cases b<;>simp[zf]
 have hk:k=7\/k=8\/k=9\/(k=6/\(o=14\/o=15)):=by simpa[CE.flagged,CE.kind,CE.op]using h
 have e:(CE.mk k o n sl z kids).ev call s c=Dm call s k o kids c:=by
  rw[CE.ev];rw[if_neg Aa,if_neg Aa,if_neg Aa,if_neg Aa,if_neg Aa]
 rw[e]
 cases kids with
 |nil=>rw[Dm];exact .inl rfl
 |cons e1 l=>
  rw[Dm];dsimp only
  cases (CE.ev call s e1 c).2.fin==0 with
  |false=>exact .inl rfl
  |true=>
   simp only[cond_true]
   cases h7:k==7 with
   |true=>exact hz _
   |false=>
    simp only[cond_false]
    cases k==8&&(CE.ev call s e1 c).1==0 with
    |true=>exact .inl rfl
    |false=>
     simp only[cond_false]
     cases k==9&& !((CE.ev call s e1 c).1==0)with
     |true=>exact .inr rfl
     |false=>
      simp only[cond_false]
      cases l with
      |nil=>rw[CE.evR];exact .inl rfl
      |cons e2 l=>
       rw[CE.evR];dsimp only;rcases hk with h|h|h|⟨h,h2⟩
       . subst h;cases h7
       . subst h;exact hz _
       . subst h;exact hz _
       . subst h;simp only[show((6:Int)==8)=false from rfl,show((6:Int)==9)=false from rfl,Bool.or_false,cond_false]
         cases (CE.ev call s e2 (CE.ev call s e1 c).2).2.fin==0 with
         |false=>exact .inl rfl
         |true=>
          simp only[cond_true]
          cases (BG o (CE.ev call s e1 c).1 (CE.ev call s e2 (CE.ev call s e1 c).2).1).2==0<;>exact kv h2
end
def CE.evL(call:Cr)(s:ByteArray):List CE->CM->List Int×CM
  | [],c=>([],c)
  |e::l,c=>bif (e.ev call s c).2.fin==0 then((e.ev call s c).1::(CE.evL call s l (e.ev call s c).2).1,(CE.evL call s l (e.ev call s c).2).2)else([],(e.ev call s c).2)
theorem Kn{call:Cr}{s:ByteArray}{f:Int}:∀(l:List CE) (args:List Int) (c:CM),c.fin=0->CE.evC call s f l args c=bif (CE.evL call s l c).2.fin==0 then call f (args++(CE.evL call s l c).1) (CE.evL call s l c).2 else(0,(CE.evL call s l c).2)
 | [],args,c,h=>by
  rw[CE.evC,CE.evL,List.append_nil];dsimp only;rw[h];rfl
 |e::l,args,c,h=>by
  rw[CE.evC,CE.evL];dsimp only
  cases e1:(CE.ev call s e c).2.fin==0 with
  |true=>
   simp only[cond_true];rw[Kn l _ _ (by simpa using e1),List.append_assoc];rfl
  |false=>
   simp only[cond_false,e1]
structure mH(X:Cx)(l:List CE)(d:Nat)(a b:BS)(regs:List Int)(c:CM)(m:Mach)(q:List Int×CM):Prop where
  le:c.m.steps<=q.2.m.steps
  go:q.2.fin=0->q.2.over=false/\q.1.length=l.length/\(∀x∈q.1,CW x)/\∃regs' m',Goes X.cl X.s X.F a regs m b regs' m'/\RelM X.W X.M q.2.m m'/\regs'.length=regs.length/\(∀(i:Nat) (x:Int),q.1[i]?=some x->Ak regs' ((d+i:Nat):Int)=x)/\(∀j:Nat,j<d->Ak regs' (j:Int)=Ak regs (j:Int))/\m'.steps+X.K*c.m.steps<=m.steps+8*CE.partsL l+X.K*q.2.m.steps
  stop:q.2.fin≠0->q.2.fin≠5->∃m',F8 X.cl X.s X.F a regs m m'/\m'.fin=q.2.fin/\m'.out=q.2.m.out/\m'.steps+X.K*c.m.steps<=m.steps+8*CE.partsL l+X.K*q.2.m.steps
section
variable {X : Cx}
theorem dz:∀(l:List CE),(∀e∈l,VV X e)->∀(d:Nat) (a b:BS) (regs:List Int) (c:CM) (m:Mach),CE.codeL X.C X.F.blocks l d a b->CE.okL X.C X.n l->(regs.length:Int)=X.F.regs->c.over=false->RelM X.W X.M c.m m->mH X l d a b regs c m (CE.evL X.call X.s l c)
 | [],_,d,a,b,regs,c,m,hc,_,_,ho,hr=>by
  rw[CE.codeL]at hc;subst hc;rw[CE.evL];refine⟨Nat.le_refl _,fun _=>⟨ho,rfl,fun x hx=>by simp at hx,regs,m,Goes.refl _ _ _,hr,rfl,fun i x h=>by simp at h,fun _ _=>rfl,by rw[CE.partsL];dsimp only;omega⟩,fun h _=>absurd (show c.fin=0 from hr.cfin) h⟩
 |e::l,hI,d,a,b,regs,c,m,hc,hok,hl,ho,hr=>by
  rw[CE.codeL]at hc;obtain⟨a1,h1,h2⟩:=hc;rw[CE.okL]at hok;have k1:=hI e (List.mem_cons.2 (.inl rfl)) d a a1 regs c m h1 hok.1 hl ho hr;rw[CE.evL];generalize e.ev X.call X.s c=p at k1|-;obtain⟨x,c1⟩:=p;dsimp only
  cases e1:c1.fin==0 with
  |false=>
   simp only[cond_false];have hne:c1.fin≠0:=by simpa using e1
   refine⟨k1.le,fun h=>absurd h hne,fun _ h5=>?_⟩;obtain⟨m',g1,g2,g3,g4⟩:=k1.stop hne h5;exact⟨m',g1,g2,g3,by rw[CE.partsL];dsimp only at g4|-;omega⟩
  |true=>
   simp only[cond_true];obtain⟨o1,v1,r1,m1,g1,g2,g3,g4,g5,g6⟩:=k1.go (by simpa using e1);dsimp only at o1 v1 g2 g4 g6;have k2:=dz l (fun e he=>hI e (List.mem_cons.2 (.inr he))) (d+1) a1 b r1 c1 m1 h2 hok.2 Is o1 g2;generalize CE.evL X.call X.s l c1=q at k2|-;obtain⟨xs,c2⟩:=q;have le1:=k1.le;have le2:=k2.le;dsimp only at le1 le2;refine⟨Nat.le_trans le1 le2,fun h=>?_,fun h h5=>?_⟩
   . obtain⟨o2,n2,v2,r2,m2,f1,f2,f3,f4,f5,f6⟩:=k2.go h;dsimp only at o2 n2 v2 f2 f4 f6|-;refine⟨o2,by rw[List.length_cons,List.length_cons,n2],fun y hy=>?_,r2,m2,g1.trans f1,f2,f3.trans g3,fun i y hy=>?_,fun j hj=>(f5 j Aa).trans (g5 j hj),?_⟩
     . rcases List.mem_cons.1 hy with rfl|hy
       . exact v1
       . exact v2 y hy
     . cases i with
       |zero=>
        simp at hy;subst hy;rw[Nat.add_zero,f5 d Aa];exact g4
       |succ i=>
        have:=f4 i y (by simpa using hy);rw[show d+(i+1)=d+1+i by omega];exact this
     . rw[CE.partsL];omega
   . obtain⟨m2,f1,f2,f3,f4⟩:=k2.stop h h5;dsimp only at f4|-;exact⟨m2,g1.stops f1,f2,f3,by rw[CE.partsL];omega⟩
theorem NC{a:BS}{first:Int}{d:Nat}{regs args:List Int}{m:Mach}(h0:m.fin=0):∀(n:Nat),(∀i,i<n->InsAt X.F.blocks (a.1,a.2+i) (AL (first+i) (d+i)))->(∀i,i<n->Ak regs ((d+i:Nat):Int)=Ak args (i:Int))->
 Goes X.cl X.s X.F a regs m (a.1,a.2+n) regs {m with words:=CT m.words first args n,steps:=m.steps+n}
 |0,_,_=>Goes.refl _ _ _
 |n+1,h1,h2=>by
  have ih:=NC h0 n (fun i hi=>h1 i Aa) (fun i hi=>h2 i Aa);refine ih.trans (BX (h1 n Aa) (fun call=>?_) h0 rfl);rw[GW,h2 n Aa];rfl
theorem JF{C:Core}{g:Int}{fn:CFn}(h:C.funcs[g.toNat]?=some fn):C.first g=fn.first:=by
 unfold Core.first;rw[h];rfl
theorem jY{g:Int}(h:0<=g):((g.toNat:Nat):Int)=g:=by omega
theorem Q0{xs:List Int}{regs:List Int}{d:Nat}(h:∀(i:Nat) (x:Int),xs[i]?=some x->Ak regs ((d+i:Nat):Int)=x):∀i,i<xs.length->Ak regs ((d+i:Nat):Int)=Ak xs (i:Int):=fun i hi=>by
 obtain⟨x,hx⟩:=Ah hi;rw[h i x hx];unfold Ak;rw[Int.toNat_natCast,hx];rfl
structure mJ(X:Cx)(n:Nat)(a b:BS)(regs:List Int)(c:CM)(m:Mach)(w:Bool)(p:Int×CM):Prop where
  le:c.m.steps<=p.2.m.steps
  go:p.2.fin=0->p.2.over=false/\CW p.1/\∃m',Goes X.cl X.s X.F a regs m b regs m'/\RelM X.W X.M p.2.m m'/\(w=true->Ak m'.words X.C.words=p.1)/\m'.steps+X.K*c.m.steps<=m.steps+n+1+X.K*p.2.m.steps
  stop:p.2.fin≠0->p.2.fin≠5->∃m',F8 X.cl X.s X.F a regs m m'/\m'.fin=p.2.fin/\m'.out=p.2.m.out/\m'.steps+X.K*c.m.steps<=m.steps+n+1+X.K*p.2.m.steps
theorem jr(hX:Hn X){g:Int}{fn:CFn}(hg:0<=g)(hg2:g<X.n)(hfn:X.C.funcs[g.toNat]?=some fn){args:List Int}{a b:BS}{d:Nat}{regs:List Int}{c:CM}{m:Mach}(hn:(args.length:Int)=fn.params)(hw:∀x∈args,CW x)(ho:c.over=false)(hr:RelM X.W X.M c.m m)
 (hc:JP X.F.blocks a (X.C.first g) g args.length d b) (hv:∀i,i<args.length->Ak regs ((d+i:Nat):Int)=Ak args (i:Int)):mJ X args.length a b regs c m fn.word (X.call g args c):=by
 obtain⟨h1,h2,rfl⟩:=hc;rw[JF hfn]at h1;have s1:=NC hr.fin args.length h1 hv;have co:=hX.call g.toNat fn args c m {m with words:=CT m.words fn.first args args.length,steps:=m.steps+args.length+1} Aa hfn hn hw ho hr rfl rfl rfl hr.fin;rw[jY hg]at co;refine⟨co.le,fun h=>?_,fun h h5=>?_⟩
 . obtain⟨o,v,m',k1,k2,k3,k4,k5⟩:=co.go h;dsimp only at k2 k5;exact⟨o,v,m',s1.trans (Vh h2 (fun fu hfu=>k1 fu hfu) k3.fin k2),k3,k4,by omega⟩
 . obtain⟨m',k1,k2,k3,k4,k5⟩:=co.stop h h5;dsimp only at k2 k5;exact⟨m',s1.stops (R3 h2 (fun fu hfu=>k1 fu hfu) (by rw[k3];exact h) k2),k3,k4,by omega⟩
end
section
variable {X : Cx}
theorem EvOk.fail{k d:Nat}{a b:BS}{regs r':List Int}{c:CM}{m m':Mach}{p:Int×CM}{t:Tac}(ht:InsAt X.F.blocks a t)(hm:∀call,A7 call X.s t regs {m with steps:=m.steps+1}=(r',m'))(hf:m'.fin=p.2.fin)(h0:p.2.fin≠0)(hs:m'.steps=m.steps+1)(ho:m'.out=p.2.m.out)(hst:p.2.m.steps=c.m.steps)(hk:1<=k):
 EvOk X k d a b regs c m p:=
 ⟨by omega,fun h=>absurd h h0,fun _ _=>⟨m',ND ht hm (by rw[hf];exact h0) hs,hf,ho,by rw[hst];omega⟩⟩
theorem B0{e:CE}:∀{l:List CE},e∈l->e.parts<=CE.partsL l
 |x::l,h=>by
  rw[CE.partsL];rcases List.mem_cons.1 h with rfl|h
  . omega
  . have:=B0 h;omega
theorem Dd{l:List CE}(h:l.length=1):∃e,l=[e]:=by
 cases l with
 |nil=>cases h
 |cons e l=>cases l with
  |nil=>exact⟨e,rfl⟩
  |cons e2 l=>simp at h
theorem FY{l:List CE}(h:l.length=2):∃e f,l=[e,f]:=by
 cases l with
 |nil=>cases h
 |cons e l=>cases l with
  |nil=>simp at h
  |cons e2 l=>cases l with
   |nil=>exact⟨e,e2,rfl⟩
   |cons e3 l=>simp at h
theorem T5{call:Cr}{s:ByteArray}{e:CE}{c:CM}(h:e.flagged=true):(e.ev call s c).1=0\/(e.ev call s c).1=1:=by
 cases e with
 |mk k o n sl z kids=>exact ST h
theorem EvOk.truth(hX:Hn X){k d:Nat}{a a1 b:BS}{regs:List Int}{c:CM}{m:Mach}{e:CE}{p:Int×CM}(h:EvOk X k d a a1 regs c m p)(hl:(regs.length:Int)=X.F.regs)(ht:E9 X.F.blocks e a1 d b)(hf:e.flagged=true->p.1=0\/p.1=1)(h0:p.2.fin=0):
 p.2.over=false/\∃regs' m',Goes X.cl X.s X.F a regs m b regs' m'/\RelM X.W X.M p.2.m m'/\regs'.length=regs.length/\Ak regs' (d:Int)=zf (!(p.1==0))/\(∀j:Nat,j<d->Ak regs' (j:Int)=Ak regs (j:Int))/\m'.steps+X.K*c.m.steps<=m.steps+(k+3)+X.K*p.2.m.steps:=by
 obtain⟨o1,v1,r1,m1,g1,g2,g3,g4,g5,g6⟩:=h.go h0;obtain⟨r2,j,hj,f1,f2,f3,f4⟩:=RW (c:=p.2) hX ht Is g2 (fun e=>by rw[g4];exact hf e);exact⟨o1,r2,_,g1.trans f1,g2.step _ _,f2.trans g3,by rw[f3,g4],fun i hi=>(f4 i hi).trans (g5 i hi),by dsimp only;omega⟩
theorem UP(hX:Hn X){e:CE}(hI:VV X e){d r h:Nat}{a1 a2:BS}{regs:List Int}{c:CM}{m:Mach}(hc:e.code X.C X.F.blocks d (r,0) a1)(ht:E9 X.F.blocks e a1 d a2)(hj:BD X.F.blocks a2 1 0 h 0)(hok:e.ok X.C X.n)(hl:(regs.length:Int)=X.F.regs)(ho:c.over=false)(hr:RelM X.W X.M c.m m):
 EvOk X (8*e.parts+4) d (r,0) (h,0) regs c m (zf (!((e.ev X.call X.s c).1==0)),(e.ev X.call X.s c).2):=by
 have k1:=hI d (r,0) a1 regs c m hc hok hl ho hr;have hf:e.flagged=true->(e.ev X.call X.s c).1=0\/(e.ev X.call X.s c).1=1:=T5;generalize e.ev X.call X.s c=p at k1 hf|-;refine⟨k1.le,fun h0=>?_,fun h0 h5=>?_⟩
 . obtain⟨o1,r1,m1,g1,g2,g3,g4,g5,g6⟩:=k1.truth hX hl ht hf h0;exact⟨o1,XB _,r1,_,g1.trans (GB hj),g2.step _ _,g3,g4,g5,by dsimp only at g6|-;omega⟩
 . obtain⟨m',g1,g2,g3,g4⟩:=k1.stop h0 h5;exact⟨m',g1,g2,g3,by dsimp only at g4|-;omega⟩
theorem ZZ{G:List Block}{k:Int}{a:BS}{d r h:Nat}(he:if k=8 then BD G a 2 d r h else BD G a 2 d h r):(k=8/\BD G a 2 d r h)\/(k≠8/\BD G a 2 d h r):=by
 by_cases e:k=8
 . rw[if_pos e]at he;exact .inl ⟨e,he⟩
 . rw[if_neg e]at he;exact .inr ⟨e,he⟩
theorem TZ{W M:Nat}{c m:Mach}(h:RelM W M c m)(z:Int):CW (Ak c.words z):=DC h.ok z
theorem jq(hX:Hn X):∀(n:Nat) (e:CE),e.parts<=n->VV X e
 |0,e,h=>by cases e;rw[CE.parts]at h;omega
 |n+1,e,hn=>by
  cases e with
  |mk k o num sl z kids=>
  rw[CE.parts]at hn;have hI:∀e∈kids,VV X e:=fun e he=>jq hX n e RJ
  intro d a b regs c m hc hok hl ho hr;rw[CE.code]at hc;rw[CE.ok]at hok;obtain⟨hkids,hk⟩:=hok;rw[CE.ev];rw[CE.parts];have hW:=hX.w;rcases hk with⟨rfl,hw⟩|⟨rfl,h0,h1⟩|⟨rfl,h1,z1,z2,s0,s1⟩|⟨rfl,s0,s1,fn,hfn,hwd,hpar,h6⟩|rfl|⟨rfl,h2,o1,o2⟩|⟨rfl,h1⟩|⟨rfl,h2⟩|⟨rfl,h2⟩
  . rw[if_pos rfl]at hc|-;have hd:=(hc.1.reg hX rfl).2;exact EvOk.ins (m':={m with steps:=m.steps+1}) hc.1 (fun _=>rfl) (by have:(d:Int)<X.F.regs:=hd;omega) rfl rfl (hr.step c.m.steps _) ho hw Aa hc.2
  . rw[if_neg Ab,if_pos rfl]at hc|-;have hd:=(hc.1.reg hX rfl).2;exact EvOk.ins (m':={m with steps:=m.steps+1}) hc.1 (fun _=>by rw[N3];exact congrArg (fun v=>(rset regs (d:Int) v,_)) (hr.get h0 Aa)) (by have:(d:Int)<X.F.regs:=hd;omega) rfl rfl (hr.step c.m.steps _) ho (TZ hr sl) Aa hc.2
  . obtain⟨e,rfl⟩:=Dd h1;rw[if_neg Ab,if_neg Ab,if_pos rfl]at hc|-;obtain⟨a1,c1,c2,rfl⟩:=hc;simp only[CE.codeL]at c1;obtain⟨a1',c1,rfl⟩:=c1;simp only[CE.okL]at hkids;have k1:=hI e (List.mem_singleton.2 rfl) d a _ regs c m c1 hkids.1 hl ho hr;rw[CE.evI];simp only[CE.partsL,Nat.add_zero];generalize e.ev X.call X.s c=p at k1|-;obtain⟨x,c1'⟩:=p;dsimp only
    cases e1:c1'.fin==0 with
    |false=>exact k1.ended (by simpa using e1) Aa 0
    |true=>
     simp only[cond_true];obtain⟨ov,v1,r1,m1,g1,g2,g3,g4,g5,g6⟩:=k1.go (by simpa using e1);dsimp only at ov v1 g2 g4 g6;have hd:=(c2.reg hX rfl).2;have le1:=k1.le;refine EvOk.pre (n1:=8*e.parts) (n2:=8) ?_ g1 g3 le1 g5 g6 Aa
     by_cases hx:x>=z
     . rw[decide_eq_true hx,cond_true];exact EvOk.fail (m':={m1 with steps:=m1.steps+1,fin:=3}) c2 (fun _=>by rw[Mj,g4,decide_eq_true hx];rfl) rfl YS rfl g2.out rfl Aa
     . rw[decide_eq_false hx,cond_false];refine EvOk.ins (m':={m1 with steps:=m1.steps+1}) c2 (fun _=>?_) (by have:(d:Int)<X.F.regs:=hd;omega) rfl rfl (g2.step c1'.m.steps _) ov (TZ g2 _) Aa rfl;rw[Mj,g4,decide_eq_false hx,cond_false];exact congrArg (fun v=>(rset r1 (d:Int) v,_)) (g2.get (by have:=v1.1;omega) Aa)
  . rw[if_neg Ab,if_neg Ab,if_neg Ab,if_pos rfl]at hc|-;obtain⟨a1,a2,c1,c2,c3,rfl⟩:=hc;have k1:=dz kids hI d a a1 regs c m c1 hkids hl ho hr;rw[Kn _ _ _ hr.cfin,List.nil_append];generalize CE.evL X.call X.s kids c=q at k1|-;obtain⟨xs,c1'⟩:=q;have le1:=k1.le;dsimp only at le1|-
    cases e1:c1'.fin==0 with
    |false=>
     simp only[cond_false];have hne:c1'.fin≠0:=by simpa using e1
     refine⟨le1,fun h=>absurd h hne,fun h h5=>?_⟩;exact aV
    |true=>
     simp only[cond_true];obtain⟨ov,n1,v1,r1,m1,g1,g2,g3,g4,g5,g6⟩:=k1.go (by simpa using e1);dsimp only at ov n1 v1 g2 g4 g6;rw[<-n1]at c2;have k2:=jr hX s0 s1 hfn (by rw[n1];exact hpar.symm) v1 ov g2 c2 (Q0 g4);have le2:=k2.le;have hd:=(c3.reg hX rfl).2;generalize X.call sl xs c1'=p at k2 le2|-;obtain⟨x,c2'⟩:=p;dsimp only at le2;refine⟨by dsimp only;omega,fun h=>?_,fun h h5=>?_⟩
     . obtain⟨o2,v2,m2,f1,f2,f3,f4⟩:=k2.go h;dsimp only at o2 v2 f2 f3 f4|-;have hdl:d<r1.length:=by have:(d:Int)<X.F.regs:=hd;omega
       exact⟨o2,v2,rset r1 (d:Int) x,{m2 with steps:=m2.steps+1},(g1.trans f1).trans (BX c3 (fun _=>by rw[N3,<-f3 hwd]) f2.fin rfl),f2.step _ _,by unfold rset;rw[List.length_set];exact g3,Cv hdl,fun j hj=>by rw[A5 Aa];exact g5 j hj,by dsimp only;omega⟩
     . obtain⟨m2,f1,f2,f3,f4⟩:=k2.stop h h5;dsimp only at f4|-;exact⟨m2,g1.stops f1,f2,f3,by omega⟩
  . rw[if_neg Ab,if_neg Ab,if_neg Ab,if_neg Ab,if_pos rfl]at hc|-;have hd:=(hc.1.reg hX rfl).2;have hdl:d<regs.length:=by have:(d:Int)<X.F.regs:=hd;omega
    by_cases hrd:c.m.read<X.s.size
    . rw[decide_eq_true hrd,cond_true];refine EvOk.ins (m':={m with steps:=m.steps+1,read:=m.read+1}) hc.1 (fun _=>?_) hdl rfl rfl ⟨hr.clen,hr.len,hr.w,hr.ok,hr.out,?_,hr.fin,hr.cfin⟩ ho (XC _) Aa hc.2
      . rw[QR];dsimp only;rw[hr.read,decide_eq_true hrd];rfl
      . show m.read+1=c.m.read+1;rw[hr.read]
    . rw[decide_eq_false hrd,cond_false];refine EvOk.ins (m':={m with steps:=m.steps+1}) hc.1 (fun _=>?_) hdl rfl rfl (hr.step c.m.steps _) ho ⟨by show(0:Int)<=256;decide,by show(256:Int)<4294967296;decide⟩ Aa hc.2;rw[QR];dsimp only;rw[hr.read,decide_eq_false hrd];rfl
  . obtain⟨e1,e2,rfl⟩:=FY h2;rw[if_neg Ab,if_neg Ab,if_neg Ab,if_neg Ab,if_neg Ab]at hc|-;rw[if_pos rfl]at hc;obtain⟨a3,c1,c2,rfl⟩:=hc;simp only[CE.codeL]at c1;obtain⟨a1,c1,a2,c1',rfl⟩:=c1;simp only[CE.okL]at hkids;have k1:=hI e1 At d a a1 regs c m c1 hkids.1 hl ho hr;rw[Dm];simp only[CE.partsL,Nat.add_zero];generalize e1.ev X.call X.s c=p at k1|-;obtain⟨x,d1⟩:=p;dsimp only
    cases f1:d1.fin==0 with
    |false=>exact k1.ended D9 Aa 0
    |true=>
     simp only[cond_true,show((6:Int)==7)=false from rfl,show((6:Int)==8)=false from rfl,show((6:Int)==9)=false from rfl,Bool.false_and,cond_false];obtain⟨ov,v1,r1,m1,g1,g2,g3,g4,g5,g6⟩:=k1.go D9;dsimp only at ov v1 g2 g4 g6;have le1:=k1.le;refine EvOk.pre (n1:=8*e1.parts) (n2:=8+8*e2.parts) ?_ g1 g3 le1 g5 g6 Aa;rw[CE.evR];have k2:=hI e2 At (d+1) a1 _ r1 d1 m1 c1' hkids.2.1 Is ov g2;generalize e2.ev X.call X.s d1=q at k2|-;obtain⟨y,d2⟩:=q;dsimp only;simp only[show((6:Int)==8)=false from rfl,show((6:Int)==9)=false from rfl,Bool.or_false,cond_false]
     cases f2:d2.fin==0 with
     |false=>exact k2.ended (by simpa using f2) Aa 0
     |true=>
      simp only[cond_true];obtain⟨ov2,v2,r2,m2,j1,j2,j3,j4,j5,j6⟩:=k2.go (by simpa using f2);dsimp only at ov2 v2 j2 j4 j6;have le2:=k2.le;have hxd:Ak r2 (d:Int)=x:=(j5 d Aa).trans g4;have hd:=(c2.reg hX rfl).2;refine EvOk.pre (n1:=8*e2.parts) (n2:=8) ?_ j1 j3 le2 (fun j hj=>j5 j Aa) j6 Aa
      cases hz:(BG o x y).2==0 with
      |true=>
       simp only[cond_true];have hmm:∀call,A7 call X.s (AP o d d (d+1)) r2 {m2 with steps:=m2.steps+1}=(rset r2 (d:Int) (BG o x y).1,{m2 with steps:=m2.steps+1}):=fun _=>by rw[Gy,hxd,j4,hz];rfl
       exact EvOk.ins c2 hmm (by have:(d:Int)<X.F.regs:=hd;omega) rfl rfl (j2.step d2.m.steps _) ov2 (Fd v1 v2) Aa rfl
      |false=>
       simp only[cond_false];have hmm:∀call,A7 call X.s (AP o d d (d+1)) r2 {m2 with steps:=m2.steps+1}=(r2,{m2 with steps:=m2.steps+1,fin:=2}):=fun _=>by rw[Gy,hxd,j4,hz];rfl
       exact EvOk.fail c2 hmm rfl (by show(2:Int)≠0;decide) rfl j2.out rfl Aa
  . obtain⟨e,rfl⟩:=Dd h1;rw[if_neg Ab,if_neg Ab,if_neg Ab,if_neg Ab,if_neg Ab]at hc|-;rw[if_neg Ab,if_pos rfl]at hc;obtain⟨a1,c1,c2⟩:=hc;simp only[CE.codeL]at c1;obtain⟨a1',c1,rfl⟩:=c1;simp only[CE.okL]at hkids;have k1:=hI e (List.mem_singleton.2 rfl) d a _ regs c m c1 hkids.1 hl ho hr;rw[Dm];simp only[CE.partsL,Nat.add_zero];generalize e.ev X.call X.s c=p at k1|-;obtain⟨x,d1⟩:=p;dsimp only
    cases f1:d1.fin==0 with
    |false=>exact k1.ended D9 Aa 0
    |true=>
     simp only[cond_true,show((7:Int)==7)=true from rfl];obtain⟨ov,v1,r1,m1,g1,g2,g3,g4,g5,g6⟩:=k1.go D9;dsimp only at ov v1 g2 g4 g6;obtain⟨r2,j1,j2,j3,j4,j5⟩:=QN hX c2 Is g2;refine⟨k1.le,fun _=>⟨ov,XB _,r2,_,g1.trans j1,g2.step _ _,j2.trans g3,by rw[j3,g4],fun j hj=>(j5 j hj).trans (g5 j hj),by dsimp only;omega⟩,fun h=>absurd D9 h⟩
  all_goals
   obtain⟨e1,e2,rfl⟩:=FY h2;rw[if_neg Ab,if_neg Ab,if_neg Ab,if_neg Ab,if_neg Ab]at hc|-;rw[if_neg Ab,if_neg Ab,if_pos Ab]at hc;rw[Nb]at hc;obtain⟨a1,a2,c1,c2,hc⟩:=hc;rw[Na]at hc;obtain⟨r,h,a3,a4,c3,c4,c5,c6,rfl⟩:=hc;simp only[CE.okL]at hkids;have k1:=hI e1 At d a a1 regs c m c1 hkids.1 hl ho hr;have hf1:e1.flagged=true->(e1.ev X.call X.s c).1=0\/(e1.ev X.call X.s c).1=1:=T5;rw[Dm];simp only[CE.partsL,Nat.add_zero];generalize e1.ev X.call X.s c=p at k1 hf1|-;obtain⟨x,d1⟩:=p;dsimp only at hf1|-
   cases f1:d1.fin==0 with
   |false=>exact k1.ended D9 Aa 0
   |true=>
    have f0:d1.fin=0:=by simpa using f1
    obtain⟨ov,r1,m1,g1,g2,g3,g4,g5,g6⟩:=k1.truth hX hl c2 hf1 f0;dsimp only at ov g2 g4 g6;have le1:=k1.le;dsimp only at le1;rcases ZZ c3 with⟨e8,he⟩|⟨e8,he⟩<;>first|exact absurd rfl e8|exact absurd e8 Ab|skip
    have gf:=Ib (C:=X.cl) (s:=X.s) (f:=X.F) (regs:=r1) (m:=m1) he;rw[g4]at gf;have hR:=UP hX (hI e2 At) c4 c5 c6 hkids.2.1 (regs:=r1) (c:=d1) (m:={m1 with steps:=m1.steps+1}) Is ov (g2.step d1.m.steps _)
    cases hx:x==0 with
    |true=>
     rw[hx]at gf g4;rw[show zf (!true)=0 from rfl,if_pos rfl]at gf;rw[show zf (!true)=0 from rfl]at g4;simp only[hx,cond_true,cond_false,show((8:Int)==7)=false from rfl,show((8:Int)==8)=true from rfl,show((9:Int)==7)=false from rfl,show((9:Int)==8)=false from rfl,show((9:Int)==9)=true from rfl,show((8:Int)==9)=false from rfl,Bool.true_and,Bool.false_and,Bool.not_true,Bool.and_false,Bool.not_false]
     first
     |exact⟨le1,fun _=>⟨ov,⟨by dsimp only;omega,by dsimp only;omega⟩,r1,_,g1.trans gf,g2.step d1.m.steps _,g3,g4,g5,by dsimp only;omega⟩,fun h=>absurd f0 h⟩
     |exact EvOk.pre (n1:=8*e1.parts+4) hR (g1.trans gf) g3 le1 g5 Lm Aa
     |(rw[CE.evR];simp only[show((9:Int)==8)=false from rfl,show((9:Int)==9)=true from rfl,show((8:Int)==8)=true from rfl,Bool.or_true,Bool.true_or,cond_true];exact EvOk.pre (n1:=8*e1.parts+4) hR (g1.trans gf) g3 le1 g5 Lm Aa)
    |false=>
     rw[hx]at gf g4;rw[show zf (!false)=1 from rfl,if_neg Ab]at gf;rw[show zf (!false)=1 from rfl]at g4;simp only[hx,cond_true,cond_false,show((8:Int)==7)=false from rfl,show((8:Int)==8)=true from rfl,show((9:Int)==7)=false from rfl,show((9:Int)==8)=false from rfl,show((9:Int)==9)=true from rfl,show((8:Int)==9)=false from rfl,Bool.true_and,Bool.false_and,Bool.not_true,Bool.and_false,Bool.not_false]
     first
     |exact⟨le1,fun _=>⟨ov,⟨by dsimp only;omega,by dsimp only;omega⟩,r1,_,g1.trans gf,g2.step d1.m.steps _,g3,g4,g5,by dsimp only;omega⟩,fun h=>absurd f0 h⟩
     |(rw[CE.evR];simp only[show((9:Int)==8)=false from rfl,show((9:Int)==9)=true from rfl,show((8:Int)==8)=true from rfl,Bool.or_true,Bool.true_or,cond_true];exact EvOk.pre (n1:=8*e1.parts+4) hR (g1.trans gf) g3 le1 g5 Lm Aa)
end
end Go.Proofs.YtmfihmkopmgelaaGreat.Sv
