/-
  THE TYPES OF THE PROGRAM, WRITTEN OUT: printed by a program of our own.
-/
import Derived.Test.YtbbfelelocccmaaGreatPOptimizeHolds1
import Derived.Test.YtbbfelelocccmaaGreatProg
import Derived.KernelRfl
import Derived.Test.YtbbfelelocccmaaGreatPOptimizeHolds2
import Derived.Scope
import Derived.Lib.SliceRun
import Derived.Laws.BytesString
import Derived.Lib.ConvBytes
import Derived.WideKeyRuns
import Derived.ProofKit
import Derived.OpenShut
import Derived.SizedLaws
import Derived.Test.YtbbfelelocccmaaGreatRows
set_option linter.unusedVariables false
set_option linter.unusedSimpArgs false
set_option maxRecDepth 100000
set_option maxHeartbeats 2000000
namespace Go.Proofs.YtbbfelelocccmaaGreat.Sv
open Go
abbrev ty0:AC:=⟨.other,1,0,[]⟩
abbrev ty1:AC:=⟨.fn,1,8,[.val .nilFunc]⟩
abbrev ty2:AC:=⟨.int .i64,1,8,[.int .i64 0]⟩
abbrev ty3:AC:=⟨.int .i64,1,8,[.int .i64 0]⟩
abbrev ty4:AC:=⟨.bool,1,1,[.bool false]⟩
abbrev ty5:AC:=⟨.int .u8,1,1,[.int .u8 0]⟩
abbrev ty6:AC:=⟨.int .u8,1,1,[.int .u8 0]⟩
abbrev ty7:AC:=⟨.struct [(0,2),(1,3),(2,4),(3,6)],4,24,[.int .i64 0,.int .i64 0,.bool false,.int .u8 0]⟩
abbrev ty8:AC:=⟨.struct [(0,2),(1,3),(2,4),(3,6)],4,24,[.int .i64 0,.int .i64 0,.bool false,.int .u8 0]⟩
abbrev ty9:AC:=⟨.string,1,16,[.str ⟨#[]⟩]⟩
abbrev Adi:AC:=⟨.string,1,16,[.str ⟨#[]⟩]⟩
abbrev Adh:AC:=⟨.string,1,16,[.str ⟨#[]⟩]⟩
abbrev Adg:AC:=⟨.int .u64,1,8,[.int .u64 0]⟩
abbrev Adf:AC:=⟨.struct [(0,9),(1,12)],2,24,[.str ⟨#[]⟩,.int .u64 0]⟩
abbrev Ade:AC:=⟨.struct [(0,9),(1,12)],2,24,[.str ⟨#[]⟩,.int .u64 0]⟩
abbrev Add:AC:=⟨.ptr 188,1,8,[.nilp]⟩
abbrev Adc:AC:=⟨.ptr 191,1,8,[.nilp]⟩
abbrev Adb:AC:=⟨.ptr 200,1,8,[.nilp]⟩
abbrev Ada:AC:=⟨.struct [(0,17)],1,8,[.nilp]⟩
abbrev Ac9:AC:=⟨.struct [(0,17)],1,8,[.nilp]⟩
abbrev Ac8:AC:=⟨.other,1,16,[.val .nilIface]⟩
abbrev Ac7:AC:=⟨.int .i32,1,4,[.int .i32 0]⟩
abbrev Ac6:AC:=⟨.slice 41,1,24,[.nil]⟩
abbrev Ac5:AC:=⟨.struct [(0,3),(1,22)],2,32,[.int .i64 0,.nil]⟩
abbrev Ac4:AC:=⟨.struct [(0,3),(1,22)],2,32,[.int .i64 0,.nil]⟩
abbrev Ac3:AC:=⟨.slice 3,1,24,[.nil]⟩
abbrev Ac2:AC:=⟨.fn,1,8,[.val .nilFunc]⟩
abbrev Ac1:AC:=⟨.fn,1,8,[.val .nilFunc]⟩
abbrev Ac0:AC:=⟨.slice 34,1,24,[.nil]⟩
abbrev AcZ:AC:=⟨.int .i64,1,8,[.int .i64 0]⟩
abbrev AcY:AC:=⟨.other,1,0,[]⟩
abbrev AcX:AC:=⟨.fn,1,8,[.val .nilFunc]⟩
abbrev AcW:AC:=⟨.fn,1,8,[.val .nilFunc]⟩
abbrev AcV:AC:=⟨.fn,1,8,[.val .nilFunc]⟩
abbrev AcU:AC:=⟨.slice 43,1,24,[.nil]⟩
abbrev AcT:AC:=⟨.slice 112,1,24,[.nil]⟩
abbrev AcS:AC:=⟨.struct [(0,35)],1,24,[.nil]⟩
abbrev AcR:AC:=⟨.struct [(0,35)],1,24,[.nil]⟩
abbrev AcQ:AC:=⟨.slice 25,1,24,[.nil]⟩
abbrev AcP:AC:=⟨.slice 80,1,24,[.nil]⟩
abbrev AcO:AC:=⟨.struct [(0,3),(1,39)],2,32,[.int .i64 0,.nil]⟩
abbrev AcN:AC:=⟨.struct [(0,3),(1,39)],2,32,[.int .i64 0,.nil]⟩
abbrev AcM:AC:=⟨.struct [(0,3),(1,37),(2,38),(3,41)],5,88,[.int .i64 0,.nil,.nil,.int .i64 0,.nil]⟩
abbrev AcL:AC:=⟨.struct [(0,3),(1,37),(2,38),(3,41)],5,88,[.int .i64 0,.nil,.nil,.int .i64 0,.nil]⟩
abbrev AcK:AC:=⟨.fn,1,8,[.val .nilFunc]⟩
abbrev AcJ:AC:=⟨.fn,1,8,[.val .nilFunc]⟩
abbrev AcI:AC:=⟨.fn,1,8,[.val .nilFunc]⟩
abbrev AcH:AC:=⟨.struct [(0,24),(2,24),(4,28),(5,9)],6,104,[.int .i64 0,.nil,.int .i64 0,.nil,.nil,.str ⟨#[]⟩]⟩
abbrev AcG:AC:=⟨.struct [(0,24),(2,24),(4,28),(5,9)],6,104,[.int .i64 0,.nil,.int .i64 0,.nil,.nil,.str ⟨#[]⟩]⟩
abbrev AcF:AC:=⟨.fn,1,8,[.val .nilFunc]⟩
abbrev AcE:AC:=⟨.other,1,0,[]⟩
abbrev AcD:AC:=⟨.fn,1,8,[.val .nilFunc]⟩
abbrev AcC:AC:=⟨.fn,1,8,[.val .nilFunc]⟩
abbrev AcB:AC:=⟨.fn,1,8,[.val .nilFunc]⟩
abbrev AcA:AC:=⟨.fn,1,8,[.val .nilFunc]⟩
abbrev Acz:AC:=⟨.fn,1,8,[.val .nilFunc]⟩
abbrev Acy:AC:=⟨.fn,1,8,[.val .nilFunc]⟩
abbrev Acx:AC:=⟨.fn,1,8,[.val .nilFunc]⟩
abbrev Acw:AC:=⟨.struct [(0,3),(1,9),(2,3)],3,32,[.int .i64 0,.str ⟨#[]⟩,.int .i64 0]⟩
abbrev Acv:AC:=⟨.struct [(0,3),(1,9),(2,3)],3,32,[.int .i64 0,.str ⟨#[]⟩,.int .i64 0]⟩
abbrev Acu:AC:=⟨.fn,1,8,[.val .nilFunc]⟩
abbrev Acs:AC:=⟨.fn,1,8,[.val .nilFunc]⟩
abbrev Acr:AC:=⟨.fn,1,8,[.val .nilFunc]⟩
abbrev Acq:AC:=⟨.struct [(0,24),(2,24),(4,24),(6,28),(7,28)],8,144,[.int .i64 0,.nil,.int .i64 0,.nil,.int .i64 0,.nil,.nil,.nil]⟩
abbrev Acp:AC:=⟨.struct [(0,24),(2,24),(4,24),(6,28),(7,28)],8,144,[.int .i64 0,.nil,.int .i64 0,.nil,.int .i64 0,.nil,.nil,.nil]⟩
abbrev Aco:AC:=⟨.fn,1,8,[.val .nilFunc]⟩
abbrev Acn:AC:=⟨.fn,1,8,[.val .nilFunc]⟩
abbrev Acm:AC:=⟨.fn,1,8,[.val .nilFunc]⟩
abbrev Acl:AC:=⟨.fn,1,8,[.val .nilFunc]⟩
abbrev Ack:AC:=⟨.other,1,16,[.val .nilIface]⟩
abbrev Acj:AC:=⟨.other,1,16,[.val .nilIface]⟩
abbrev Aci:AC:=⟨.other,1,0,[]⟩
abbrev Ach:AC:=⟨.fn,1,8,[.val .nilFunc]⟩
abbrev Acg:AC:=⟨.fn,1,8,[.val .nilFunc]⟩
abbrev Acf:AC:=⟨.fn,1,8,[.val .nilFunc]⟩
abbrev Ace:AC:=⟨.other,1,0,[]⟩
abbrev Acd:AC:=⟨.fn,1,8,[.val .nilFunc]⟩
abbrev Acc:AC:=⟨.fn,1,8,[.val .nilFunc]⟩
abbrev Acb:AC:=⟨.slice 91,1,24,[.nil]⟩
abbrev Aca:AC:=⟨.struct [(0,78),(1,3),(2,3),(3,3),(4,3)],5,56,[.nil,.int .i64 0,.int .i64 0,.int .i64 0,.int .i64 0]⟩
abbrev Ab9:AC:=⟨.struct [(0,78),(1,3),(2,3),(3,3),(4,3)],5,56,[.nil,.int .i64 0,.int .i64 0,.int .i64 0,.int .i64 0]⟩
abbrev Ab8:AC:=⟨.fn,1,8,[.val .nilFunc]⟩
abbrev Ab7:AC:=⟨.fn,1,8,[.val .nilFunc]⟩
abbrev Ab6:AC:=⟨.ptr 87,1,8,[.nilp]⟩
abbrev Ab5:AC:=⟨.slice 89,1,24,[.nil]⟩
abbrev Ab4:AC:=⟨.slice 5,1,24,[.nil]⟩
abbrev Ab3:AC:=⟨.struct [(0,24),(2,9),(3,3),(4,84),(5,85),(6,3),(7,3),(8,3)],9,128,[.int .i64 0,.nil,.str ⟨#[]⟩,.int .i64 0,.nil,.nil,.int .i64 0,.int .i64 0,.int .i64 0]⟩
abbrev Ab2:AC:=⟨.struct [(0,24),(2,9),(3,3),(4,84),(5,85),(6,3),(7,3),(8,3)],9,128,[.int .i64 0,.nil,.str ⟨#[]⟩,.int .i64 0,.nil,.nil,.int .i64 0,.int .i64 0,.int .i64 0]⟩
abbrev Ab1:AC:=⟨.fn,1,8,[.val .nilFunc]⟩
abbrev Ab0:AC:=⟨.int .u32,1,4,[.int .u32 0]⟩
abbrev AbZ:AC:=⟨.struct [(0,3),(1,3),(2,3),(3,3),(4,3),(5,3),(6,3),(7,89)],8,64,[.int .i64 0,.int .i64 0,.int .i64 0,.int .i64 0,.int .i64 0,.int .i64 0,.int .i64 0,.int .u32 0]⟩
abbrev ty91:AC:=⟨.struct [(0,3),(1,3),(2,3),(3,3),(4,3),(5,3),(6,3),(7,89)],8,64,[.int .i64 0,.int .i64 0,.int .i64 0,.int .i64 0,.int .i64 0,.int .i64 0,.int .i64 0,.int .u32 0]⟩
abbrev AbY:AC:=⟨.fn,1,8,[.val .nilFunc]⟩
abbrev AbX:AC:=⟨.struct [(0,3)],1,8,[.int .i64 0]⟩
abbrev AbW:AC:=⟨.struct [(0,3)],1,8,[.int .i64 0]⟩
abbrev AbV:AC:=⟨.fn,1,8,[.val .nilFunc]⟩
abbrev AbU:AC:=⟨.struct [(0,94),(1,95)],2,16,[.int .i64 0,.val .nilFunc]⟩
abbrev AbT:AC:=⟨.struct [(0,94),(1,95)],2,16,[.int .i64 0,.val .nilFunc]⟩
abbrev AbS:AC:=⟨.struct [(0,94)],1,8,[.int .i64 0]⟩
abbrev AbR:AC:=⟨.struct [(0,94)],1,8,[.int .i64 0]⟩
abbrev Aa4:AC:=⟨.struct [(0,3),(1,3),(2,3),(3,3)],4,32,[.int .i64 0,.int .i64 0,.int .i64 0,.int .i64 0]⟩
abbrev Aa3:AC:=⟨.struct [(0,3),(1,3),(2,3),(3,3)],4,32,[.int .i64 0,.int .i64 0,.int .i64 0,.int .i64 0]⟩
abbrev Aa2:AC:=⟨.fn,1,8,[.val .nilFunc]⟩
abbrev Aa1:AC:=⟨.fn,1,8,[.val .nilFunc]⟩
abbrev Aa0:AC:=⟨.fn,1,8,[.val .nilFunc]⟩
abbrev AaZ:AC:=⟨.fn,1,8,[.val .nilFunc]⟩
abbrev AaY:AC:=⟨.fn,1,8,[.val .nilFunc]⟩
abbrev AaX:AC:=⟨.fn,1,8,[.val .nilFunc]⟩
abbrev AaW:AC:=⟨.fn,1,8,[.val .nilFunc]⟩
abbrev AaV:AC:=⟨.fn,1,8,[.val .nilFunc]⟩
abbrev AaU:AC:=⟨.fn,1,8,[.val .nilFunc]⟩
abbrev AaT:AC:=⟨.fn,1,8,[.val .nilFunc]⟩
abbrev AaS:AC:=⟨.slice 4,1,24,[.nil]⟩
abbrev AaR:AC:=⟨.fn,1,8,[.val .nilFunc]⟩
abbrev AaQ:AC:=⟨.ptr 118,1,8,[.nilp]⟩
abbrev AaP:AC:=⟨.fn,1,8,[.val .nilFunc]⟩
abbrev AaO:AC:=⟨.slice 157,1,24,[.nil]⟩
abbrev AaN:AC:=⟨.struct [(0,41),(2,38),(3,38),(4,116),(5,35),(6,25),(7,112)],8,176,[.int .i64 0,.nil,.nil,.nil,.nil,.nil,.nil,.nil]⟩
abbrev AaM:AC:=⟨.struct [(0,41),(2,38),(3,38),(4,116),(5,35),(6,25),(7,112)],8,176,[.int .i64 0,.nil,.nil,.nil,.nil,.nil,.nil,.nil]⟩
abbrev AaL:AC:=⟨.fn,1,8,[.val .nilFunc]⟩
abbrev AaK:AC:=⟨.struct [(0,35),(1,35)],2,48,[.nil,.nil]⟩
abbrev AaJ:AC:=⟨.struct [(0,35),(1,35)],2,48,[.nil,.nil]⟩
abbrev AaI:AC:=⟨.fn,1,8,[.val .nilFunc]⟩
abbrev AaH:AC:=⟨.fn,1,8,[.val .nilFunc]⟩
abbrev AaG:AC:=⟨.fn,1,8,[.val .nilFunc]⟩
abbrev AaF:AC:=⟨.fn,1,8,[.val .nilFunc]⟩
abbrev AaE:AC:=⟨.ptr 129,1,8,[.nilp]⟩
abbrev AaD:AC:=⟨.slice 132,1,24,[.nil]⟩
abbrev AaC:AC:=⟨.struct [(0,127)],1,24,[.nil]⟩
abbrev AaB:AC:=⟨.struct [(0,127)],1,24,[.nil]⟩
abbrev AaA:AC:=⟨.fn,1,8,[.val .nilFunc]⟩
abbrev Aaz:AC:=⟨.struct [(0,3),(1,3),(2,3),(3,3),(4,3),(5,3),(6,3),(7,3),(8,89)],9,72,[.int .i64 0,.int .i64 0,.int .i64 0,.int .i64 0,.int .i64 0,.int .i64 0,.int .i64 0,.int .i64 0,.int .u32 0]⟩
abbrev Aay:AC:=⟨.struct [(0,3),(1,3),(2,3),(3,3),(4,3),(5,3),(6,3),(7,3),(8,89)],9,72,[.int .i64 0,.int .i64 0,.int .i64 0,.int .i64 0,.int .i64 0,.int .i64 0,.int .i64 0,.int .i64 0,.int .u32 0]⟩
abbrev Aax:AC:=⟨.ptr 137,1,8,[.nilp]⟩
abbrev Aaw:AC:=⟨.fn,1,8,[.val .nilFunc]⟩
abbrev Aav:AC:=⟨.slice 139,1,24,[.nil]⟩
abbrev Aau:AC:=⟨.struct [(0,126),(1,25),(2,135),(3,3)],4,64,[.nilp,.nil,.nil,.int .i64 0]⟩
abbrev Aat:AC:=⟨.struct [(0,126),(1,25),(2,135),(3,3)],4,64,[.nilp,.nil,.nil,.int .i64 0]⟩
abbrev Aas:AC:=⟨.struct [(0,3),(1,3),(2,3),(3,3),(4,3),(5,3)],6,48,[.int .i64 0,.int .i64 0,.int .i64 0,.int .i64 0,.int .i64 0,.int .i64 0]⟩
abbrev Aar:AC:=⟨.struct [(0,3),(1,3),(2,3),(3,3),(4,3),(5,3)],6,48,[.int .i64 0,.int .i64 0,.int .i64 0,.int .i64 0,.int .i64 0,.int .i64 0]⟩
abbrev Aaq:AC:=⟨.other,1,0,[]⟩
abbrev Aap:AC:=⟨.fn,1,8,[.val .nilFunc]⟩
abbrev Aao:AC:=⟨.int .u64,1,8,[.int .u64 0]⟩
abbrev Aan:AC:=⟨.fn,1,8,[.val .nilFunc]⟩
abbrev Aam:AC:=⟨.fn,1,8,[.val .nilFunc]⟩
abbrev Aal:AC:=⟨.fn,1,8,[.val .nilFunc]⟩
abbrev Aak:AC:=⟨.map 3 89,1,8,[.val (.map none)]⟩
abbrev Aaj:AC:=⟨.other,1,0,[]⟩
abbrev Aai:AC:=⟨.fn,1,8,[.val .nilFunc]⟩
abbrev Aah:AC:=⟨.slice 175,1,24,[.nil]⟩
abbrev Aag:AC:=⟨.struct [(0,25),(1,149)],2,48,[.nil,.nil]⟩
abbrev Aaf:AC:=⟨.struct [(0,25),(1,149)],2,48,[.nil,.nil]⟩
abbrev Aae:AC:=⟨.fn,1,8,[.val .nilFunc]⟩
abbrev Aad:AC:=⟨.struct [(0,3),(1,4),(2,4)],3,16,[.int .i64 0,.bool false,.bool false]⟩
abbrev Aac:AC:=⟨.struct [(0,3),(1,4),(2,4)],3,16,[.int .i64 0,.bool false,.bool false]⟩
abbrev Aab:AC:=⟨.ptr 154,1,8,[.nilp]⟩
abbrev Aaa:AC:=⟨.fn,1,8,[.val .nilFunc]⟩
abbrev z9:AC:=⟨.slice 161,1,24,[.nil]⟩
abbrev z8:AC:=⟨.fn,1,8,[.val .nilFunc]⟩
abbrev z7:AC:=⟨.slice 154,1,24,[.nil]⟩
abbrev z6:AC:=⟨.struct [(0,3),(1,159)],2,32,[.int .i64 0,.nil]⟩
abbrev z5:AC:=⟨.struct [(0,3),(1,159)],2,32,[.int .i64 0,.nil]⟩
abbrev z4:AC:=⟨.fn,1,8,[.val .nilFunc]⟩
abbrev zZ:AC:=⟨.fn,1,8,[.val .nilFunc]⟩
abbrev zY:AC:=⟨.ptr 168,1,8,[.nilp]⟩
abbrev zX:AC:=⟨.fn,1,8,[.val .nilFunc]⟩
abbrev zW:AC:=⟨.slice 170,1,24,[.nil]⟩
abbrev zV:AC:=⟨.struct [(0,38),(1,38),(2,166),(3,166),(4,166),(5,166),(6,25),(7,112)],8,192,[.nil,.nil,.nil,.nil,.nil,.nil,.nil,.nil]⟩
abbrev zU:AC:=⟨.struct [(0,38),(1,38),(2,166),(3,166),(4,166),(5,166),(6,25),(7,112)],8,192,[.nil,.nil,.nil,.nil,.nil,.nil,.nil,.nil]⟩
abbrev zT:AC:=⟨.slice 142,1,24,[.nil]⟩
abbrev zS:AC:=⟨.slice 142,1,24,[.nil]⟩
abbrev zR:AC:=⟨.fn,1,8,[.val .nilFunc]⟩
abbrev zQ:AC:=⟨.fn,1,8,[.val .nilFunc]⟩
abbrev zP:AC:=⟨.fn,1,8,[.val .nilFunc]⟩
abbrev zO:AC:=⟨.ptr 151,1,8,[.nilp]⟩
abbrev zN:AC:=⟨.map 3 4,1,8,[.val (.map none)]⟩
abbrev zM:AC:=⟨.ptr 161,1,8,[.nilp]⟩
abbrev zL:AC:=⟨.other,1,0,[]⟩
abbrev zK:AC:=⟨.fn,1,8,[.val .nilFunc]⟩
abbrev zJ:AC:=⟨.fn,1,8,[.val .nilFunc]⟩
abbrev zI:AC:=⟨.fn,1,8,[.val .nilFunc]⟩
abbrev zH:AC:=⟨.fn,1,8,[.val .nilFunc]⟩
abbrev zG:AC:=⟨.fn,1,8,[.val .nilFunc]⟩
abbrev zF:AC:=⟨.fn,1,8,[.val .nilFunc]⟩
abbrev zE:AC:=⟨.fn,1,8,[.val .nilFunc]⟩
abbrev zD:AC:=⟨.fn,1,8,[.val .nilFunc]⟩
abbrev zC:AC:=⟨.fn,1,8,[.val .nilFunc]⟩
abbrev zB:AC:=⟨.struct [(0,17),(1,17),(2,17),(3,9)],4,40,[.nilp,.nilp,.nilp,.str ⟨#[]⟩]⟩
abbrev zA:AC:=⟨.struct [(0,17),(1,17),(2,17),(3,9)],4,40,[.nilp,.nilp,.nilp,.str ⟨#[]⟩]⟩
abbrev zz:AC:=⟨.array 0 16,0,0,[]⟩
abbrev zy:AC:=⟨.other,0,0,[]⟩
abbrev zx:AC:=⟨.other,0,0,[]⟩
abbrev zw:AC:=⟨.fn,1,8,[.val .nilFunc]⟩
abbrev zu:AC:=⟨.int .u8,1,1,[.int .u8 0]⟩
abbrev zt:AC:=⟨.int .u8,1,1,[.int .u8 0]⟩
abbrev zr:AC:=⟨.fn,1,8,[.val .nilFunc]⟩
abbrev zq:AC:=⟨.ptr 5,1,8,[.nilp]⟩
abbrev zp:AC:=⟨.int .i32,1,4,[.int .i32 0]⟩
abbrev zo:AC:=⟨.int .i32,1,4,[.int .i32 0]⟩
abbrev zn:AC:=⟨.struct [(0,12),(1,12),(2,89),(3,193),(4,5),(5,5),(6,194),(7,195),(8,196),(9,197),(10,198)],11,48,[.int .u64 0,.int .u64 0,.int .u32 0,.int .u8 0,.int .u8 0,.int .u8 0,.int .u8 0,.val .nilFunc,.nilp,.int .i32 0,.int .i32 0]⟩
abbrev zm:AC:=⟨.struct [(0,12),(1,12),(2,89),(3,193),(4,5),(5,5),(6,194),(7,195),(8,196),(9,197),(10,198)],11,48,[.int .u64 0,.int .u64 0,.int .u32 0,.int .u8 0,.int .u8 0,.int .u8 0,.int .u8 0,.val .nilFunc,.nilp,.int .i32 0,.int .i32 0]⟩
abbrev zl:AC:=⟨.fn,1,8,[.val .nilFunc]⟩
abbrev zk:AC:=⟨.other,1,0,[]⟩
abbrev zh:AC:=⟨.fn,1,8,[.val .nilFunc]⟩
abbrev zg:AC:=⟨.ptr 208,1,8,[.nilp]⟩
abbrev zf:AC:=⟨.map 218 3,1,8,[.val (.map none)]⟩
abbrev ze:AC:=⟨.slice 218,1,24,[.nil]⟩
abbrev zd:AC:=⟨.struct [(0,3),(1,205),(2,206)],3,40,[.int .i64 0,.val (.map none),.nil]⟩
abbrev zc:AC:=⟨.struct [(0,3),(1,205),(2,206)],3,40,[.int .i64 0,.val (.map none),.nil]⟩
abbrev zb:AC:=⟨.slice 214,1,24,[.nil]⟩
abbrev za:AC:=⟨.struct [(0,204),(1,25),(2,209),(3,3)],4,64,[.nilp,.nil,.nil,.int .i64 0]⟩
abbrev y9:AC:=⟨.struct [(0,204),(1,25),(2,209),(3,3)],4,64,[.nilp,.nil,.nil,.int .i64 0]⟩
abbrev y8:AC:=⟨.fn,1,8,[.val .nilFunc]⟩
abbrev y7:AC:=⟨.array 6 3,6,48,[.int .i64 0,.int .i64 0,.int .i64 0,.int .i64 0,.int .i64 0,.int .i64 0]⟩
abbrev y6:AC:=⟨.array 6 3,6,48,[.int .i64 0,.int .i64 0,.int .i64 0,.int .i64 0,.int .i64 0,.int .i64 0]⟩
abbrev y5:AC:=⟨.ptr 211,1,8,[.nilp]⟩
abbrev y4:AC:=⟨.fn,1,8,[.val .nilFunc]⟩
abbrev y3:AC:=⟨.array 4 3,4,32,[.int .i64 0,.int .i64 0,.int .i64 0,.int .i64 0]⟩
abbrev yZ:AC:=⟨.array 4 3,4,32,[.int .i64 0,.int .i64 0,.int .i64 0,.int .i64 0]⟩
abbrev yY:AC:=⟨.fn,1,8,[.val .nilFunc]⟩
abbrev yX:AC:=⟨.other,1,0,[]⟩
abbrev yW:AC:=⟨.fn,1,8,[.val .nilFunc]⟩
abbrev yV:AC:=⟨.other,1,0,[]⟩
abbrev yU:AC:=⟨.fn,1,8,[.val .nilFunc]⟩
abbrev yT:AC:=⟨.fn,1,8,[.val .nilFunc]⟩
abbrev yS:AC:=⟨.fn,1,8,[.val .nilFunc]⟩
abbrev yR:AC:=⟨.fn,1,8,[.val .nilFunc]⟩
abbrev yQ:AC:=⟨.fn,1,8,[.val .nilFunc]⟩
abbrev yP:AC:=⟨.other,1,0,[]⟩
abbrev yO:AC:=⟨.fn,1,8,[.val .nilFunc]⟩
abbrev yN:AC:=⟨.fn,1,8,[.val .nilFunc]⟩
abbrev yM:AC:=⟨.fn,1,8,[.val .nilFunc]⟩
abbrev yL:AC:=⟨.fn,1,8,[.val .nilFunc]⟩
abbrev yK:AC:=⟨.fn,1,8,[.val .nilFunc]⟩
abbrev yJ:AC:=⟨.slice 236,1,24,[.nil]⟩
abbrev yI:AC:=⟨.struct [(0,3),(1,3)],2,16,[.int .i64 0,.int .i64 0]⟩
abbrev yH:AC:=⟨.struct [(0,3),(1,3)],2,16,[.int .i64 0,.int .i64 0]⟩
abbrev yG:AC:=⟨.ptr 236,1,8,[.nilp]⟩
abbrev yF:AC:=⟨.other,1,8,[.nilp]⟩
def TI(t:Nat):Option AC:=bif Nat.blt t 239 then(bif Nat.blt t 119 then(bif Nat.blt t 59 then(bif Nat.blt t 29 then(bif Nat.blt t 14 then(bif Nat.blt t 7 then(bif Nat.blt t 3 then(bif Nat.blt t 1 then some ty0 else(bif Nat.blt t 2 then some ty1 else some ty2))else(bif Nat.blt t 5 then(bif Nat.blt t 4 then some ty3 else some ty4)else(bif Nat.blt t 6 then some ty5 else some ty6)))else(bif Nat.blt t 10 then(bif Nat.blt t 8 then some ty7 else(bif Nat.blt t 9 then some ty8 else some ty9))else(bif Nat.blt t 12 then(bif Nat.blt t 11 then some Adi else some Adh)else(bif Nat.blt t 13 then some Adg else some Adf))))else(bif Nat.blt t 21 then(bif Nat.blt t 17 then(bif Nat.blt t 15 then some Ade else(bif Nat.blt t 16 then some Add else some Adc))else(bif Nat.blt t 19 then(bif Nat.blt t 18 then some Adb else some Ada)else(bif Nat.blt t 20 then some Ac9 else some Ac8)))else(bif Nat.blt t 25 then(bif Nat.blt t 23 then(bif Nat.blt t 22 then some Ac7 else some Ac6)else(bif Nat.blt t 24 then some Ac5 else some Ac4))else(bif Nat.blt t 27 then(bif Nat.blt t 26 then some Ac3 else some Ac2)else(bif Nat.blt t 28 then some Ac1 else some Ac0)))))else(bif Nat.blt t 44 then(bif Nat.blt t 36 then(bif Nat.blt t 32 then(bif Nat.blt t 30 then some AcZ else(bif Nat.blt t 31 then some AcY else some AcX))else(bif Nat.blt t 34 then(bif Nat.blt t 33 then some AcW else some AcV)else(bif Nat.blt t 35 then some AcU else some AcT)))else(bif Nat.blt t 40 then(bif Nat.blt t 38 then(bif Nat.blt t 37 then some AcS else some AcR)else(bif Nat.blt t 39 then some AcQ else some AcP))else(bif Nat.blt t 42 then(bif Nat.blt t 41 then some AcO else some AcN)else(bif Nat.blt t 43 then some AcM else some AcL))))else(bif Nat.blt t 51 then(bif Nat.blt t 47 then(bif Nat.blt t 45 then some AcK else(bif Nat.blt t 46 then some AcJ else some AcI))else(bif Nat.blt t 49 then(bif Nat.blt t 48 then some AcH else some AcG)else(bif Nat.blt t 50 then some AcF else some AcE)))else(bif Nat.blt t 55 then(bif Nat.blt t 53 then(bif Nat.blt t 52 then some AcD else some AcC)else(bif Nat.blt t 54 then some AcB else some AcA))else(bif Nat.blt t 57 then(bif Nat.blt t 56 then some Acz else some Acy)else(bif Nat.blt t 58 then some Acx else some Acw))))))else(bif Nat.blt t 89 then(bif Nat.blt t 74 then(bif Nat.blt t 66 then(bif Nat.blt t 62 then(bif Nat.blt t 60 then some Acv else(bif Nat.blt t 61 then some Acu else some Acs))else(bif Nat.blt t 64 then(bif Nat.blt t 63 then some Acr else some Acq)else(bif Nat.blt t 65 then some Acp else some Aco)))else(bif Nat.blt t 70 then(bif Nat.blt t 68 then(bif Nat.blt t 67 then some Acn else some Acm)else(bif Nat.blt t 69 then some Acl else some Ack))else(bif Nat.blt t 72 then(bif Nat.blt t 71 then some Acj else some Aci)else(bif Nat.blt t 73 then some Ach else some Acg))))else(bif Nat.blt t 81 then(bif Nat.blt t 77 then(bif Nat.blt t 75 then some Acf else(bif Nat.blt t 76 then some Ace else some Acd))else(bif Nat.blt t 79 then(bif Nat.blt t 78 then some Acc else some Acb)else(bif Nat.blt t 80 then some Aca else some Ab9)))else(bif Nat.blt t 85 then(bif Nat.blt t 83 then(bif Nat.blt t 82 then some Ab8 else some Ab7)else(bif Nat.blt t 84 then some Ab6 else some Ab5))else(bif Nat.blt t 87 then(bif Nat.blt t 86 then some Ab4 else some Ab3)else(bif Nat.blt t 88 then some Ab2 else some Ab1)))))else(bif Nat.blt t 104 then(bif Nat.blt t 96 then(bif Nat.blt t 92 then(bif Nat.blt t 90 then some Ab0 else(bif Nat.blt t 91 then some AbZ else some ty91))else(bif Nat.blt t 94 then(bif Nat.blt t 93 then some AbY else some AbX)else(bif Nat.blt t 95 then some AbW else some AbV)))else(bif Nat.blt t 100 then(bif Nat.blt t 98 then(bif Nat.blt t 97 then some AbU else some AbT)else(bif Nat.blt t 99 then some AbS else some AbR))else(bif Nat.blt t 102 then(bif Nat.blt t 101 then some Aa4 else some Aa3)else(bif Nat.blt t 103 then some Aa2 else some Aa1))))else(bif Nat.blt t 111 then(bif Nat.blt t 107 then(bif Nat.blt t 105 then some Aa0 else(bif Nat.blt t 106 then some AaZ else some AaY))else(bif Nat.blt t 109 then(bif Nat.blt t 108 then some AaX else some AaW)else(bif Nat.blt t 110 then some AaV else some AaU)))else(bif Nat.blt t 115 then(bif Nat.blt t 113 then(bif Nat.blt t 112 then some AaT else some AaS)else(bif Nat.blt t 114 then some AaR else some AaQ))else(bif Nat.blt t 117 then(bif Nat.blt t 116 then some AaP else some AaO)else(bif Nat.blt t 118 then some AaN else some AaM)))))))else(bif Nat.blt t 179 then(bif Nat.blt t 149 then(bif Nat.blt t 134 then(bif Nat.blt t 126 then(bif Nat.blt t 122 then(bif Nat.blt t 120 then some AaL else(bif Nat.blt t 121 then some AaK else some AaJ))else(bif Nat.blt t 124 then(bif Nat.blt t 123 then some AaI else some AaH)else(bif Nat.blt t 125 then some AaG else some AaF)))else(bif Nat.blt t 130 then(bif Nat.blt t 128 then(bif Nat.blt t 127 then some AaE else some AaD)else(bif Nat.blt t 129 then some AaC else some AaB))else(bif Nat.blt t 132 then(bif Nat.blt t 131 then some AaA else some Aaz)else(bif Nat.blt t 133 then some Aay else some Aax))))else(bif Nat.blt t 141 then(bif Nat.blt t 137 then(bif Nat.blt t 135 then some Aaw else(bif Nat.blt t 136 then some Aav else some Aau))else(bif Nat.blt t 139 then(bif Nat.blt t 138 then some Aat else some Aas)else(bif Nat.blt t 140 then some Aar else some Aaq)))else(bif Nat.blt t 145 then(bif Nat.blt t 143 then(bif Nat.blt t 142 then some Aap else some Aao)else(bif Nat.blt t 144 then some Aan else some Aam))else(bif Nat.blt t 147 then(bif Nat.blt t 146 then some Aal else some Aak)else(bif Nat.blt t 148 then some Aaj else some Aai)))))else(bif Nat.blt t 164 then(bif Nat.blt t 156 then(bif Nat.blt t 152 then(bif Nat.blt t 150 then some Aah else(bif Nat.blt t 151 then some Aag else some Aaf))else(bif Nat.blt t 154 then(bif Nat.blt t 153 then some Aae else some Aad)else(bif Nat.blt t 155 then some Aac else some Aab)))else(bif Nat.blt t 160 then(bif Nat.blt t 158 then(bif Nat.blt t 157 then some Aaa else some z9)else(bif Nat.blt t 159 then some z8 else some z7))else(bif Nat.blt t 162 then(bif Nat.blt t 161 then some z6 else some z5)else(bif Nat.blt t 163 then some z4 else some zZ))))else(bif Nat.blt t 171 then(bif Nat.blt t 167 then(bif Nat.blt t 165 then some zY else(bif Nat.blt t 166 then some zX else some zW))else(bif Nat.blt t 169 then(bif Nat.blt t 168 then some zV else some zU)else(bif Nat.blt t 170 then some zT else some zS)))else(bif Nat.blt t 175 then(bif Nat.blt t 173 then(bif Nat.blt t 172 then some zR else some zQ)else(bif Nat.blt t 174 then some zP else some zO))else(bif Nat.blt t 177 then(bif Nat.blt t 176 then some zN else some zM)else(bif Nat.blt t 178 then some zL else some zK))))))else(bif Nat.blt t 209 then(bif Nat.blt t 194 then(bif Nat.blt t 186 then(bif Nat.blt t 182 then(bif Nat.blt t 180 then some zJ else(bif Nat.blt t 181 then some zI else some zH))else(bif Nat.blt t 184 then(bif Nat.blt t 183 then some zG else some zF)else(bif Nat.blt t 185 then some zE else some zD)))else(bif Nat.blt t 190 then(bif Nat.blt t 188 then(bif Nat.blt t 187 then some zC else some zB)else(bif Nat.blt t 189 then some zA else some zz))else(bif Nat.blt t 192 then(bif Nat.blt t 191 then some zy else some zx)else(bif Nat.blt t 193 then some zw else some zu))))else(bif Nat.blt t 201 then(bif Nat.blt t 197 then(bif Nat.blt t 195 then some zt else(bif Nat.blt t 196 then some zr else some zq))else(bif Nat.blt t 199 then(bif Nat.blt t 198 then some zp else some zo)else(bif Nat.blt t 200 then some zn else some zm)))else(bif Nat.blt t 205 then(bif Nat.blt t 203 then(bif Nat.blt t 202 then some zl else some zk)else(bif Nat.blt t 204 then some zh else some zg))else(bif Nat.blt t 207 then(bif Nat.blt t 206 then some zf else some ze)else(bif Nat.blt t 208 then some zd else some zc)))))else(bif Nat.blt t 224 then(bif Nat.blt t 216 then(bif Nat.blt t 212 then(bif Nat.blt t 210 then some zb else(bif Nat.blt t 211 then some za else some y9))else(bif Nat.blt t 214 then(bif Nat.blt t 213 then some y8 else some y7)else(bif Nat.blt t 215 then some y6 else some y5)))else(bif Nat.blt t 220 then(bif Nat.blt t 218 then(bif Nat.blt t 217 then some y4 else some y3)else(bif Nat.blt t 219 then some yZ else some yY))else(bif Nat.blt t 222 then(bif Nat.blt t 221 then some yX else some yW)else(bif Nat.blt t 223 then some yV else some yU))))else(bif Nat.blt t 231 then(bif Nat.blt t 227 then(bif Nat.blt t 225 then some yT else(bif Nat.blt t 226 then some yS else some yR))else(bif Nat.blt t 229 then(bif Nat.blt t 228 then some yQ else some yP)else(bif Nat.blt t 230 then some yO else some yN)))else(bif Nat.blt t 235 then(bif Nat.blt t 233 then(bif Nat.blt t 232 then some yM else some yL)else(bif Nat.blt t 234 then some yK else some yJ))else(bif Nat.blt t 237 then(bif Nat.blt t 236 then some yI else some yH)else(bif Nat.blt t 238 then some yG else some yF))))))))else none
theorem vd:(List.range 239).map TI=(List.range 239).map (eO Go.Proofs.Tryz.prog):=by kernel_rfl
theorem Ah:Dz Go.Proofs.Tryz.prog TI:=by
 intro t i h
 by_cases c:t<239
 . have h1:((List.range 239).map TI)[t]?=((List.range 239).map (eO Go.Proofs.Tryz.prog))[t]?:=by rw[vd]
   rw[q54,q54,q44 c]at h1;simp only[q80,q53]at h1;rw[<-h1,h]
 . have h2:Nat.blt t 239=false:=by
    rw[q64];intro hc;exact c (qZ6.mp hc)
   unfold TI at h;rw[h2]at h
   cases h
theorem mix:Go.Proofs.Tryz.prog.follows .mixedOrders=true:=by kernel_rfl
structure Tac where
  op:Int
  d:Int
  a:Int
  b:Int
  k:Int
  base:Int
  size:Int
  n:Int
  deriving DecidableEq,Repr
structure Block where
  ins:List Tac
  fin:Int
  v:Int
  to:Int
  els:Int
  deriving DecidableEq,Repr
structure BFunc where
  regs:Int
  blocks:List Block
  deriving DecidableEq,Repr
structure Blocks where
  words:Int
  funcs:List BFunc
  deriving DecidableEq,Repr
structure Cert where
  same:List (List Bool)
  deriving DecidableEq,Repr
def Tac.cells(t:Tac):List AV:=[.int .i64 t.op,.int .i64 t.d,.int .i64 t.a,.int .i64 t.b,.int .i64 t.k,.int .i64 t.base,.int .i64 t.size,.int .u32 t.n]
def CU(l:List Tac):AV:=.lst false (l.map Tac.cells)
def Block.cells(b:Block):List AV:=[CU b.ins,.int .i64 b.fin,.int .i64 b.v,.int .i64 b.to,.int .i64 b.els]
def BK(l:List Block):AV:=.lst false (l.map Block.cells)
def BFunc.cells(f:BFunc):List AV:=[.int .i64 f.regs,BK f.blocks]
def Fl(l:List BFunc):AV:=.lst false (l.map BFunc.cells)
def Blocks.cells(b:Blocks):List AV:=[.int .i64 b.words,Fl b.funcs]
def Co(l:List Bool):AV:=.lst false (l.map fun b=>[.bool b])
def AI(l:List Int):AV:=.lst false (l.map fun b=>[.int .i64 b])
def N5(l:List (List Bool)):AV:=.lst false (l.map fun r=>[Co r])
def Ax(l:List (List Int)):AV:=.lst false (l.map fun r=>[AI r])
def Cert.cells(c:Cert):List AV:=[N5 c.same]
variable {α : Type} {k : Nat}
theorem Au{l:List α}{f:α->List AV}{x:α}(h:l[k]?=some x):(l.map f)[((k:Nat):Int).toNat]?=some (f x):=by
 rw[q55,q54,h];rfl
theorem Ad{l:List α}(h:k<l.length):∃x,l[k]?=some x:=⟨l[k],q13 h⟩
theorem AT{l:List α}{x:α}(h:l[k]?=some x):l.take (k+1)=l.take k++[x]:=by
 rw[q59,h];rfl
def qI(l:List Tac):Prop:=l.length<=maxLen
def Block.fits(x:Block):Prop:=x.ins.length<=maxLen
def R9(l:List Block):Prop:=l.length<=maxLen/\∀x∈l,x.fits
def BFunc.fits(f:BFunc):Prop:=R9 f.blocks
def U0(l:List BFunc):Prop:=l.length<=maxLen/\∀f∈l,f.fits
def Blocks.fits(b:Blocks):Prop:=U0 b.funcs
variable {H : AJ} {ι : BD} {ex : Bool} {v : Value}
theorem Q2{l:List α}{f:α->List AV}(h:Rel H ι (.lst ex (l.map f)) v):
 l.length<=maxLen/\∀x∈l,∀(j:Nat) (y:AV),(f x)[j]?=some y->∃u,Rel H Bk y u:=by
 refine⟨by have:=qm h;simpa using this,fun x hx j y hy=>?_⟩;obtain⟨i,hi⟩:=q27.1 hx;rcases h.lst_inv with⟨h0,_⟩|⟨_,b,off,cap,sz,c,vals,_,_,_,_,hr,_⟩
 . rw[List.map_eq_nil_iff]at h0;subst h0;simp at hi
 . exact⟨_,hr i (f x) j y (by rw[q54,hi];rfl) hy⟩
theorem pL{l:List Tac}(h:Rel H ι (CU l) v):qI l:=(Q2 h).1
theorem Q3{l:List Block}(h:Rel H ι (BK l) v):R9 l:=by
 obtain⟨h1,h2⟩:=Q2 h;exact⟨h1,fun x hx=>by obtain⟨u,hu⟩:=h2 x hx 0 _ rfl;exact pL hu⟩
variable {cs : List AV} {x : AV}
theorem Xr(h:Rel H ι (.agg cs) v){j:Nat}(hj:cs[j]?=some x):∃u,Rel H ι x u:=by
 obtain⟨us,_,hl,hr⟩:=h.agg_inv;have hlt:j<us.size:=by rw[<-hl];exact(q05.1 hj).1
 obtain⟨u,hu⟩:=BN hlt;exact⟨u,hr j x u hj hu⟩
theorem N9{f:BFunc}(h:Rel H ι (.agg f.cells) v):f.fits:=by
 obtain⟨u,hu⟩:=Xr h (j:=1) rfl;exact Q3 hu
theorem fF{l:List BFunc}(h:Rel H ι (Fl l) v):U0 l:=by
 obtain⟨h1,h2⟩:=Q2 h;exact⟨h1,fun x hx=>by obtain⟨u,hu⟩:=h2 x hx 1 _ rfl;exact Q3 hu⟩
theorem M2{b:Blocks}(h:Rel H ι (.agg b.cells) v):b.fits:=by
 obtain⟨u,hu⟩:=Xr h (j:=1) rfl;exact fF hu
variable {s : Ar} {c : Code}
theorem Ij{P:Program}{Q:Exit->Ar->Prop}(t:Nat){φ:Prop}(ht:s.env t=some x)(hf:∀H ι v,Rel H ι x v->φ)(h:φ->AGo P c s Q):AGo P c s Q:=
 oG (fun H ι a w hs=>by obtain⟨v,_,hv⟩:=hs.env t x ht;exact hf H ι v hv) h
variable {β : Type}
theorem Dq{l:List α}{f:α->β}(h:decide ((k:Int)<(((l.map f).length:Nat):Int))=true):k<l.length:=by simpa using h
theorem Dr{l:List α}{f:α->β}(h:decide ((k:Int)<(((l.map f).length:Nat):Int))=false):l.length<=k:=by simpa using h
theorem Tac.eqCells(x y:Tac):Sv.eqCells x.cells y.cells=some (decide (x=y)):=by
 have h:Sv.eqCells x.cells y.cells=some (x.op==y.op&&(x.d==y.d&&(x.a==y.a&&(x.b==y.b&&(x.k==y.k&&(x.base==y.base&&(x.size==y.size&&(x.n==y.n&&true)))))))):=rfl;rw[h];congr 1;obtain⟨a1,a2,a3,a4,a5,a6,a7,a8⟩:=x;obtain⟨b1,b2,b3,b4,b5,b6,b7,b8⟩:=y;rw[Bool.eq_iff_iff];simp[Tac.mk.injEq]
variable {P : Program} {T : Nat -> Option AC} {o : Oper} {e : A3} {h : Aj}
variable {xs : List AV}
theorem HZ{f:Fn}{first captured:Array Operand}(ho:o.op=.makeFunc f first captured)(hx:BA e first.toList=some xs)(hc:BA e captured.toList=some cs):QLoc P o e h [] (.fn f xs cs):=by
 intro H ι a w s hs g1 g2;have hx':BA s.env first.toList=some xs:=by
  rw[GX (e:=e) (fun x hx=>g1 x (by rw[ho];simp[Op.operands];exact .inl (by simpa using hx)))];exact hx
 have hc':BA s.env captured.toList=some cs:=by
  rw[GX (e:=e) (fun x hx=>g1 x (by rw[ho];simp[Op.operands];exact .inr (by simpa using hx)))];exact hc
 have h1:=DW hs hx';have h2:=DW hs hc';refine⟨.func f (first.map a.eval) (captured.map a.eval),.fn _ _ _ _ _ _ h1.1 h2.1 h1.2 h2.2,?_⟩;simp only[execOp,ho,Instr.makeFunc,qQ9,qX1,q57]
variable {us : Array Value}
theorem FB{ys:List AV}{vs:Array Value}(h1:RelAll H ι xs us)(h2:RelAll H ι ys vs):RelAll H ι (xs++ys) (us++vs):=by
 refine⟨by simp[h1.1,h2.1],fun j x v g1 g2=>?_⟩
 by_cases hj:j<xs.length
 . rw[q06 hj]at g1;rw[q04 (by rw[<-h1.1];exact hj)]at g2;exact h1.2 j x v g1 g2
 . rw[q02 Ab]at g1;rw[Array.getElem?_append_right (by rw[<-h1.1];omega),<-h1.1]at g2;exact h2.2 _ x v g1 g2
variable {x : Operand} {f : FuncId} {fn : Func} {args : Array Operand} {tys : Array TypeId} {r : AV}
theorem HB{fs:List AV}{hc hw:Aj}(L:List Nat)(W:List (Nat×AObj))(ho:o.op=.call {callee:=.value x,args:=args,argTypes:=tys})(hfn:At e x=some (.fn (.func f) fs cs))(hf:P.funcs[f]?=some fn)(hn:(fn.name== "runtime.NumGoroutine")=false)(hb:fn.body.isSome=true)
 (hx:BA e args.toList=some xs) (hxa:(fs++xs++cs).all (AV.avoid (mem L))=true) (hL:AllL L fun b=>∃q,h b=some q/\q.avoid (mem L)=true) (hW:W.all (fun p=>mem L p.1)=true) (hres':hres h L=hc)
 (hk:AllL L fun b=>∃q,hw b=some q/\AQ h W b=some q/\q.avoid (mem L)=true) (hra:r.avoid (mem L)=true)
 (hcall:ACall P f (fs++xs++cs) hc (fun r' h'=>r'=r/\HSub hw h')):OLoc P o e h L W (some r):=by
 intro H ι a w s Q hs g1 g2;have hx':BA s.env args.toList=some xs:=by
  exact iK
 have hfn':At s.env x=some (.fn (.func f) fs cs):=by rw[g1 x Hr,hfn]
 have hvf:=Aw hs hfn';obtain⟨us,vs,hve,k1,k2,k3,k4⟩:=hvf.fn_inv;have hraa:=FB (FB ⟨k1,k3⟩ (DW hs hx')) ⟨k2,k4⟩;have hra':RelAll H (DO ι (mem L)) (fs++xs++cs) (us++args.map a.eval++vs):=⟨hraa.1,fun j x v h1 h2=>Fo (hraa.2 j x v h1 h2) (Gz hxa h1)⟩;have hLs:∀b∈L,∃q,s.h b=some q/\q.avoid (mem L)=true:=fun b hb=>by rw[g2 b hb];exact hL.get b hb
 have hres2:hres s.h L=hc:=by
  exact sf
 have hrc:HeapRel H (DO ι (mem L)) (hres s.h L) w:=by
  exact xq
 have hcalls:=hcall H (DO ι (mem L)) w _ hra' (hres2▸hrc);have hexec:(execOp a.eval o).run P w=.ok (.enter f (us++args.map a.eval++vs)) w:=by
  simp only[execOp,ho,resolve,hve,Deferred.ofValue,invoke,qQ9,qX1,q57,DL hf hn hb]
 exact xm
variable {j i : AC} {b n len sz u : Nat} {t : TypeId} {y : Operand} {p : Bool} {es : List (List AV)}
theorem It(hT:Dz P T){m:Nat}{k:IntKind}{z:Int}(ho:o.op=.slice t x none (some y) none)(hx:At e x=some (.ref b n 0 len))(hy:At e y=some (.int k z))(ht:T t=some i)(hk:i.k=.slice u)(hj:T u=some j)
 (hb:h b=some (.row p sz es)) (hn:n=es.length) (hz:z=(m:Int)) (hm:m<=len):QLoc P o e h [b] (.ref b n 0 m):=by
 intro H ι a w s hs g1 g2;have hx':At s.env x=some (.ref b n 0 len):=by rw[g1 x BY,hx]
 have hy':At s.env y=some (.int k z):=by rw[g1 y BY,hy]
 have hb':s.h b=some (.row p sz es):=by rw[g2 b Aq,hb]
 subst hz;obtain⟨info,d,e1,e2,e3,e4,e5,e6⟩:=Am (hT _ _ ht);obtain⟨info',d',e1',e2',e3',e4',e5',e6'⟩:=Am (hT _ _ hj);have hd:=Cc (P:=P) (d:=d) (e3▸hk);subst hd;have hvx:=Aw hs hx';have hvy:=(Aw hs hy').int_inv;generalize hva:a.eval x=va at hvx;obtain⟨r,hl,⟨r1,r2,r3,r4,r5,r6⟩,r7⟩:=hs.heap.obj b _ hb' rfl;have hrun:∀(ad:Option Addr) (cap:Nat),m<=cap->va=.slice ad len cap->(execOp a.eval o).run P w=.ok (.value (.slice (if cap=0 then ad else ad.map (·.add (0*j.size))) (m-0) (cap-0))) w:=fun ad cap hcap hv=>by
  simp only[execOp,ho,hva,hv,hvy,Instr.sliceAt,Instr.slice,Option.map_none,q80,qQ9,As e2,q57,Is e1',e4',qX1];simp[Instr.sliceBounds,Instr.sliceBound,asIntOf,hcap]
 by_cases hsol:r.csz=0
 . obtain⟨hl0,ad,rfl,hsp⟩:=hvx.ref_dry hl Ab hsol Ab;subst hl0;obtain rfl:m=0:=by omega
   refine⟨_,?_,hrun ad 0 (qZ0 _) rfl⟩;simpa using hvx
 . obtain⟨hlen,cap,rfl,hlc,hcap,hmax⟩:=hvx.ref_live hl Ab hsol;refine⟨_,?_,hrun _ cap Ab rfl⟩;have:=Rel.refL (H:=H) ι b n 0 m cap r hl Ab Ab Ab hcap hmax;have hadd:(if cap=0 then some (⟨r.rb,0*r.sz,none⟩:Addr)else(some (⟨r.rb,0*r.sz,none⟩:Addr)).map (·.add (0*j.size)))=some ⟨r.rb,0*r.sz,none⟩:=by
    split
    . rfl
    . simp[Addr.add]
   rw[hadd];simpa using this
variable {t' : TypeId} {i' : AC} {u' : Nat} {cs2 : List AV} {q : AV} {R : List Nat}
theorem aC(hT:Dz P T)
 (ho:o.op=.call {callee:=.builtin .append,args:= #[x,y],argTypes:= #[t,t']}) (hx:At e x=some (.ref b n 0 len)) (hy:At e y=some q) (hi:T t=some i) (hk:i.k=.slice u) (hj:T u=some j) (hi':T t'=some i') (hk':i'.k=.slice u')
 (hb:h b=some (.row p sz es)) (hn:n=es.length) (hlt:len<n) (hsz:sz=j.size) (hp:0<j.size)
 (hsrc:SrcOf h q R [cs2]) (hu2:cs2.length=sz) (hpure:p=true->cs2.all AV.isPure1=true):
 OLoc P o e h (b::R) [(b,.row p sz (es.set len cs2))] (some (.ref b n 0 (len+1))):=by
 intro H ι a w s Q hs g1 g2;have hx':At s.env x=some (.ref b n 0 len):=by rw[g1 x Hr,hx]
 have hy':At s.env y=some q:=by rw[g1 y Hr,hy]
 have hb':s.h b=some (.row p sz es):=by rw[g2 b Aq,hb]
 have hsrc':=hsrc.agree (h':=s.h) (fun c hc=>g2 c (by simp[hc]));obtain⟨info,d,e1,e2,e3,e4,e5,e6⟩:=Am (hT _ _ hi);obtain⟨infou,du,f1,f2,f3,f4,f5,f6⟩:=Am (hT _ _ hj);obtain⟨info',d',e1',e2',e3',e4',e5',e6'⟩:=Am (hT _ _ hi');have hd:=Cc (P:=P) (d:=d) (e3▸hk);subst hd;have hd':=Cc (P:=P) (d:=d') (e3'▸hk');subst hd';subst hsz;subst hn;obtain⟨r,hl,⟨r1,r2,r3,r4,r5,r6⟩,r7⟩:=hs.heap.obj b _ hb' rfl;have hvx:=Aw hs hx';have hvy:=Aw hs hy';generalize hva:a.eval x=va at hvx;generalize hvb:a.eval y=vb at hvy;have hexec:∀(v:Value) (w':World),(Builtin.append_ #[t,t'] o.type #[va,vb]).run P w=.ok v w'->(execOp a.eval o).run P w=.ok (.value v) w':=fun v w' hrun=>by
  exact iM
 obtain⟨news,hsrcw,hnews⟩:=QJ hs.heap hsrc' hvy e2' hp (by intro cs h;simp at h;subst h;exact hu2) w rfl;rw[<-f4]at hsrcw;have hnl:news.length=j.size:=by rw[hsrcw.newsLen,f4];simp
 have hsol:r.csz≠0:=fun h0=>by
  have:0<es.length*j.size:=Nat.mul_pos Ab hp;omega
 obtain⟨hlen,cap,hvv,hlc,hcap,hmax⟩:=hvx.ref_live hl Ab hsol;obtain⟨c,TT,w1,w2,w3⟩:=r6 hsol;simp only[Nat.zero_mul,qQ8]at hcap hvv;have hcs:c.size=cap*j.size:=by rw[w2,<-hcap,r1]
 have hmul:(len+1)*j.size<=es.length*j.size:=q34 _ Ab;have hmul':(len+1)*j.size=len*j.size+j.size:=by rw[qZ2,Nat.one_mul]
 have hroom:len+1<=cap:=by
  refine Nat.le_of_mul_le_mul_right (c:=j.size) ?_ hp;rw[<-hcs,w2];omega
 have hfit:len*infou.size+news.length<=c.size:=by rw[hnl,f4,w2];omega
 have hrun:=Fv (P:=P) (w:=w) t t' o.type u infou e2 f1 r.rb len cap c TT w1 vb 1 news hsrcw hroom hfit;rw[f4]at hrun hfit;generalize hC:(c.toList.take (len*j.size)++news++c.toList.drop (len*j.size+news.length)).toArray=C at*;have hCs:C.size=c.size:=by rw[<-hC];simp;omega
 have hget:∀k:Nat,C[k]?=if k<len*j.size then c[k]? else if k<len*j.size+j.size then news[k-len*j.size]? else c[k]?:=fun k=>by
  rw[<-hC];simp only[List.getElem?_toArray];have hm:(c.toList.take (len*j.size)).length=len*j.size:=by simp;omega
  by_cases h1:k<len*j.size
  . rw[qK0 h1,q06 (by rw[q48,hm];omega),q06 (by rw[hm];exact h1),q14 h1,q29]
  . rw[qZ9 h1]
    by_cases h2:k<len*j.size+j.size
    . rw[qK0 h2,q06 (by rw[q48,hm,hnl];exact h2),q02 (by rw[hm];omega),hm]
    . rw[qZ9 h2,q02 (by rw[q48,hm,hnl];omega),q48,hm,hnl,q49,q29];congr 1;omega
 have hll:LLe ι (ES ι b r):=LLe.put fun r' hr'=>by rw[hl]at hr';cases hr';exact .inl rfl
 have hlens:∀(i:Nat) (cs:List AV),(es.set len cs2)[i]?=some cs->cs.length=j.size:=fun i cs hc=>by
  by_cases hi:len=i
  . subst hi;rw[q21 hlt]at hc;cases hc;exact hu2
  . rw[q36 hi]at hc;exact r5 i cs hc
 have hrow:rowCells H (bif p then Bk else ES ι b r) j.size (es.set len cs2) C:=by
  refine⟨hlens,fun i cs k y hc hk=>?_⟩;have hkk:k<j.size:=by
   rw[<-hlens i cs hc];exact(q05.1 hk).1
  have hi:i<es.length:=by
   have:=(q05.1 hc).1;simpa using this
  by_cases hil:len=i
  . subst hil;rw[q21 hlt]at hc;cases hc;obtain⟨v,k1,k2,k3⟩:=hnews 0 cs2 k y rfl hk;rw[Nat.zero_mul,qQ8]at k1;refine⟨v,by rw[hget,qZ9 Ab,qK0 Ab,Nat.add_sub_cancel_left];exact k1,?_,k3⟩
    cases p with
    |false=>exact k2.mono (qK1 _) hll
    |true=>exact EJ (q67.1 (hpure rfl) y (q33 hk)) k2
  . rw[q36 hil]at hc;obtain⟨v,k1,k2,k3⟩:=w3.2 i cs k y hc hk;refine⟨v,?_,?_,k3⟩
    . rw[hget]
      by_cases h1:i<len
      . have:(i+1)*j.size<=len*j.size:=q34 _ Ab;rw[qZ2,Nat.one_mul]at this;rw[qK0 Ab];exact k1
      . have:(len+1)*j.size<=i*j.size:=q34 _ Ab;rw[qZ9 Ab,qZ9 Ab];exact k1
    . cases p with
      |false=>exact k2.mono (qK1 _) hll
      |true=>exact k2
 obtain⟨u1,u2⟩:=hs.heap.upd (w':=w.setRow r.rb C) (o0:=.row p j.size es) (o':=.row p j.size (es.set len cs2)) (r':=r) hb' rfl
  (.inr ⟨r,hl,rfl,.inl rfl⟩) (fun _=>.inr ⟨r,hl,rfl,hsol,rfl⟩)
  (fun rb hlt' hne=>setRow_other w r.rb rb _ (hne r hl rfl hsol)) Aq (N3 _ _ _) (L8 _ _ _)
  ⟨r1,r2,by simp[r3],by simpa using r4,hrow.1,fun _=>⟨C,TT,w1.setRow hCs,hCs.trans w2,hrow⟩⟩
 have hex:=hexec _ _ (hvv▸hrun);unfold Oper.wp;rw[hex];refine⟨_,H,_,rfl,(fun x ex=>?_),u1,u2⟩
 cases ex
 have:=Rel.refL (H:=H) (ES ι b r) b es.length 0 (len+1) cap _ (BH _ _ _) r3 Ab hroom (by rw[qQ8];exact hcap) hmax;simpa using this
def Eo(es:List (List AV))(len:Nat)(cs:List AV):List (List AV):=if len<es.length then es.set len cs else es++[cs]
theorem Me(h:len<=es.length):(Eo es len cs).take (len+1)=es.take len++[cs]:=by
 unfold Eo;split
 . rename_i hlt;rw[AT (q21 hlt),List.take_set_of_le (qZ0 _)]
 . have:len=es.length:=by omega
   subst this;rw[q20 Aq,q20 (qZ0 _)]
theorem Of(h:len<=es.length):len+1<=(Eo es len cs).length:=by
 unfold Eo;split
 . simp;omega
 . simp;omega
theorem Rn(hT:Dz P T)
 (ho:o.op=.call {callee:=.builtin .append,args:= #[x,y],argTypes:= #[t,t']}) (hx:At e x=some (.ref b n 0 len)) (hy:At e y=some q) (hi:T t=some i) (hk:i.k=.slice u) (hj:T u=some j) (hi':T t'=some i') (hk':i'.k=.slice u')
 (hb:h b=some (.row p sz es)) (hn:n=es.length) (hlt:len<=n) (hsz:sz=j.size) (hz:j.zero.length=j.size) (hp:0<j.size)
 (hsrc:SrcOf h q R [cs2]) (hu2:cs2.length=sz) (hpure:p=true->cs2.all AV.isPure1=true) (hby:(es.length+1)*j.bytes<=140737488355328) (hml:es.length+1<=maxLen):
 OLoc P o e h (b::R) [(b,.row p sz (Eo es len cs2))] (some (.ref b (Eo es len cs2).length 0 (len+1))):=by
 by_cases h1:len<es.length
 . have e1:Eo es len cs2=es.set len cs2:=by simp[Eo,h1]
   rw[e1];have:=aC hT ho hx hy hi hk hj hi' hk' hb hn Ab hsz hp hsrc hu2 hpure;rw[q83,<-hn];exact this
 . have e1:Eo es len cs2=es++[cs2]:=by simp[Eo,h1]
   have hl:len=n:=by omega
   subst hl;rw[e1];have:=E4 hT ho hx hy hi hk hj hi' hk' hb hn hsz hz hp hsrc (by intro cs h;simp at h;subst h;exact hu2) (fun hp cs h=>by simp at h;subst h;exact hpure hp) (m:=1) rfl hby hml;rw[show(es++[cs2]).length=len+1 by simp[hn]];exact this
theorem AP{x:Nat}{o:AObj}{r:Option AObj}(hb:Nat.beq x b=false)(hr:h x=r):Af h b o x=r:=by simp only[Af,hb,qZ3,hr]
def FE(h:Aj)(κ:Nat->Bool):Aj:=fun b=>bif κ b then h b else some .free
def Nk(ι ι':BD)(κ:Nat->Bool):BD:=fun b=>bif κ b then ι' b else ι b
variable {w w' : World} {hn h' : Aj} {H' : AJ} {ι' : BD}
theorem ik{κ:Nat->Bool}(hr:HeapRel H ι h w)
 (hL:∀b,κ b=true->∃o,h b=some o/\o.avoid κ=true) (hW:∀b,κ b=false->hn b=h b)
 (hk:∀b,κ b=true->∃o,h' b=some o/\hn b=some o/\o.avoid κ=true)
 (hr':HeapRel H' ι' h' w') (hst:Step H (DO ι κ) (FE h κ) w H' ι' h' w'):
 HeapRel H' (Nk ι ι' κ) (hn) w'/\Step H ι h w H' (Nk ι ι' κ) (hn) w':=by
 have mT:∀b,κ b=true->Nk ι ι' κ b=ι' b:=fun b hb=>by simp only[Nk,hb,qZ7]
 have mF:∀b,¬κ b=true->Nk ι ι' κ b=ι b:=fun b hb=>by
  have:κ b=false:=by cases e:κ b with|false=>rfl|true=>exact absurd e hb
  simp only[Nk,this,qZ3]
 have cT:∀b,κ b=true->DO ι κ b=ι b:=fun b hb=>Gl hb
 have rT:∀b,κ b=true->FE h κ b=h b:=fun b hb=>by simp only[FE,hb,qZ7]
 have rF:∀b,¬κ b=true->FE h κ b=some .free:=fun b hb=>by
  have:κ b=false:=by cases e:κ b with|false=>rfl|true=>exact absurd e hb
  simp only[FE,this,qZ3]
 have wF:∀b,¬κ b=true->hn b=h b:=fun b hb=>hW b (by cases e:κ b with|false=>rfl|true=>exact absurd e hb)
 have own:∀rb,EQ (FE h κ) (DO ι κ) rb->EQ h ι rb:=by
  rintro rb ⟨b,o,r,h1,h2,h3,h4,h5⟩
  by_cases hb:κ b=true
  . exact⟨b,o,r,by rw[<-rT b hb];exact h1,h2,BX h3,h4,h5⟩
  . rw[rF b hb]at h1;cases h1;cases h2
 -- rows that the call didn't see are none of its
 have apart:∀b o r,¬κ b=true->h b=some o->o.alive=true->ι b=some r->r.solid->¬EQ (FE h κ) (DO ι κ) r.rb:=by
  rintro b o r hb h1 h2 h3 h4 ⟨b',o',r',g1,g2,g3,g4,g5⟩
  by_cases hb':κ b'=true
  . exact hr.inj b b' o o' r r' h1 h2 (by rw[<-rT b' hb'];exact g1) g2 h3 (BX g3) h4 g4 (fun e=>hb (e▸hb')) g5.symm
  . rw[rF b' hb']at g1;cases g1;cases g2
 have lle:LLe ι (Nk ι ι' κ):=fun b r e=>by
  by_cases hb:κ b=true
  . rw[mT b hb];exact hst.lle b r (by rw[cT b hb];exact e)
  . rw[mF b hb];exact⟨r,e,.inl rfl⟩
 have lle':LLe (DO ι' κ) (Nk ι ι' κ):=fun b r e=>by
  by_cases hb:κ b=true
  . rw[mT b hb];exact⟨r,BX e,.inl rfl⟩
  . have:κ b=false:=by cases e:κ b with|false=>rfl|true=>exact absurd e hb
    simp only[DO,this,qZ3]at e;cases e
 have blk:∀b o r,¬κ b=true->h b=some o->o.alive=true->ι b=some r->r.solid->w'.heap[r.rb]?=w.heap[r.rb]?:=fun b o r hb h1 h2 h3 h4=>
  hst.keep r.rb (hr.lt ⟨b,o,r,h1,h2,h3,h4,rfl⟩) (apart b o r hb h1 h2 h3 h4)
 have noK:∀b o r,¬κ b=true->h b=some o->o.alive=true->ι b=some r->r.solid->H r.rb=none->H' r.rb=none:=fun b o r hb h1 h2 h3 h4 h5=>by
  exact tf
 -- a row of the call's, afterwards: not one of those that it didn't see
 have apart':∀b b' o r r',¬κ b=true->κ b'=true->h b=some o->o.alive=true->ι b=some r->r.solid->ι' b'=some r'->r'.solid->r.rb≠r'.rb:=fun b b' o r r' hb hb' h1 h2 h3 h4 g1 g2 e=>by
  exact xc
 refine⟨⟨hr'.know,fun b hb=>?_,fun b o h1 h2=>?_,fun b b' o o' r r' h1 h2 h3 h4 h5 h6 s1 s2 hne=>?_,hr'.glob⟩,⟨hst.size,hst.os,hst.out,fun rb hlt hno=>hst.keep rb hlt (fun h=>hno (own rb h)),hst.kle,fun b hb=>?_,lle,fun b e=>?_,fun b r' e es=>?_,fun b e=>?_⟩⟩
 . by_cases hbL:κ b=true
   . obtain⟨o,k1,k2,_⟩:=hk b hbL;rw[k2]at hb;cases hb;rw[mT b hbL];exact hr'.free b k1
   . rw[wF b hbL]at hb;rw[mF b hbL];exact hr.free b hb
 . by_cases hbL:κ b=true
   . obtain⟨o',k1,k2,k3⟩:=hk b hbL;exact sI
   . rw[wF b hbL]at h1;exact sO
 . by_cases hb:κ b=true<;>by_cases hb':κ b'=true
   . obtain⟨q,k1,k2,_⟩:=hk b hb;exact sV
   . rw[wF b' hb']at h3;rw[mF b' hb']at h6;rw[mT b hb]at h5;exact fun e=>apart' b' b o' r' r hb' hb h3 h4 h6 s2 h5 s1 e.symm
   . rw[wF b hb]at h1;rw[mF b hb]at h5;rw[mT b' hb']at h6;exact apart' b b' o r r' hb hb' h1 h2 h5 s1 h6 s2
   . rw[wF b hb]at h1;rw[mF b hb]at h5;rw[wF b' hb']at h3;rw[mF b' hb']at h6;exact hr.inj b b' o o' r r' h1 h2 h3 h4 h5 h6 s1 s2 hne
 . rcases hst.knew b hb with g|g|g
   . exact .inl g
   . exact .inr (.inl g)
   . exact .inr (.inr (own b g))
 . by_cases hb:κ b=true
   . obtain⟨o,k1,_⟩:=hL b hb;rw[k1]at e;cases e
   . exact mF b hb
 . by_cases hb:κ b=true
   . rw[mT b hb]at e;exact sF
   . rw[mF b hb]at e;exact .inl e
 . by_cases hb:κ b=true
   . obtain⟨o,k1,_⟩:=hL b hb;rw[k1]at e;cases e
   . rw[wF b hb];exact e
def EDropK(k:Nat->Bool)(e' e:A3):Prop:=∀t x,e' t=some x->e t=some x/\x.avoid k=true
def SQ(k:Nat->Bool)(h' h:Aj):Prop:=∀b o,h' b=some o->(h b=some o/\(o.alive=true->k b=true/\o.avoid k=true))\/(o=.free/\k b=false)
theorem EDropK.new(k:Nat->Bool)(e:A3):EDropK k AU e:=fun _ _ h=>by cases h
variable {k : Nat -> Bool}
theorem EDropK.put{e':A3}{t:Nat}{v:AV}(h:EDropK k e' e)(hv:e t=some v)(ha:v.avoid k=true):EDropK k (Aa e' t v) e:=fun u x hx=>by
 exact rU
structure DropK(k:Nat->Bool)(s'' s':Ar):Prop where
  n:s''.n=s'.n
  e:EDropK k s''.env s'.env
  h:SQ k s''.h s'.h
theorem DropK.mk'{k:Nat->Bool}{n:Nat}{e' e:A3}{h' h:Aj}(h1:EDropK k e' e)(h2:SQ k h' h):DropK k ⟨n,e',h'⟩ ⟨n,e,h⟩:=⟨rfl,h1,h2⟩
abbrev qV3:=@DropK.mk'
variable {a : Act}
theorem Sim.cutK{s':Ar}(hs:Sim H ι s a w)(hd:DropK k s' s):Sim H (DO ι k) s' a w:=by
 have hal:∀b o,s'.h b=some o->o.alive=true->s.h b=some o/\k b=true/\o.avoid k=true:=fun b o h1 h2=>by
  exact rn
 refine⟨hs.n.trans hd.n.symm,hs.d,fun t x hx=>?_,⟨hs.heap.know,fun b hb=>?_,fun b o h1 h2=>?_,fun b b' o o' r r' h1 h2 h3 h4 h5 h6=>?_,hs.heap.glob⟩⟩
 . obtain⟨g1,g2⟩:=hd.e t x hx;obtain⟨v,v1,v2⟩:=hs.env t x g1;exact⟨v,v1,Fo v2 g2⟩
 . rcases hd.h b _ hb with⟨g1,_⟩|⟨_,g2⟩
   . have:=hs.heap.free b g1;unfold DO;rw[this];cases k b<;>rfl
   . unfold DO;rw[show k b=false from g2];rfl
 . obtain⟨g1,g2,g3⟩:=hal b o h1 h2;obtain⟨r,r1,r2,r3⟩:=hs.heap.obj b o g1 h2;exact⟨r,by rw[Gl (k:=k) g2];exact r1,Jb r2 g3,r3⟩
 . exact hs.heap.inj b b' o o' r r' (hal b o h1 h2).1 h2 (hal b' o' h3 h4).1 h4 (BX h5) (BX h6)
theorem Step.cutK{h1:Aj}(hr:HeapRel H ι h w)(hf:∀b,k b=false->h b=some .free)
 (st:Step H ι h w H' ι' h1 w') (hd:SQ k h' h1):Step H ι h w H' (DO ι' k) h' w' where
 size:=st.size
 os:=st.os
 out:=st.out
 keep:=st.keep
 kle:=st.kle
 knew:=st.knew
 lle:=fun b r e=>by
  cases hb:k b with
  |false=>rw[hr.free b (hf b hb)]at e;cases e
  |true=>rw[Gl (k:=k) hb];exact st.lle b r e
 lframe:=fun b e=>by
  cases hb:k b with
  |false=>rw[hf b hb]at e;cases e
  |true=>rw[Gl (k:=k) hb];exact st.lframe b e
 newrb:=fun b r' e=>st.newrb b r' (BX e)
 dom:=fun b e=>by
  exact sS
variable {Q : Exit -> Ar -> Prop}
theorem AGo.cutK{c:Code}{K:Ar->Prop}(k:Nat->Bool)(hf:∀b,k b=false->s.h b=some .free)(h:AGo P c s (El (fun s1=>∃s2,DropK k s2 s1/\K s2) Q)):AGo P c s (El K Q):=fun H ι a w hs=>
 wp_mono (h H ι a w hs) fun e a' w' hp=>by
  obtain⟨s',H',ι',q,r,t⟩:=hp
  cases e with
  |normal=>
   obtain⟨s2,d,k2⟩:=q;exact⟨s2,H',_,k2,r.cutK d,t.cutK hs.heap hf d.h⟩
  |_=>exact⟨s',H',ι',q,r,t⟩
theorem Bu{γ:Type}(k:Nat->Bool)(inv:γ->Ar)(F:γ->Prop)(μ:γ->Nat)(g0:γ)(h0:Sub (inv g0) s)(hF:F g0)(hf:∀g b,k b=false->(inv g).h b=some .free)
 (round:∀g,F g->AGo P c (inv g) (El (fun s'=>∃g',DropK k (inv g') s'/\F g'/\μ g'<μ g) Q)):AGo P (.loop c) s Q:=
 qJ7 inv F μ g0 h0 hF fun g hg=>AGo.cutK k (hf g) ((round g hg).mono fun e s'' hq=>by
  cases e with
  |normal=>obtain⟨g',h1,h2,h3⟩:=hq;exact⟨inv g',h1,g',Sub.refl _,h2,h3⟩
  |_=>exact hq)
def PI(P:Program)(o:Oper)(e:A3)(h hn:Aj)(r:AV):Prop:=
  ∀(H:AJ) (ι:BD) (a:Act) (w:World) (n:Nat) (Q:Exit->Act->World->Prop),Sim H ι ⟨n,e,h⟩ a w->
    o.wp P a w (fun a' w'=>∃v H' ι',a'=a.put o.dst v/\Rel H' ι' r v/\HeapRel H' ι' hn w'/\Step H ι h w H' ι' hn w') Q
theorem Nh{hc hw:Aj}(κ:Nat->Bool)(ho:o.op=.call {callee:=.value (.func f),args:=args,argTypes:=tys})(hf:P.funcs[f]?=some fn)(hnm:(fn.name== "runtime.NumGoroutine")=false)(hb:fn.body.isSome=true)
 (hx:BA e args.toList=some xs) (hxa:xs.all (AV.avoid κ)=true) (hL:∀b,κ b=true->∃q,h b=some q/\q.avoid κ=true) (hres':FE h κ=hc) (hW:∀b,κ b=false->hn b=h b)
 (hk:∀b,κ b=true->∃q,hw b=some q/\hn b=some q/\q.avoid κ=true) (hra:r.avoid κ=true)
 (hcall:ACall P f xs hc (fun r' h'=>r'=r/\HSub hw h')):PI P o e h hn r:=by
 intro H ι a w n Q hs;have hraa:=DW hs hx;have hra':RelAll H (DO ι κ) xs (args.map a.eval):=⟨hraa.1,fun j x v h1 h2=>Fo (hraa.2 j x v h1 h2) (Gz hxa h1)⟩;have hrc:HeapRel H (DO ι κ) (FE h κ) w:=by
  exact xn
 have hcalls:=hcall H (DO ι κ) w _ hra' (hres'▸hrc);have hexec:(execOp a.eval o).run P w=.ok (.enter f (args.map a.eval)) w:=by
  simp[execOp,ho,resolve,Act.eval,Deferred.ofValue,invoke,DL hf hnm hb]
 exact xg
theorem AOps.call{ops:Array Oper}{rest:List Oper}{n:Nat}{K:Ar->Prop}(d:Nat){hn:Aj}{r:AV}(hd:o.dst=some d)(hb:Nat.blt d n=true)(hg:Bt ops o e=some true)(ho:PI P o e h hn r)
 (hr:AOps P ops rest ⟨n,Aa e d r,hn⟩ K):AOps P ops (o::rest) ⟨n,e,h⟩ K:=by
 intro H ι a w hs;unfold wpList;rw[Gq hs hg];simp only[qZ8];refine .inl (qX8 (fun a' w' hx=>?_) (ho H ι a w n _ hs));obtain⟨v,H',ι',rfl,h1,h2,h3⟩:=hx;have hs':=hs.put (d:=o.dst) (r:=some r) h2 h3 (fun x ex=>by cases ex;exact h1) (Ps hd hb);rw[hd]at hs'|-;have:=hr H' ι' _ w' hs';have key:∀(l:List Oper) (a1:Act) (w1:World),wpList P ops (Post H' ι' hn w' (El K fun _ _=>False)) l a1 w1->wpList P ops (Post H ι h w (El K fun _ _=>False)) l a1 w1:=by
  have hpost:∀e a2 w2,Post H' ι' hn w' (El K fun _ _=>False) e a2 w2->Post H ι h w (El K fun _ _=>False) e a2 w2:=fun e a2 w2 hp=>Post.step hs.heap h2 h3 hp
  intro l
  induction l with
  |nil=>exact fun a1 w1 hp=>hpost _ _ _ hp
  |cons o' l ih=>
   intro a1 w1 hp;exact ji
 exact key _ _ _ this
abbrev qV4:=@AOps.call
variable {k k' : IntKind} {zi zj : Int}
theorem qb(hT:Dz P T)(ho:o.op=.makeSlice t x y)(hx:At e x=some (.int k zi))(hy:At e y=some (.int k' zj))(hni:zi=0)(hnj:zj=0)(hi:T t=some i)(hk:i.k=.slice u)(hj:T u=some j)
 (hz:j.zero.length=j.size) (hp:0<j.size) (h1:j.zero.all AV.cell1=true):OLoc P o e h [] [] (some (.lst false [])):=by
 intro H ι a w s Q hs g1 g2;have hx':At s.env x=some (.int k zi):=by rw[g1 x BY,hx]
 have hy':At s.env y=some (.int k' zj):=by rw[g1 y BY,hy]
 have hvx:=(Aw hs hx').int_inv;have hvy:=(Aw hs hy').int_inv;subst hni;subst hnj;obtain⟨info,d,e1,e2,e3,e4,e5,e6⟩:=Am (hT _ _ hi);obtain⟨info',d',e1',e2',e3',e4',e5',e6'⟩:=Am (hT _ _ hj);have hd:=Cc (P:=P) (d:=d) (e3▸hk);subst hd;obtain⟨z,hz1,hz2⟩:=Fb e6' hz hp;have hrun:=run_make (P:=P) w t u info' z e2 e1' hz1 k k' 0 0 Ab Ab Aq Ab;have hexec:(execOp a.eval o).run P w=.ok (.value (.slice (some ⟨w.heap.size,0,none⟩) 0 0)) (w.alloc (.cells (madeCells z.cells (0*info'.size)) u)):=by
  simp only[execOp,ho,hvx,hvy,qQ9,hrun,q57,qX1,Int.toNat_zero]
 unfold Oper.wp;rw[hexec];have hold:∀rb,rb<w.heap.size->(w.alloc (.cells (madeCells z.cells (0*info'.size)) u)).heap[rb]?=w.heap[rb]?:=fun rb hlt=>heap_alloc_old w _ hlt
 refine⟨_,H,ι,rfl,(fun x ex=>?_),hs.heap.grow hold,Step.grow hold Aq rfl rfl⟩
 cases ex
 exact .lst0 _ _ _ _ GZ (qZ1 _) (fun _=>rfl) trivial
theorem U2{f g:Nat->Option (Nat×Nat)}(hfg:∀i p,f i=some p->g i=some p):∀(ps:List (Nat×Value)) (cs r:Array Value),Instr.fill f cs ps=some r->Instr.fill g cs ps=some r
 | [],_,_,h=>h
 |(i,v)::ps,cs,r,h=>by
  unfold Instr.fill at h|-
  cases e:f i with
  |none=>rw[e]at h;cases h
  |some p=>
   rw[e]at h;rw[hfg i p e];obtain⟨off,sz⟩:=p;simp only at h|-;split at h
   . cases h
   . rename_i hc;rw[qZ9 hc];exact U2 hfg ps _ _ h
def dR(len sz u:Nat):List (Nat×Nat):=(List.range len).map fun k=>(k*sz,u)
theorem XA(hT:Dz P T){parts:Array (Nat×Operand)}{ps:List (Nat×AV)}{r:List AV}(ho:o.op=.build t parts)(hx:Ch e parts.toList=some ps)(hi:T t=some i)(hk:i.k=.array len u)(hj:T u=some j)(hz:i.zero.length=i.size)(hp:0<i.size)
 (hfit:G5 T (dR len j.size u) ps=true) (hr:Fj (dR len j.size u) ps i.zero=some r):QLoc P o e h [] (.agg r):=by
 intro H ι a w s hs g1 g2;have hx':Ch s.env parts.toList=some ps:=by
  exact WV
 obtain⟨l1,l2⟩:=DX hs hx';obtain⟨info,d,e1,e2,e3,e4,e5,e6⟩:=Am (hT _ _ hi);obtain⟨info',d',e1',e2',e3',e4',e5',e6'⟩:=Am (hT _ _ hj);have hd:=Ki (P:=P) (d:=d) (e3▸hk);subst hd;obtain⟨z,hz1,hz2⟩:=Fb e6 hz hp;obtain⟨z1,z2⟩:=Fq (H:=H) (ι:=ι) hz2
 let places:Array (Nat×Nat):=((List.range len).map fun k=>(k*j.size,j.size)).toArray
 have hpl:∀(i off t:Nat),(dR len j.size u)[i]?=some (off,t)->∃i',T t=some i'/\places[i]?=some (off,i'.size):=fun i off t h=>by
  simp only[dR,q54,q22,q98]at h;obtain⟨k,hk,rfl,rfl⟩:=h;exact⟨j,hj,by simp[places,hk]⟩
 obtain⟨vs,f1,f2,f3⟩:=Sf (T:=T) (s:=s) (a:=a) (w:=w) hpl ps (parts.toList.map fun(i,x)=>(i,a.eval x)) i.zero z.cells r (by simp[l1]) (fun k p q k1 k2=>⟨(l2 k p q k1 k2).1,(l2 k p q k1 k2).2,JA hfit k p k1⟩) (by simpa using z1) (fun j x v k1 k2=>z2 j x v k1 (by simpa using k2)) hr;have f1':=U2 (g:=fun i=>some (i*j.size,j.size)) (fun i p h=>by
  simp only[places,List.getElem?_toArray,q54,q22]at h;obtain⟨k,hk,rfl⟩:=h;have:=(q05.1 hk);simp at this;rw[this.2]) _ _ _ f1
 refine⟨.agg vs,.agg _ _ _ f2 f3,?_⟩;have hparts:(parts.map fun(i,x)=>(i,a.eval x)).toList=parts.toList.map fun(i,x)=>(i,a.eval x):=by simp
 simp only[execOp,ho,Instr.build,zeroValue,typeInfo,qQ9,run_program,q57,e1,hz1,qX1,As e2,Is e1',e4',hparts,f1']
def Bx(l:List UInt8):List (List AV):=l.map fun b=>[AV.int .u8 b.toNat]
theorem Ra:∀(l:List UInt8) (s:ByteArray),(l.map (fun b:UInt8=>((b.toNat:Nat):Int))).foldl (fun r n=>r.push (UInt8.ofNat n.toNat)) s=⟨s.data++l.toArray⟩
 | [],s=>by simp
 |b::r,s=>by
  simp only[qQ0,q85,q55,UInt8.ofNat_toNat];rw[Ra r];show ByteArray.mk (s.data.push b++r.toArray)=_;congr 1;apply Array.toList_inj.1
  simp
theorem lH(l:List UInt8):(l.map (fun b:UInt8=>((b.toNat:Nat):Int))).foldl (fun r n=>r.push (UInt8.ofNat n.toNat)) ByteArray.empty=⟨l.toArray⟩:=by
 rw[Ra];show ByteArray.mk (#[]++l.toArray)=_
 simp
theorem ac(hT:Dz P T){u:TypeId}{l:List UInt8}{k:AC}{v:Nat}(ho:o.op=.convert t u x)(hx:At e x=some (.lst ex (Bx l)))(hi:T t=some i)(hik:i.k=.slice v)(hv:T v=some k)(hk:k.k=.int .u8)(hj:T u=some j)(hjk:j.k=.string):
 QLoc P o e h [] (.str ⟨l.toArray⟩):=by
 intro H ι a w s hs g1 g2;have hx':At s.env x=some (.lst ex (Bx l)):=by rw[g1 x BY,hx]
 obtain⟨info,d,e1,e2,e3,e4,e5,e6⟩:=Am (hT _ _ hi);obtain⟨info',d',e1',e2',e3',e4',e5',e6'⟩:=Am (hT _ _ hj);obtain⟨info'',d'',e1'',e2'',e3'',e4'',e5'',e6''⟩:=Am (hT _ _ hv);have hd:=Cc (P:=P) (d:=d) (e3▸hik);subst hd;have hd:=KY (P:=P) (d:=d') (e3'▸hjk);subst hd;have hd:=II (P:=P) (d:=d'') (e3''▸hk);subst hd;have hvx:=Aw hs hx';generalize hva:a.eval x=va at hvx;refine⟨_,.str _ _,?_⟩;simp only[execOp,ho,hva,qQ9];have key:(Go.convert t u va).run P w=.ok (.string ⟨l.toArray⟩) w:=by
  rcases hvx.lst_inv with⟨hl,ad,cap,rfl,h1,h2,h3,h4⟩|⟨hne,b,off,cap,sz,c,vals,rfl,hb,hsz',hv',hr,hc1,hex,hcap,hmax⟩
  . have hl0:l=[]:=by simpa[Bx]using hl
    subst hl0
    cases ad with
    |none=>simp[Go.convert,As e2,As e2',As e2'',Conv.bytesToString,qX1];rfl
    |some ad=>
     rw[run_convert_bytes_string w t u v (some ad) 0 cap e2 e2'' e2'];rw[run_bytesToString w ad 0 cap [] (by simpa using run_loadCells (P:=P) (w:=w) ad 0 (fun _=>undef) (fun j hj=>by omega))];rfl
  . rw[run_convert_bytes_string w t u v (some ⟨b,off,none⟩) (Bx l).length cap e2 e2'' e2'];obtain⟨TT,fr,hbw⟩:=hs.heap.know b c hb;have hlen:(Bx l).length=l.length:=by simp[Bx]
    rw[run_bytesToString w _ _ cap (l.map (fun b:UInt8=>((b.toNat:Nat):Int))) ?_,lH];have hld:=run_loadCells_list (P:=P) (w:=w) ⟨b,off,none⟩ (l.map (fun b:UInt8=>Value.int .u8 b.toNat)) (fun j y hj=>by
     rw[q54]at hj
     cases hlj:l[j]? with
     |none=>rw[hlj]at hj;cases hj
     |some n=>
      rw[hlj]at hj
      cases hj
      have hbc:(Bx l)[j]?=some [AV.int .u8 n.toNat]:=by simp[Bx,hlj]
      have hsz:sz=1:=(hsz' j _ hbc).symm;subst hsz;have q1:=hv' j _ 0 _ hbc rfl;have q2:=(hr j _ 0 _ hbc rfl).int_inv;rw[Hq,KQ hbw];rw[q2,Nat.mul_one,qX5]at q1;exact q1)
    rw[hlen];simpa[List.map_map,Function.comp_def]using hld
 simp only[key,q57,qX1]
theorem lx(hT:Dz P T){y':Operand}(ho:o.op=.slice t x none (some y) (some y'))(hx:At e x=some (.lst ex es))(hy:At e y=some (.int k (es.length:Int)))(hy':At e y'=some (.int k' (es.length:Int)))(ht:T t=some i)(hk:i.k=.slice u)(hj:T u=some j):
 QLoc P o e h [] (.lst true es):=by
 intro H ι a w s hs g1 g2;have hx':At s.env x=some (.lst ex es):=by rw[g1 x BY,hx]
 have hy1:At s.env y=some (.int k (es.length:Int)):=by rw[g1 y BY,hy]
 have hy2:At s.env y'=some (.int k' (es.length:Int)):=by rw[g1 y' BY,hy']
 obtain⟨info,d,e1,e2,e3,e4,e5,e6⟩:=Am (hT _ _ ht);obtain⟨info',d',e1',e2',e3',e4',e5',e6'⟩:=Am (hT _ _ hj);have hd:=Cc (P:=P) (d:=d) (e3▸hk);subst hd;have hvx:=Aw hs hx';have hv1:=(Aw hs hy1).int_inv;have hv2:=(Aw hs hy2).int_inv;generalize hva:a.eval x=va at hvx;have hrun:∀(ad:Option Addr) (cap:Nat),es.length<=cap->va=.slice ad es.length cap->(execOp a.eval o).run P w=.ok (.value (.slice (if es.length=0 then ad else ad.map (·.add (0*j.size))) (es.length-0) (es.length-0))) w:=fun ad cap hcap hv=>by
  simp only[execOp,ho,hva,hv,hv1,hv2,Instr.sliceAt,Instr.slice,Option.map_none,q80,qQ9,As e2,q57,Is e1',e4',qX1];simp[Instr.sliceBounds,Instr.sliceBound,asIntOf,hcap]
 rcases hvx.lst_inv with⟨rfl,ad,cap,rfl,h1,h2,h3,h4⟩|⟨hne,b,off,cap,sz,c,vals,rfl,hb,hsz',hv,hr,hc1,hex,hcap,hmax⟩
 . refine⟨_,?_,hrun ad cap (qZ1 _) rfl⟩;simp only[q84,qZ8,Nat.sub_zero];exact .lst0 _ _ _ _ (fun _=>rfl) (qZ1 _) (fun _=>rfl) trivial
 . refine⟨_,?_,hrun _ cap hcap rfl⟩;have hl:es.length≠0:=fun h=>hne (q01 h)
   rw[qZ9 hl];have hadd:(some (⟨b,off,none⟩:Addr)).map (·.add (0*j.size))=some ⟨b,off,none⟩:=by simp[Addr.add]
   rw[hadd,Nat.sub_zero];exact .lst ι true es b off es.length sz c vals hne hb hsz' hv hr hc1 (fun _=>rfl) (qZ0 _) Ab
def UJ(f:Bool)(b:Nat)(es:List (List AV)):AV:=bif f then .lst true es else .ref b es.length 0 es.length
def Oz(f:Bool)(sz:Nat)(es:List (List AV)):AObj:=bif f then .free else .row true sz es
variable {f ex2 : Bool} {es2 : List (List AV)}
theorem Uk(hT:Dz P T)(b:Nat)
 (ho:o.op=.call {callee:=.builtin .append,args:= #[x,y],argTypes:= #[t,t']}) (hx:At e x=some (UJ f b es)) (hy:At e y=some (.lst ex2 es2)) (hi:T t=some i) (hk:i.k=.slice u) (hj:T u=some j) (hi':T t'=some i') (hk':i'.k=.slice u')
 (hb:h b=some (Oz f sz es)) (hsz:sz=j.size) (hz:j.zero.length=j.size) (hp:0<j.size)
 (hu:∀cs∈es,cs.length=sz) (hpu:∀cs∈es,cs.all AV.isPure1=true) (hu2:∀cs∈es2,cs.length=sz) (hpure:∀cs∈es2,cs.all AV.isPure1=true)
 (hby:(es.length+es2.length)*j.bytes<=140737488355328) (hml:es.length+es2.length<=maxLen):
 OLoc P o e h [b] [(b,Oz (f&&es2.isEmpty) sz (es++es2))] (some (UJ (f&&es2.isEmpty) b (es++es2))):=by
 cases f with
 |false=>
  have:=E4 hT ho hx hy hi hk hj hi' hk' hb rfl hsz hz hp (.lst ex2 es2) hu2 (fun _=>hpure) (m:=es2.length) rfl hby hml;simpa[UJ,Oz]using this
 |true=>
  simp only[UJ,Oz,qZ7]at hx hb
  cases hes2:es2 with
  |nil=>
   subst hes2;simp only[List.isEmpty_nil,Bool.and_self,q91,Oz,UJ,qZ7];intro H ι a w s Q hs g1 g2;have hx':At s.env x=some (.lst true es):=by rw[g1 x Hr,hx]
   have hy':At s.env y=some (.lst ex2 []):=by rw[g1 y Hr,hy]
   have hb':s.h b=some .free:=by rw[g2 b Aq,hb]
   obtain⟨info,d,e1,e2,e3,e4,e5,e6⟩:=Am (hT _ _ hi);obtain⟨infou,du,f1,f2,f3,f4,f5,f6⟩:=Am (hT _ _ hj);obtain⟨info',d',e1',e2',e3',e4',e5',e6'⟩:=Am (hT _ _ hi');have hd:=Cc (P:=P) (d:=d) (e3▸hk);subst hd;have hd':=Cc (P:=P) (d:=d') (e3'▸hk');subst hd';have hvx:=Aw hs hx';have hvy:=Aw hs hy';generalize hva:a.eval x=va at hvx;generalize hvb:a.eval y=vb at hvy;obtain⟨news,hsrcw,hnews⟩:=QJ hs.heap (SrcOf.lst ex2 []) hvy e2' hp (by intro cs h;cases h) w rfl;rw[<-f4]at hsrcw;have hnn:news=[]:=q01 (by rw[hsrcw.newsLen];simp);subst hnn;have hsame:AQ s.h [(b,.free)]=s.h:=by
    funext c;exact rL
   have hexec:∀(v:Value) (w':World),(Builtin.append_ #[t,t'] o.type #[va,vb]).run P w=.ok v w'->(execOp a.eval o).run P w=.ok (.value v) w':=fun v w' hrun=>by
    exact iM
   have hrun:(Builtin.append_ #[t,t'] o.type #[va,vb]).run P w=.ok va w:=by
    rcases hvx.lst_inv with⟨rfl,ad,cap,rfl,h1,h2,h3,h4⟩|⟨hne,b0,off,cap,sz0,c,vals,rfl,hb0,hsz',hv,hr,hc1,hex,hcap,hmax⟩
    . have:=h1 rfl;subst this;exact Kq t t' o.type u infou e2 f1 ad vb hsrcw
    . have hsrc0:Src P infou.size t' vb 0 [] w:=hsrcw;have h1:=hsrc0.len;have h2:=hsrc0.cells;rcases hsrcw.kind with⟨e',hk⟩|hk<;>simp[Builtin.append_,run_underlying e2,run_underlying hk,sizeOf,typeInfo,f1,h1,h2,hcap,storeCells]
   unfold Oper.wp;rw[hexec _ _ hrun,hsame];exact⟨va,H,ι,rfl,(fun x ex=>by have:=q86 ex;subst this;exact hvx),hs.heap,qK3 _ _ _ _⟩
  |cons y0 r0=>
   rw[<-hes2];have hpos:0<es2.length:=by rw[hes2];simp
   have hie:es2.isEmpty=false:=by rw[hes2];rfl
   simp only[hie,q97,Oz,UJ,qZ3];subst hsz;refine F5 hb Aq hp fun H ι a w s hs g1 g2=>?_
   have hx':At s.env x=some (.lst true es):=by rw[g1 x Hr,hx]
   have hy':At s.env y=some (.lst ex2 es2):=by rw[g1 y Hr,hy]
   obtain⟨info,d,e1,e2,e3,e4,e5,e6⟩:=Am (hT _ _ hi);obtain⟨infou,du,f1,f2,f3,f4,f5,f6⟩:=Am (hT _ _ hj);obtain⟨info',d',e1',e2',e3',e4',e5',e6'⟩:=Am (hT _ _ hi');have hd:=Cc (P:=P) (d:=d) (e3▸hk);subst hd;have hd':=Cc (P:=P) (d:=d') (e3'▸hk');subst hd';obtain⟨z,hz1,hz2⟩:=Fb f6 hz hp;have hzl:z.cells.size=j.size:=by rw[<-hz];simpa using(Fq (H:=H) (ι:=Bk) hz2).1.symm
   have hvx:=Aw hs hx';have hvy:=Aw hs hy';generalize hva:a.eval x=va at hvx;generalize hvb:a.eval y=vb at hvy;have hexec:∀(v:Value) (w':World),(Builtin.append_ #[t,t'] o.type #[va,vb]).run P w=.ok v w'->(execOp a.eval o).run P w=.ok (.value v) w':=fun v w' hrun=>by
    exact iM
   obtain⟨news,hsrcw,hnews⟩:=QJ hs.heap (SrcOf.lst ex2 es2) hvy e2' hp hu2 w rfl;rw[<-f4]at hsrcw;have hnl:news.length=es2.length*j.size:=by rw[hsrcw.newsLen,f4]
   have h63:((es.length+es2.length:Nat):Int)<=9223372036854775807:=by
    have:=hml;simp only[maxLen]at this;omega
   -- what stands there already
   obtain⟨base,olds,hv,hold,hol,holdr⟩:∃(base:Option Addr) (olds:List Value),va=.slice base es.length es.length/\(Builtin.firstCells infou.size es.length (.slice base es.length es.length)).run P w.drew=.ok olds.toArray w.drew/\olds.length=es.length*j.size/\
    (∀(i:Nat) (cs:List AV) (k:Nat) (x:AV),es[i]?=some cs->cs[k]?=some x->∃v,olds[i*j.size+k]?=some v/\Rel H Bk x v/\x.cell1=true):=by
    rcases hvx.lst_inv with⟨rfl,ad,cap,rfl,h1,h2,h3,h4⟩|⟨hne,b0,off,cap,sz0,c,vals,rfl,hb0,hsz',hv,hr,hc1,hex,hcap,hmax⟩
    . have:=h1 rfl;subst this;refine⟨ad,[],rfl,?_,by simp,fun i cs k x h1=>by simp at h1⟩;exact iR
    . have hcl:=hex rfl;subst hcl;obtain⟨TT,fr,hbw⟩:=hs.heap.know b0 c hb0;have hss:sz0=j.size:=by
       exact jb
      subst hss;have hget:∀k,k<es.length*j.size->∃v,c[off+k]?=some v:=fun k hk=>by
       have hi:k/j.size<es.length:=Nat.div_lt_of_lt_mul (by rw[Nat.mul_comm];exact hk);have hm:k%j.size<j.size:=Nat.mod_lt _ hp;have hjj:k/j.size*j.size+k%j.size=k:=by rw[Nat.mul_comm];exact Nat.div_add_mod k j.size
       have h1:es[k/j.size]?=some es[k/j.size]:=q13 hi;have h2:(es[k/j.size])[k%j.size]?=some ((es[k/j.size])[k%j.size]'(by rw[hsz' _ _ h1];exact hm)):=q13 _;have:=hv _ _ _ _ h1 h2;rw[qQ3,hjj]at this;exact⟨_,this⟩
      have hfit:off+es.length*j.size<=c.size:=by
       rcases Nat.eq_zero_or_pos (es.length*j.size)with h0|h0
       . have:=q43.2 hne;have:=Nat.mul_pos this hp;omega
       . obtain⟨v,hv⟩:=hget (es.length*j.size-1) Ab;have:=(q03.1 hv).1;omega
      have hg:∀k,k<es.length*j.size->((c.toList.drop off).take (es.length*j.size))[k]?=c[off+k]?:=fun k hk=>by
       rw[q14 hk,q49,q29]
      have hl:((c.toList.drop off).take (es.length*j.size)).length=es.length*j.size:=by simp;omega
      refine⟨_,(c.toList.drop off).take (es.length*j.size),rfl,?_,hl,fun i cs k x h1 h2=>?_⟩
      . rw[f4];refine run_firstCells_some (P:=P) w.drew j.size es.length ⟨b0,off,none⟩ es.length es.length _ hl (fun k v hk=>?_);have hkl:k<es.length*j.size:=by
         have:=(q05.1 hk).1;omega
        rw[hg k hkl]at hk;rw[Hq,World.cell?_drew,KQ hbw];exact hk
      . have hi:i<es.length:=(q05.1 h1).1;have hkk:k<j.size:=by rw[<-hsz' i cs h1];exact(q05.1 h2).1
        have h3:=hv i cs k x h1 h2;exact⟨_,by rw[hg _ (Du hi hkk),<-qQ3];exact h3,hr i cs k x h1 h2,hc1 i cs k x h1 h2⟩
   have hfit:Builtin.nextslicecap (es.length+es2.length) es.length*infou.bytes<=281474976710656:=growslice_fits Ab (by rw[f5];exact hby);have hrun:=run_append_grow_src (P:=P) w t t' o.type u infou z e2 f1 hz1 base es.length es.length olds hold vb es2.length news hsrcw Ab h63 hfit;have hge:=grownCap_ge w (es.length+es2.length) es.length u;have hcm:grownCap w (es.length+es2.length) es.length u<=maxLen:=grownCap_le_maxLen w _ es.length u hml;generalize hcc:grownCap w (es.length+es2.length) es.length u=nc at*;generalize hC:(olds++news).toArray++Builtin.zeroCells z.cells (nc-(es.length+es2.length))=C at*;have hCs:C.size=nc*j.size:=by
    exact sv
   have hCg:∀k,k<olds.length+news.length->C[k]?=(olds++news)[k]?:=fun k hk=>by
    exact iS
   have hnewsp:∀(i:Nat) (cs:List AV) (k:Nat) (y:AV),es2[i]?=some cs->cs[k]?=some y->∃v,news[i*j.size+k]?=some v/\Rel H Bk y v/\y.cell1=true:=fun i cs k y h1 h2=>by
    obtain⟨v,k1,k2,k3⟩:=hnews i cs k y h1 h2;exact⟨v,k1,EJ (q67.1 (hpure cs (q33 h1)) y (q33 h2)) k2,k3⟩
   refine⟨_,C,u,w.drew,rfl,rfl,rfl,?_,Hh hol hnl hu2 (fun i cs h=>hu cs (q33 h)) holdr hnewsp hCg,hexec _ _ (hv▸hrun),?_⟩
   . rw[q48,hCs];exact q34 _ hge
   . have:=Rel.refL (H:=H) (ES ι b ⟨w.heap.size,j.size,(es++es2).length,C.size⟩) b (es++es2).length 0 (es++es2).length nc _ (BH _ _ _) rfl Ab (by rw[q48];exact hge) (by simp[hCs]) hcm;simpa using this
theorem Ghost.trans{s s' s'':Ar}(g1:Ghost s s')(g2:Ghost s' s''):Ghost s s'':=fun H ι a w hs=>by
 obtain⟨H1,ι1,h1,s1⟩:=g1 H ι a w hs;obtain⟨H2,ι2,h2,s2⟩:=g2 H1 ι1 a w h1;exact⟨H2,ι2,h2,Step.trans hs.heap s1 h1.heap s2⟩
theorem Ghost.weakSlot(t:Nat){x y:AV}(ht:e t=some x)(hxy:∀H ι v,Rel H ι x v->Rel H ι y v):Ghost ⟨n,e,h⟩ ⟨n,Aa e t y,h⟩:=fun H ι a w hs=>
 ⟨H,ι,⟨hs.n,hs.d,fun u z hz=>by
  by_cases hu:u=t
  . subst hu;simp only[DG,q53]at hz;subst hz;obtain⟨v,h1,h2⟩:=hs.env u _ ht;exact⟨v,h1,hxy _ _ _ h2⟩
  . simp only[FK _ _ hu]at hz;exact hs.env u z hz,hs.heap⟩,qK3 _ _ _ _⟩
theorem Ur(h:Rel H ι .nil v):Rel H ι (.lst false []) v:=by
 rw[h.nil_inv];exact .lst0 _ _ _ _ GZ (qZ1 _) (fun _=>rfl) trivial
variable {es' : List (List AV)}
theorem L0(b:Nat)(hb:h b=some (.row true sz es))(hl:es'.length=es.length)
 (hw:∀(i:Nat) (cs cs':List AV),es[i]?=some cs->es'[i]?=some cs'->cs'.length=cs.length/\∀(j:Nat) (x y:AV),cs[j]?=some x->cs'[j]?=some y->y.cell1=true/\∀H v,Rel H Bk x v->Rel H Bk y v):Ghost ⟨n,e,h⟩ ⟨n,e,Af h b (.row true sz es')⟩:=fun H ι a w hs=>by
 obtain⟨r,hr,⟨r1,r2,r3,r4,r5,r6⟩,r7⟩:=hs.heap.obj b _ hb rfl;have hlput:ES ι b r=ι:=by
  funext c
  by_cases hc:c=b
  . subst hc;rw[BH,hr]
  . rw[Et _ _ hc]
 have old:∀(i:Nat) (cs':List AV),es'[i]?=some cs'->∃cs,es[i]?=some cs:=fun i cs' h=>by
  have:=(q05.1 h).1;exact⟨_,q13 Ab⟩
 have hlen:∀(i:Nat) (cs':List AV),es'[i]?=some cs'->cs'.length=sz:=fun i cs' h=>by
  obtain⟨cs,hc⟩:=old i cs' h;rw[(hw i cs cs' hc h).1,r5 i cs hc]
 have:=hs.heap.upd (w':=w) (o0:=.row true sz es) (o':=.row true sz es') (r':=r) hb rfl (.inr ⟨r,hr,rfl,.inl rfl⟩) (fun hs'=>.inr ⟨r,hr,rfl,hs',rfl⟩) (fun _ _ _=>rfl) (qZ0 _) rfl rfl
  ⟨r1,r2,by rw[hl];exact r3,by rw[hl];exact r4,hlen,fun hsol=>by
   obtain⟨c,TT,w1,w2,w3⟩:=r6 hsol;exact⟨c,TT,w1,w2,hlen,fun k ds q z hk hq=>by
    obtain⟨cs,hc⟩:=old k ds hk;obtain⟨e1,e2⟩:=hw k cs ds hc hk;have hq':q<cs.length:=by rw[<-e1];exact(q05.1 hq).1
    have hx:cs[q]?=some cs[q]:=q13 hq';obtain⟨v,f1,f2,f3⟩:=w3.2 k cs q _ hc hx;obtain⟨g1,g2⟩:=e2 q _ z hx hq;exact⟨v,f1,g2 _ _ f2,g1⟩⟩⟩
 exact iU
variable {k : Nat}
theorem Bh(hh:HSub (A0 k) h)(hb:b<k):HSub (A0 k) (hrm h b):=fun c x hx=>by
 have hne:c≠b:=fun e=>by
  subst e;have h1:Nat.blt c k=true:=by rw[qZ6];exact hb
  simp only[A0,h1,qZ7]at hx
  cases hx
 rw[Hm _ hne];exact hh c x hx
theorem Ghost.endJ(t b:Nat)(ht:e t=some (UJ f b es))(hb:h b=some (Oz f sz es)):Ghost ⟨n,e,h⟩ ⟨n,Aa e t (.lst false es),hrm h b⟩:=by
 cases f with
 |false=>
  have:=Ghost.freeze (n:=n) t b ht hb rfl;rwa[q95,q71]at this
 |true=>
  refine(Ghost.weakSlot t ht (fun H ι v h=>Q1 h)).trans (.of_sub ⟨rfl,fun _ _ h=>h,fun c x hx=>?_⟩)
  by_cases hc:c=b
  . subst hc;have:hrm h c c=some x:=hx;rw[Ib]at this;cases this
  . have:hrm h b c=some x:=hx;rwa[Hm _ hc]at this
def Az(K:IntKind)(l:List Int):List AV:=l.map fun n=>.int K n
def Fp(K:IntKind)(l:List Int):Array Value:=(l.map fun n=>Value.int K n).toArray
variable {l : List Int} {K : IntKind}
theorem gA(hl:(Az K l).length=us.size)(h:∀(j:Nat) (x:AV) (v:Value),(Az K l)[j]?=some x->us[j]?=some v->Rel H ι x v):us=Fp K l:=by
 apply Array.ext
 . simpa[Az,Fp]using hl.symm
 . intro j h1 h2;have hj:j<l.length:=by simpa[Fp]using h2
   have:=h j (.int K l[j]) us[j] (by simp[Az,hj]) (q12 h1);rw[this.int_inv];simp[Fp]
theorem Ko(hu:P.underlying t=some (.int K)){j:Nat}{n:Int}(h:l[j]?=some n):(part t (Fp K l) j).run P w=.ok (.int K n) w:=
 N4 hu rfl (by simp[Fp,h])
theorem QU{w:World}{t:TypeId}{K:IntKind}(hu:P.underlying t=some (.int K))(d:Nat)(l1 l2:List Int):∀(m k:Nat),l1.length=k+m->l2.length=k+m->
 (Op.eqItems (d+1) t 1 (Fp K l1) (Fp K l2) (List.range' k m)).run P w=.ok (decide (l1.drop k=l2.drop k)) w
 |0,k,h1,h2=>by
  rw[List.drop_of_length_le Ab,List.drop_of_length_le Ab];simp[Op.eqItems]
 |m+1,k,h1,h2=>by
  have g1:k<l1.length:=by omega
  have g2:k<l2.length:=by omega
  have ih:=QU (w:=w) hu d l1 l2 m (k+1) Ab Ab;rw[List.range'_succ];simp only[Op.eqItems,Nat.mul_one,qQ9,Ko hu (q13 g1),Ko hu (q13 g2),q57,run_equalIn_int w d t _ _ _ _ hu];have hd:(l1.drop k=l2.drop k)↔(l1[k]=l2[k]/\l1.drop (k+1)=l2.drop (k+1)):=by
   rw[q07 g1,q07 g2,q88]
  by_cases he:l1[k]=l2[k]
  . simp only[he,qZ8,q57];simp only[hd,he,true_and];simp[ih]
  . simp[hd,he]
variable {l1 l2 : List Int}
theorem LS{e:TypeId}(hu:P.underlying t=some (.array n e))(he:P.underlying e=some (.int K))(hc:P.cellsOf e=1)(d:Nat)(h1:l1.length=n)(h2:l2.length=n):
 (Op.equalIn (d+2) t (.agg (Fp K l1)) (.agg (Fp K l2))).run P w=.ok (decide (l1=l2)) w:=by
 obtain⟨i,hi⟩:=info_of_underlying he;rw[run_equalIn_array w (d+1) _ _ hu hi,hc,List.range_eq_range'];have:=QU (w:=w) he d l1 l2 n 0 Ab Ab;simpa using this
variable {kt : TypeId}
theorem S5(hk:P.underlying kt=some (.int K))(em:Bool)(n:Nat)(z:Int):(Instr.checkKey em (n+1) kt (.int K z)).run P w=.ok () w:=by
 rw[Instr.checkKey];simp[As hk]
theorem GV{e:TypeId}(hu:P.underlying t=some (.array n e))(he:P.underlying e=some (.int K))(hc:P.cellsOf e=1)(em:Bool)(h:l.length=n):(Instr.checkKey em 10000 t (.agg (Fp K l))).run P w=.ok () w:=by
 obtain⟨i,hi⟩:=info_of_underlying he;rw[Instr.checkKey];simp only[qQ9,As hu,q57];simp only[Std.Legacy.Range.forIn_eq_forIn_range',Std.Legacy.Range.size,Nat.sub_zero,Nat.add_one_sub_one,Nat.div_one];have key:∀(m k:Nat),l.length=k+m->((forIn (List.range' k m) PUnit.unit fun i r=>do let a<-sizeOf e;let b<-part e (Fp K l) (i*a);Instr.checkKey em 9999 e b;pure (ForInStep.yield PUnit.unit)):Sem PUnit).run P w=.ok PUnit.unit w:=by
  intro m
  induction m with
  |zero=>intro k hk;simp
  |succ m ih=>
   intro k hk;have hkl:k<l.length:=by omega
   have ih':=ih (k+1) Ab;rw[List.range'_succ];simp only[List.forIn_cons,qQ9,run_sizeOf w hi,hc,Nat.mul_one,q57,Ko he (q13 hkl),S5 he em 9998];simpa using ih'
 have h0:=key n 0 Ab;simp at h0|-;rw[h0];rfl
abbrev KU:=List (List Int×AV)
def C5(K:IntKind)(m:KU):List (AV×AV):=m.map fun p=>(.agg (Az K p.1),p.2)
def IC(z:List Int):KU->Option (Nat×AV)
  | []=>none
  |(k,v)::r=>bif z==k then some (0,v)else(IC z r).map fun p=>(p.1+1,p.2)
def YW(z:List Int)(m:KU):Option AV:=(IC z m).map (·.2)
def PN(z:List Int)(v:AV):KU->KU
  | []=>[(z,v)]
  |(k,u)::r=>bif z==k then(k,v)::r else(k,u)::PN z v r
inductive EntRelA(H:AJ)(K:IntKind):KU->List MapEntry->Prop
  |nil:EntRelA H K [] []
  |cons (z:List Int) (v:AV) (m:KU) (e:MapEntry) (es:List MapEntry) (hk:e.key=.agg (Fp K z)) (hv:Rel H Bk v e.val) (h:EntRelA H K m es):EntRelA H K ((z,v)::m) (e::es)
theorem qv(H:AJ)(K:IntKind)(z:List Int):Rel H Bk (.agg (Az K z)) (.agg (Fp K z)):=
 .agg _ _ _ (by simp[Az,Fp]) fun j x u h1 h2=>by
  simp only[Az,q54,q22]at h1;obtain⟨n,hn,rfl⟩:=h1;have:u=.int K n:=by simpa[Fp,hn]using h2.symm
  subst this;exact .int _ _ _
variable {z : List Int}
theorem Rel.ints(h:Rel H ι (.agg (Az K z)) v):v=.agg (Fp K z):=by
 obtain⟨us,rfl,h1,h2⟩:=h.agg_inv;rw[gA h1 h2]
theorem Si{H:AJ}{K:IntKind}:∀{m:KU} {es:List MapEntry},(C5 K m).length=es.length->(∀(j:Nat) (k v:AV),(C5 K m)[j]?=some (k,v)->∃e,es[j]?=some e/\Rel H Bk k e.key/\Rel H Bk v e.val)->EntRelA H K m es
 | [],es,h1,_=>by
  have:es=[]:=q18.1 (by simpa[C5]using h1.symm);subst this;exact .nil
 |(z,v)::m,[],h1,_=>by simp[C5]at h1
 |(z,v)::m,e::es,h1,h2=>by
  obtain⟨e',g1,g2,g3⟩:=h2 0 (.agg (Az K z)) v rfl;simp at g1;subst g1;exact .cons z v m e es g2.ints g3 (Si (by simpa[C5]using h1) fun j k u hj=>by
   obtain⟨e',k1,k2⟩:=h2 (j+1) k u (by simpa[C5]using hj);exact⟨e',by simpa using k1,k2⟩)
variable {m : KU} {es : List MapEntry}
theorem EntRelA.out(h:EntRelA H K m es):(C5 K m).length=es.length/\∀(j:Nat) (k v:AV),(C5 K m)[j]?=some (k,v)->∃e,es[j]?=some e/\Rel H Bk k e.key/\Rel H Bk v e.val:=by
 induction h with
 |nil=>exact⟨rfl,fun j k v h=>by simp[C5]at h⟩
 |cons z v m e es hk hv h ih=>
  refine⟨by simpa[C5]using ih.1,fun j k u hj=>?_⟩
  cases j with
  |zero=>
   simp[C5]at hj;obtain⟨rfl,rfl⟩:=hj;exact⟨e,rfl,by rw[hk];exact qv _ _ _,hv⟩
  |succ j=>
   obtain⟨e',k1,k2⟩:=ih.2 j k u (by simpa[C5]using hj);exact⟨e',by simpa using k1,k2⟩
theorem mapCellsA_iff{es:Array MapEntry}:RJ H (C5 K m) es↔EntRelA H K m es.toList:=by
 constructor
 . rintro⟨h1,h2⟩
   exact Si JX fun j k v hj=>by
    obtain⟨e,g1,g2⟩:=h2 j k v hj;exact⟨e,by simpa using g1,g2⟩
 . intro h;exact sw
variable {e0 : TypeId}
theorem EntRelA.find(hu:P.underlying t=some (.array n e0))(he:P.underlying e0=some (.int K))(hc:P.cellsOf e0=1)
 (h:EntRelA H K m es) (hz:z.length=n) (hm:∀p∈m,p.1.length=n):∀i,∃r,(Instr.findAsking t (.agg (Fp K z)) es i).run P w=.ok r w/\
 ((IC z m=none/\r=none)\/∃j v e,IC z m=some (j,v)/\r=some (i+j,e.val)/\es[j]?=some e/\e.key=.agg (Fp K z)/\Rel H Bk v e.val):=by
 induction h with
 |nil=>exact fun i=>⟨none,by simp[Instr.findAsking],.inl ⟨rfl,rfl⟩⟩
 |cons k v m e es hk hv h ih=>
  intro i;obtain⟨r,r1,r2⟩:=ih (fun p hp=>hm p (by simp[hp])) (i+1);have heq:(Op.equal t (.agg (Fp K z)) e.key).run P w=.ok (decide (z=k)) w:=by
   rw[hk];exact LS hu he hc 9998 hz (hm (k,v) Aq)
  by_cases hzk:z=k
  . subst hzk;refine⟨some (i,e.val),by simp[Instr.findAsking,heq],.inr ⟨0,v,e,by simp[IC],rfl,rfl,hk,hv⟩⟩
  . have hb:(z==k)=false:=by simpa using hzk
    refine⟨r,by simp[Instr.findAsking,heq,hzk,r1],?_⟩;rcases r2 with⟨g1,g2⟩|⟨j,u,e',g1,g2,g3,g4⟩
    . exact .inl ⟨by simp[IC,hb,g1],g2⟩
    . exact .inr ⟨j+1,u,e',by simp[IC,hb,g1],by rw[g2];congr 2;omega,by simpa using g3,g4⟩
theorem EntRelA.set_new(h:EntRelA H K m es){v:AV}{val:Value}(hv:Rel H Bk v val)(clk:Nat)(hn:IC z m=none):EntRelA H K (PN z v m) (es++[{key:=.agg (Fp K z),val:=val,born:=clk}]):=by
 induction h with
 |nil=>exact .cons z v [] _ [] rfl hv .nil
 |cons k u m e es hk hu h ih=>
  unfold IC at hn
  cases hz:z==k with
  |true=>rw[hz]at hn;cases hn
  |false=>
   rw[hz]at hn;have:IC z m=none:=by simpa using hn
   unfold PN;rw[hz];exact .cons k u _ e _ hk hu (ih this)
theorem EntRelA.set_old(h:EntRelA H K m es){v:AV}{val:Value}(hv:Rel H Bk v val):∀{j:Nat} {v0:AV},IC z m=some (j,v0)->EntRelA H K (PN z v m) (es.modify j fun e=>{e with key:=.agg (Fp K z),val:=val}):=by
 induction h with
 |nil=>intro j v0 hn;cases hn
 |cons k u m e es hk hu h ih=>
  intro j v0 hn;unfold IC at hn
  cases hz:z==k with
  |true=>
   rw[hz]at hn;simp at hn;obtain⟨rfl,rfl⟩:=hn;unfold PN;exact rv
  |false=>
   rw[hz]at hn;simp only[qZ3,q22]at hn;obtain⟨⟨j',v'⟩,g1,g2⟩:=hn;simp at g2;obtain⟨rfl,rfl⟩:=g2;unfold PN;rw[hz];exact .cons k u _ e _ hk hu (ih g1)
theorem Hz(hu:P.underlying t=some (.array n e0))(x:Value)(es:List MapEntry):(Instr.findKey t x es).run P w=(Instr.findAsking t x es).run P w:=
 run_findKey_eq w (by rw[hu]) x es
theorem VD(K:IntKind)(z:List Int):Instr.sameBits 10000 (.agg (Fp K z)) (.agg (Fp K z))=true:=by
 rw[Instr.sameBits];simp only[beq_self_eq_true,qQ5,q67]
 rintro⟨a,b⟩ hab
 have h1:∀(l:List Value) (a b:Value),(a,b)∈l.zip l->a=b/\a∈l:=by
  intro l
  induction l with
  |nil=>intro a b h;simp at h
  |cons x l ih=>
   intro a b h;simp only[List.zip_cons_cons,q99,q98]at h;rcases h with⟨rfl,rfl⟩|h
   . exact⟨rfl,by simp⟩
   . obtain⟨g1,g2⟩:=ih a b h;exact⟨g1,by simp[g2]⟩
 obtain⟨rfl,hm⟩:=h1 _ a b hab;simp only[Fp,qX3]at hm;obtain⟨n,_,rfl⟩:=hm;rw[Instr.sameBits]
 simp
theorem S4(z:List Int):(Instr.keyThatStays (.agg (Fp K z)) (.agg (Fp K z))).run P w=.ok (.agg (Fp K z)) w:=by
 unfold Instr.keyThatStays;rw[qK0 (VD K z)];rfl
variable {e0 : Nat}
theorem lC(hT:Dz P T)(neg:Bool)(ho:o.op=.binOp (bif neg then .neq else .eql) t x y t')(hx:At e x=some (.agg (Az K l1)))(hy:At e y=some (.agg (Az K l2)))(hp:P.eqGuardType P.depth t=false)(hi:T t=some i)(hk:i.k=.array n e0)
 (hj:T e0=some j) (hjk:j.k=.int K) (h1:l1.length=n) (h2:l2.length=n) (hc:P.cellsOf e0=1):QLoc P o e h [] (.bool (bif neg then !(decide (l1=l2))else decide (l1=l2))):=by
 intro H ι a w s hs g1 g2;have hx':At s.env x=some (.agg (Az K l1)):=by rw[g1 x BY,hx]
 have hy':At s.env y=some (.agg (Az K l2)):=by rw[g1 y BY,hy]
 have hvx:=(Aw hs hx').ints;have hvy:=(Aw hs hy').ints;obtain⟨info,d,e1,e2,e3,e4,e5,e6⟩:=Am (hT _ _ hi);obtain⟨info',d',e1',e2',e3',e4',e5',e6'⟩:=Am (hT _ _ hj);have hd:=Ki (P:=P) (d:=d) (e3▸hk);subst hd;have hd':=II (P:=P) (d:=d') (e3'▸hjk);subst hd';have hrun:(Op.equalIn 10000 t (.agg (Fp K l1)) (.agg (Fp K l2))).run P w=.ok (decide (l1=l2)) w:=LS e2 e2' hc 9998 h1 h2;refine⟨_,.bool _ _,?_⟩
 cases neg with
 |true=>
  simp only[qZ7]at ho|-;simp only[execOp,ho,hvx,hvy,qQ9,run_eqGuard_agg w .neq t x y _ _ hp,q57,run_neq_struct,hrun,qX1]
 |false=>
  simp only[qZ3]at ho|-;simp only[execOp,ho,hvx,hvy,qQ9,run_eqGuard_agg w .eql t x y _ _ hp,q57,run_eql_struct,hrun,qX1]
theorem Xy(hT:Dz P T){et:TypeId}{j0:AC}{zv:Value}{z0:AV}(ho:o.op=.lookup t x y true)(hx:At e x=some (.map b))(hy:At e y=some (.agg (Az K z)))(hb:h b=some (.map (C5 K m)))
 (hi:T t=some i) (hk:i.k=.map kt et) (hj:T kt=some j) (hjk:j.k=.array n e0) (hj0:T e0=some j0) (hjk0:j0.k=.int K) (hc:P.cellsOf e0=1) (hzl:z.length=n) (hm:∀p∈m,p.1.length=n) (hz:(P.info? et).bind (·.zero)=some zv) (hz0:OP zv=some z0):QLoc P o e h [b] (.tup [(YW z m).getD z0,.bool (YW z m).isSome]):=by
 intro H ι a w s hs h1 h2;have hx':At s.env x=some (.map b):=by rw[h1 x BY,hx]
 have hy':At s.env y=some (.agg (Az K z)):=by rw[h1 y BY,hy]
 have hb':s.h b=some (.map (C5 K m)):=by rw[h2 b Aq,hb]
 obtain⟨info,d,e1,e2,e3,e4,e5,e6⟩:=Am (hT _ _ hi);obtain⟨info',d',e1',e2',e3',e4',e5',e6'⟩:=Am (hT _ _ hj);obtain⟨info0,d0,e10,e20,e30,e40,e50,e60⟩:=Am (hT _ _ hj0);have hd:=Kh (P:=P) (d:=d) (e3▸hk);subst hd;have hd':=Ki (P:=P) (d:=d') (e3'▸hjk);subst hd';have hd0:=II (P:=P) (d:=d0) (e30▸hjk0);subst hd0;have hvy:=(Aw hs hy').ints;obtain⟨r,hr,hr0,hvx⟩:=(Aw hs hx').map_inv;obtain⟨r',hl,⟨r1,r2,es,clk,r3,r4,r6⟩,r5⟩:=hs.heap.obj b _ hb' rfl;rw[hr]at hl;cases hl;obtain⟨rr,f1,f2⟩:=(mapCellsA_iff.1 r4).find (w:=w) e2' e20 hc hzl hm 0;have hzero:(zeroValue et).run P w=.ok zv w:=by
  exact sH
 rcases f2 with⟨g1,rfl⟩|⟨p,v,en,g1,rfl,g3,g4,g5⟩
 . refine⟨.tuple #[zv,.bool false],?_,?_⟩
   . simp only[YW,g1,Option.map_none,Option.getD_none,Option.isSome_none];exact td
   . simp[execOp,ho,Instr.lookup,hvx,hvy,As e2,q23 r3,GV e2' e20 hc _ hzl,Hz e2',f1,hzero]
 . refine⟨.tuple #[en.val,.bool true],?_,?_⟩
   . simp only[YW,g1,q80,q72,Option.isSome_some];exact th
   . simp[execOp,ho,Instr.lookup,hvx,hvy,As e2,q23 r3,GV e2' e20 hc _ hzl,Hz e2',f1]
theorem aB(K:IntKind)(b:Nat)(ho:o.op=.makeMap t none)(hb:h b=some .free):OLoc P o e h [b] [(b,.map (C5 K []))] (some (.map b)):=On K b ho hb
theorem RH(hs:Sim H ι s a w){m':KU}{r:Ent}{es es':Array MapEntry}{clk clk':Nat}(hb:s.h b=some (.map (C5 K m)))(hr:ι b=some r)(r1:r.sz=0)(r2:r.solid)
 (r3:w.heap[r.rb]?=some (.map es clk)) (hm:EntRelA H K m' es'.toList) (hbo:BornOk clk' (es'.toList.map (·.born))):
 HeapRel H ι (Af s.h b (.map (C5 K m'))) {w with heap:=w.heap.setIfInBounds r.rb (.map es' clk')}/\Step H ι s.h w H ι (Af s.h b (.map (C5 K m'))) {w with heap:=w.heap.setIfInBounds r.rb (.map es' clk')}:=by
 have hlt:r.rb<w.heap.size:=(q03.1 r3).1;have:=hs.heap.upd (o':=.map (C5 K m')) (r':=r) (w':={w with heap:=w.heap.setIfInBounds r.rb (.map es' clk')}) hb rfl (.inr ⟨r,hr,rfl,.inl rfl⟩) (fun _=>.inr ⟨r,hr,rfl,r2,rfl⟩)
  (fun rb _ hne=>by
   have:rb≠r.rb:=hne r hr rfl r2;simp[q00 (Ne.symm this)]) Aq rfl rfl
  ⟨r1,r2,es',clk',by simp[hlt],mapCellsA_iff.2 hm,hbo⟩
 rwa[show ES ι b r=ι from by
  funext c
  by_cases hc:c=b
  . subst hc;rw[BH,hr]
  . rw[Et _ _ hc]]at this
theorem V4(hT:Dz P T){et:TypeId}{u:Operand}{j0:AC}(ho:o.op=.mapUpdate t x y u)(hd:o.dst=none)(hx:At e x=some (.map b))(hy:At e y=some (.agg (Az K z)))(hu:At e u=some q)(hp:q.isPure=true)
 (hb:h b=some (.map (C5 K m))) (hi:T t=some i) (hk:i.k=.map kt et) (hj:T kt=some j) (hjk:j.k=.array n e0) (hj0:T e0=some j0) (hjk0:j0.k=.int K) (hc:P.cellsOf e0=1) (hzl:z.length=n) (hm:∀p∈m,p.1.length=n):OLoc P o e h [b] [(b,.map (C5 K (PN z q m)))] none:=by
 intro H ι a w s Q hs h1 h2;have hx':At s.env x=some (.map b):=by rw[h1 x BY,hx]
 have hy':At s.env y=some (.agg (Az K z)):=by rw[h1 y BY,hy]
 have hu':At s.env u=some q:=by rw[h1 u BY,hu]
 have hb':s.h b=some (.map (C5 K m)):=by rw[h2 b Aq,hb]
 obtain⟨info,d,e1,e2,e3,e4,e5,e6⟩:=Am (hT _ _ hi);obtain⟨info',d',e1',e2',e3',e4',e5',e6'⟩:=Am (hT _ _ hj);obtain⟨info0,d0,e10,e20,e30,e40,e50,e60⟩:=Am (hT _ _ hj0);have hd1:=Kh (P:=P) (d:=d) (e3▸hk);subst hd1;have hd':=Ki (P:=P) (d:=d') (e3'▸hjk);subst hd';have hd0:=II (P:=P) (d:=d0) (e30▸hjk0);subst hd0;have hvy:=(Aw hs hy').ints;obtain⟨r,hr,hr0,hvx⟩:=(Aw hs hx').map_inv;obtain⟨r',hl,⟨r1,r2,es,clk,r3,r4,r6⟩,r5⟩:=hs.heap.obj b _ hb' rfl;rw[hr]at hl;cases hl;have hrv:=I7 (ι':=Bk) hp (Aw hs hu');have hE:=mapCellsA_iff.1 r4;obtain⟨rr,f1,f2⟩:=hE.find (w:=w) e2' e20 hc hzl hm 0;unfold Oper.wp;rcases f2 with⟨g1,rfl⟩|⟨p,v,en,g1,rfl,g3,g4,g5⟩
 . have hrun:(execOp a.eval o).run P w=.ok .skip {w with heap:=w.heap.setIfInBounds r.rb (.map (es.push {key:=.agg (Fp K z),val:=a.eval u,born:=clk}) (clk+1))}:=by
    simp[execOp,ho,Instr.mapUpdate,hvx,hvy,As e2,q23 r3,GV e2' e20 hc _ hzl,Hz e2',f1,q24 _ r3]
   rw[hrun];obtain⟨u1,u2⟩:=RH hs (es':=es.push {key:=.agg (Fp K z),val:=a.eval u,born:=clk}) (clk':=clk+1) hb' hr r1 r2 r3 (m':=PN z q m) (by rw[Array.toList_push];exact hE.set_new hrv clk g1) (by rw[Array.toList_push,q77];exact r6.snoc);exact bR
 . have hrun:(execOp a.eval o).run P w=.ok .skip {w with heap:=w.heap.setIfInBounds r.rb (.map (es.modify p fun e=>{e with key:=.agg (Fp K z),val:=a.eval u}) clk)}:=by
    have g3':es[p]?=some en:=by simpa using g3
    simp[execOp,ho,Instr.mapUpdate,hvx,hvy,As e2,q23 r3,GV e2' e20 hc _ hzl,Hz e2',f1,q24 _ r3,g3',g4,S4]
   rw[hrun];obtain⟨u1,u2⟩:=RH hs (es':=es.modify p fun e=>{e with key:=.agg (Fp K z),val:=a.eval u}) (clk':=clk) hb' hr r1 r2 r3 (m':=PN z q m) (by rw[Array.toList_modify];exact hE.set_old hrv g1) (by rw[PG];exact r6);exact bR
def Bo(b:Nat)(es:List (List AV)):AV:=UJ es.isEmpty b es
def BU(sz:Nat)(es:List (List AV)):AObj:=Oz es.isEmpty sz es
def GB(b:Nat)(es:List (List AV)):AV:=bif es.isEmpty then .lst false []else .ref b es.length 0 es.length
def Il(es:List (List AV)):AObj:=bif es.isEmpty then .free else .row true 1 es
theorem PQ(l:List α)(x:α):(l++[x]).isEmpty=false:=by cases l<;>rfl
theorem JJ{l:List α}(h:k<l.length):l.isEmpty=false:=by cases l with|nil=>simp at h|cons=>rfl
theorem Km(b:Nat)(es:List (List AV))(x:List AV):Bo b (es++[x])=.ref b (es.length+1) 0 (es.length+1):=by
 simp[Bo,PQ,UJ]
variable {es : List (List AV)}
theorem QL(h:k<es.length):Bo b es=.ref b es.length 0 es.length:=by simp[Bo,JJ h,UJ]
theorem Kl(h:k<es.length):BU sz es=.row true sz es:=by simp[BU,JJ h,Oz]
theorem u7(h:k<es.length):GB b es=.ref b es.length 0 es.length:=by simp[GB,JJ h]
theorem Vt(h:k<es.length):Il es=.row true 1 es:=by simp[Il,JJ h]
theorem Vu(h:es'.length=es.length):GB b es'=GB b es:=by
 cases es with
 |nil=>
  have:es'=[]:=q01 h;rw[this]
 |cons x r=>
  cases es' with
  |nil=>simp at h
  |cons y q=>simp only[GB,List.isEmpty_cons,qZ3,h]
theorem gz(f:Bool)(b:Nat)(es:List (List AV)):(UJ f b es).cells=[UJ f b es]:=by cases f<;>rfl
theorem Cx(b:Nat)(es:List (List AV)):(Bo b es).cells=[Bo b es]:=gz _ _ _
theorem CL(b:Nat)(es:List (List AV)):(Bo b es).cell1=true:=by unfold Bo UJ;cases es.isEmpty<;>rfl
theorem KX(b:Nat)(es:List (List AV)):(GB b es).cells=[GB b es]:=by unfold GB;cases es.isEmpty<;>rfl
theorem TH(b:Nat)(es:List (List AV)):(GB b es).cell1=true:=by unfold GB;cases es.isEmpty<;>rfl
variable {k : Nat -> Bool}
theorem Cb(es:List (List AV))(h:k b=true):(Bo b es).avoid k=true:=by unfold Bo UJ;cases es.isEmpty<;>simp[AV.avoid,AV.flat,h]
theorem NT(es:List (List AV))(h:k b=true):(GB b es).avoid k=true:=by unfold GB;cases es.isEmpty<;>simp[AV.avoid,AV.flat,h]
theorem C7(sz:Nat)(es:List (List AV)):(BU sz es).avoid k=true:=by unfold BU Oz;cases es.isEmpty<;>rfl
theorem NS(es:List (List AV)):(Il es).avoid k=true:=by unfold Il;cases es.isEmpty<;>rfl
theorem vD(hT:Dz P T)(ho:o.op=.call {callee:=.builtin .len,args:= #[x],argTypes:= #[t]})(hx:At e x=some (Bo b es))(hi:T t=some i)(hk:i.k=.slice u):QLoc P o e h [] (.int .i64 (es.length:Int)):=by
 unfold Bo UJ at hx
 cases hf:es.isEmpty with
 |true=>rw[hf]at hx;exact ly hT ho hx hi (by rw[hk];rfl) rfl
 |false=>rw[hf]at hx;exact ly hT ho hx hi (by rw[hk];rfl) rfl
variable {k : IntKind}
theorem Bl(hT:Dz P T){n:Int}(ho:o.op=.indexAddr t x y:=by exact rfl)(hx:At e x=some (Bo b es):=by exact rfl)(hy:At e y=some (.int k n):=by exact rfl)
 (hi:T t=some i:=by exact rfl) (hk:i.k=.slice u:=by exact rfl) (hj:T u=some j:=by exact rfl) (hb:h b=some (BU sz es):=by exact rfl) (hsz:sz=j.size:=by exact rfl) (h0:0<=n) (hn:n<es.length):QLoc P o e h [b] (.ptr b es.length n.toNat 0):=by
 have hlt:n.toNat<es.length:=by omega
 rw[QL hlt]at hx;rw[Kl hlt]at hb;exact iX
theorem Ce(hT:Dz P T){n:Int}(ho:o.op=.indexAddr t x y)(hx:At e x=some (GB b es))(hy:At e y=some (.int k n))
 (hi:T t=some i) (hk:i.k=.slice u) (hj:T u=some j) (hb:h b=some (Il es)) (hsz:1=j.size) (h0:0<=n) (hn:n<es.length):QLoc P o e h [b] (.ptr b es.length n.toNat 0):=by
 have hlt:n.toNat<es.length:=by omega
 rw[u7 hlt]at hx;rw[Vt hlt]at hb;exact iX
variable {k : Nat}
theorem I8(hb:h b=some (BU sz es))(hi:es[k]?=some cs):PtsTo h (.ptr b es.length k 0) [b] cs:=by
 have hlt:k<es.length:=(q05.1 hi).1;rw[Kl hlt]at hb;exact .ptr b es.length k 0 true sz es cs hb rfl hi
theorem Nb(hb:h b=some (Il es))(hi:es[k]?=some cs):PtsTo h (.ptr b es.length k 0) [b] cs:=by
 have hlt:k<es.length:=(q05.1 hi).1;rw[Vt hlt]at hb;exact .ptr b es.length k 0 true 1 es cs hb rfl hi
variable {off : Nat}
theorem CS(hT:Dz P T){m:Nat}(ho:o.op=.store t x y)(hd:o.dst=none)(hx:At e x=some (.ptr b m k off))(hy:At e y=some q)(hi:T t=some i)(his:i.size=1)
 (hb:h b=some (.row p sz es)) (hm:m=es.length) (hk:es[k]?=some cs) (hq:q.cells=[q]) (hfit:off+1<=sz) (h1:q.cell1=true) (hp:p=true->q.isPure1=true):
 OLoc P o e h [b] [(b,.row p sz (es.set k (Er cs off [q])))] none:=by
 have:=AY hT ho hd hx hy hi hb hm hk (by rw[hq,his];rfl) (by rw[his];exact hfit) (by rw[hq];simp[h1]) (fun h=>by rw[hq];simp[hp h]);rwa[hq]at this
theorem Gk(hT:Dz P T)(ho:o.op=.store t x y)(hd:o.dst=none)(hx:At e x=some (.ptr b es.length k 0))(hy:At e y=some q)(hi:T t=some i)(his:i.size=1)
 (hb:h b=some (Il es)) (hk:k<es.length) (hc:∀cs∈es,cs.length=1) (hq:q.cells=[q]) (h1:q.cell1=true) (hp:q.isPure1=true):
 OLoc P o e h [b] [(b,Il (es.set k [q]))] none:=by
 rw[Vt hk]at hb;have hg:=q13 hk;have:=CS hT ho hd hx hy hi his hb rfl hg hq (qZ0 _) h1 (fun _=>hp);have hl:es[k].length=1:=hc _ (List.getElem_mem hk);have e1:Er es[k] 0 [q]=[q]:=by
  unfold Er;rw[List.drop_of_length_le (by simp[hl])];rfl
 rw[e1]at this;rwa[Vt (k:=k) (by rw[q83];exact hk)]
variable {x0 : List AV}
theorem CF(hT:Dz P T)
 (ho:o.op=.call {callee:=.builtin .append,args:= #[x,y],argTypes:= #[t,t']}) (hx:At e x=some (Bo b es)) (hy:At e y=some (.lst ex2 [x0])) (hi:T t=some i) (hk:i.k=.slice u) (hj:T u=some j) (hi':T t'=some i') (hk':i'.k=.slice u')
 (hb:h b=some (BU sz es)) (hsz:sz=j.size) (hz:j.zero.length=j.size) (hp:0<j.size)
 (hu:∀cs∈es,cs.length=sz) (hpu:∀cs∈es,cs.all AV.isPure1=true) (hu2:x0.length=sz) (hpure:x0.all AV.isPure1=true)
 (hby:(es.length+1)*j.bytes<=140737488355328) (hml:es.length+1<=maxLen):
 OLoc P o e h [b] [(b,BU sz (es++[x0]))] (some (Bo b (es++[x0]))):=by
 have:=Uk (f:=es.isEmpty) hT b ho hx hy hi hk hj hi' hk' hb hsz hz hp hu hpu (by simpa using hu2) (by simpa using hpure) hby hml;have e1:(es.isEmpty&&[x0].isEmpty)=(es++[x0]).isEmpty:=by rw[PQ];simp
 rw[e1]at this;exact this
theorem Ng(hT:Dz P T){k:IntKind}(b:Nat)(ho:o.op=.makeSlice t x y)(hx:At e x=some (.int k zi))(hy:At e y=some (.int k' zj))(hni:zi=(n:Int))(hnj:zj=(n:Int))(hi:T t=some i)(hk:i.k=.slice u)(hj:T u=some j)
 (hb:h b=some .free) (hz:j.zero.length=j.size) (hsz:j.size=1) (h1:j.zero.all AV.cell1=true) (hby:j.bytes*n<=281474976710656) (hm:n<=maxLen):
 OLoc P o e h [b] [(b,Il (List.replicate n j.zero))] (some (GB b (List.replicate n j.zero))):=by
 cases n with
 |zero=>
  intro H ι a w s Q hs g1 g2;have h0:=qb (h:=h) hT ho hx hy hni hnj hi hk hj hz Ab h1 H ι a w s Q hs g1 (fun b hb=>by simp at hb);have hb':s.h b=some .free:=by rw[g2 b Aq,hb]
  have hsame:AQ s.h [(b,Il (List.replicate 0 j.zero))]=s.h:=by
   funext c
   by_cases hc:c=b
   . subst hc;simp[AQ,AB,hb',Il]
   . simp[AQ,Bd _ _ hc]
  rw[hsame];exact h0
 |succ n=>
  have:=AK hT b true ho hx hy hni hnj hi hk hj hb hz Ab h1 (qZ0 _) hby hm;have e1:Il (List.replicate (n+1) j.zero)=.row true 1 (List.replicate (n+1) j.zero):=rfl;have e2:GB b (List.replicate (n+1) j.zero)=.ref b (n+1) 0 (n+1):=by
   simp[GB,List.replicate_succ]
  rw[e1,e2];rw[hsz]at this;exact this
theorem Ghost.weakRowF{n:Nat}{e:A3}{h:Aj}(b:Nat){sz:Nat}{es es':List (List AV)}(hb:h b=some (.row false sz es))(hl:es'.length=es.length)
 (hw:∀(i:Nat) (cs cs':List AV),es[i]?=some cs->es'[i]?=some cs'->cs'.length=cs.length/\∀(j:Nat) (x y:AV),cs[j]?=some x->cs'[j]?=some y->(x.cell1=true->y.cell1=true)/\∀H ι v,Rel H ι x v->Rel H ι y v):Ghost ⟨n,e,h⟩ ⟨n,e,Af h b (.row false sz es')⟩:=fun H ι a w hs=>by
 obtain⟨r,hr,⟨r1,r2,r3,r4,r5,r6⟩,r7⟩:=hs.heap.obj b _ hb rfl;have hlput:ES ι b r=ι:=by
  funext c
  by_cases hc:c=b
  . subst hc;rw[BH,hr]
  . rw[Et _ _ hc]
 have hget:∀(i:Nat) (cs':List AV),es'[i]?=some cs'->∃cs,es[i]?=some cs:=fun i cs' hi=>by
  have:i<es'.length:=(q05.1 hi).1;exact⟨es[i]'(Ab),q13 Ab⟩
 have:=hs.heap.upd (o':=.row false sz es') (r':=r) (w':=w) hb rfl (.inr ⟨r,hr,rfl,.inl rfl⟩) (fun hsol=>.inr ⟨r,hr,rfl,hsol,rfl⟩) (fun _ _ _=>rfl) (qZ0 _) rfl rfl
  ⟨r1,r2,by rw[hl];exact r3,by rw[hl];exact r4,fun i cs' hi=>by
   obtain⟨cs,hc⟩:=hget i cs' hi;rw[(hw i cs cs' hc hi).1];exact r5 i cs hc,fun hsol=>by
   obtain⟨c,T,c1,c2,c3,c4⟩:=r6 hsol;refine⟨c,T,c1,c2,fun i cs' hi=>?_,?_⟩
   . obtain⟨cs,hc⟩:=hget i cs' hi;rw[(hw i cs cs' hc hi).1];exact r5 i cs hc
   rw[hlput];intro i cs' j y hi hj;obtain⟨cs,hc⟩:=hget i cs' hi;obtain⟨w1,w2⟩:=hw i cs cs' hc hi;have hjlt:j<cs'.length:=(q05.1 hj).1;have hx:cs[j]?=some (cs[j]'(Ab)):=q13 Ab;obtain⟨v,v1,v2,v3⟩:=c4 i cs j _ hc hx;obtain⟨g1,g2⟩:=w2 j _ y hx hj;exact⟨v,v1,g2 _ _ _ v2,g1 v3⟩⟩
 exact iU
abbrev qV5:=@Ghost.weakRowF
theorem V5(h:Rel H ι .nil v):Rel H ι (.lst true []) v:=by
 rw[h.nil_inv];exact .lst0 _ _ _ _ (fun _=>rfl) (qZ1 _) (fun _=>rfl) trivial
def SX(sz:Nat)(es:List (List AV)):AObj:=bif es.isEmpty then .free else .row false sz es
theorem f8(hT:Dz P T)(b:Nat)
 (ho:o.op=.call {callee:=.builtin .append,args:= #[x,y],argTypes:= #[t,t']}) (hx:At e x=some (.lst true [])) (hy:At e y=some q) (hi:T t=some i) (hk:i.k=.slice u) (hj:T u=some j) (hi':T t'=some i') (hk':i'.k=.slice u')
 (hb:h b=some .free) (hz:j.zero.length=j.size) (hp:0<j.size) (hsrc:SrcOf h q R es2) (hu2:∀cs∈es2,cs.length=j.size) (hne:0<es2.length)
 (hby:es2.length*j.bytes<=140737488355328) (hml:es2.length<=maxLen):
 OLoc P o e h (b::R) [(b,.row false j.size es2)] (some (.ref b es2.length 0 es2.length)):=by
 refine F5 hb Aq hp fun H ι a w s hs g1 g2=>?_
 have hx':At s.env x=some (.lst true []):=by rw[g1 x Hr,hx]
 have hy':At s.env y=some q:=by rw[g1 y Hr,hy]
 have hsrc':=hsrc.agree (h':=s.h) (fun c hc=>g2 c (by simp[hc]));obtain⟨info,d,e1,e2,e3,e4,e5,e6⟩:=Am (hT _ _ hi);obtain⟨infou,du,f1,f2,f3,f4,f5,f6⟩:=Am (hT _ _ hj);obtain⟨info',d',e1',e2',e3',e4',e5',e6'⟩:=Am (hT _ _ hi');have hd:=Cc (P:=P) (d:=d) (e3▸hk);subst hd;have hd':=Cc (P:=P) (d:=d') (e3'▸hk');subst hd';obtain⟨z,hz1,hz2⟩:=Fb f6 hz hp;have hzl:z.cells.size=j.size:=by rw[<-hz];simpa using(Fq (H:=H) (ι:=Bk) hz2).1.symm
 have hvx:=Aw hs hx';have hvy:=Aw hs hy';generalize hva:a.eval x=va at hvx;generalize hvb:a.eval y=vb at hvy;have hexec:∀(v:Value) (w':World),(Builtin.append_ #[t,t'] o.type #[va,vb]).run P w=.ok v w'->(execOp a.eval o).run P w=.ok (.value v) w':=fun v w' hrun=>by
  exact iM
 obtain⟨news,hsrcw,hnews⟩:=QJ hs.heap hsrc' hvy e2' hp hu2 w rfl;rw[<-f4]at hsrcw;have hnl:news.length=es2.length*j.size:=by rw[hsrcw.newsLen,f4]
 have h63:((0+es2.length:Nat):Int)<=9223372036854775807:=by
  have:=hml;simp only[maxLen]at this;omega
 obtain⟨base,hv,hold⟩:∃(base:Option Addr),va=.slice base 0 0/\(Builtin.firstCells infou.size 0 (.slice base 0 0)).run P w.drew=.ok ([]:List Value).toArray w.drew:=by
  rcases hvx.lst_inv with⟨_,ad,cap,rfl,h1,h2,h3,h4⟩|⟨hne,_⟩
  . have:=h1 rfl;subst this;refine⟨ad,rfl,?_⟩;exact iR
  . exact absurd rfl hne
 have hfit:Builtin.nextslicecap (0+es2.length) 0*infou.bytes<=281474976710656:=growslice_fits Ab (by rw[f5,qQ8];exact hby);have hrun:=run_append_grow_src (P:=P) w t t' o.type u infou z e2 f1 hz1 base 0 0 [] hold vb es2.length news hsrcw Ab h63 hfit;have hge:=grownCap_ge w (0+es2.length) 0 u;have hcm:grownCap w (0+es2.length) 0 u<=maxLen:=grownCap_le_maxLen w _ 0 u Ab;generalize hcc:grownCap w (0+es2.length) 0 u=nc at*;generalize hC:(([]:List Value)++news).toArray++Builtin.zeroCells z.cells (nc-(0+es2.length))=C at*;have hCs:C.size=nc*j.size:=by
  rw[<-hC,Array.size_append,size_zeroCells,hzl];simp only[List.size_toArray,List.nil_append,hnl,<-qZ2];congr 1;omega
 have hCg:∀k,k<news.length->C[k]?=news[k]?:=fun k hk=>by
  exact iS
 refine⟨_,C,u,w.drew,rfl,rfl,rfl,?_,⟨fun i cs h=>hu2 cs (q33 h),fun i cs k y h1 h2=>?_⟩,hexec _ _ (hv▸hrun),?_⟩
 . rw[hCs];exact q34 _ Ab
 . obtain⟨v,k1,k2,k3⟩:=hnews i cs k y h1 h2;exact⟨v,by rw[hCg _ (q05.1 k1).1];exact k1,k2,k3⟩
 . have:=Rel.refL (H:=H) (ES ι b ⟨w.heap.size,j.size,es2.length,C.size⟩) b es2.length 0 es2.length nc _ (BH _ _ _) rfl Ab Ab (by simp[hCs]) hcm;simpa using this
theorem Mi(hT:Dz P T)
 (ho:o.op=.call {callee:=.builtin .append,args:= #[x,y],argTypes:= #[t,t']}) (hx:At e x=some (Bo b es)) (hy:At e y=some q) (hi:T t=some i) (hk:i.k=.slice u) (hj:T u=some j) (hi':T t'=some i') (hk':i'.k=.slice u')
 (hb:h b=some (SX sz es)) (hsz:sz=j.size) (hz:j.zero.length=j.size) (hp:0<j.size) (hsrc:SrcOf h q R [x0]) (hu2:x0.length=sz)
 (hby:(es.length+1)*j.bytes<=140737488355328) (hml:es.length+1<=maxLen):
 OLoc P o e h (b::R) [(b,.row false sz (es++[x0]))] (some (Bo b (es++[x0]))):=by
 subst hsz;rw[Km]
 cases hes:es.isEmpty with
 |true=>
  have e1:es=[]:=List.isEmpty_iff.1 hes;subst e1;exact f8 hT b ho hx hy hi hk hj hi' hk' hb hz hp hsrc (by intro cs hc;simp at hc;rw[hc];exact hu2) Aq (by simpa using hby) (by simpa using hml)
 |false=>
  have ex:Bo b es=.ref b es.length 0 es.length:=by simp[Bo,hes,UJ]
  have eo:SX j.size es=.row false j.size es:=by simp[SX,hes]
  rw[ex]at hx;rw[eo]at hb;exact E4 hT ho hx hy hi hk hj hi' hk' hb rfl rfl hz hp hsrc (by intro cs hc;simp at hc;rw[hc];exact hu2) D6 (m:=1) rfl hby hml
def Jq(base:Aj)(F:Nat->AObj):Aj:=fun c=>bif Nat.ble 16 c then some (F (c-16))else base c
theorem Ay(base:Aj)(F:Nat->AObj)(x:Nat):Jq base F (x+16)=some (F x):=by
 have:Nat.ble 16 (x+16)=true:=by rw[qZ5];omega
 simp only[Jq,this,qZ7,Nat.add_sub_cancel]
variable {c : Nat}
theorem Mq(base:Aj)(F:Nat->AObj)(h:c<16):Jq base F c=base c:=by
 have:Nat.ble 16 c=false:=by rw[<-Bool.not_eq_true,qZ5];omega
 simp only[Jq,this,qZ3]
def Y9:List AObj->Nat->AObj
  | [],_=>.free
  |o::_,0=>o
  |_::L,n+1=>Y9 L n
def nb(L:List AObj):Aj:=fun c=>some (Y9 L c)
def kf(k0:Nat):Nat->Bool:=fun c=>Nat.blt c k0||Nat.ble 16 c
variable {k0 : Nat}
theorem uc(h:c<k0):kf k0 c=true:=by
 have:Nat.blt c k0=true:=by rw[qZ6];exact h
 simp[kf,this]
theorem Yb(k0 x:Nat):kf k0 (x+16)=true:=by
 have:Nat.ble 16 (x+16)=true:=by rw[qZ5];omega
 simp[kf,this]
theorem mJ(h:kf k0 c=false):k0<=c/\c<16:=by
 simp only[kf,q38]at h;obtain⟨h1,h2⟩:=h;rw[<-Bool.not_eq_true,qZ6]at h1;rw[<-Bool.not_eq_true,qZ5]at h2;omega
theorem Li:∀{L:List AObj} {c:Nat},L.length<=c->Y9 L c=.free
 | [],_,_=>rfl
 |_::L,0,h=>absurd h Aq
 |_::L,c+1,h=>Li (L:=L) HN
def LowAt(h:Aj)(k:Nat->Bool):Nat->List AObj->Prop
  |_,[]=>True
  |i,o::L=>(h i=some o/\o.avoid k=true)/\LowAt h k (i+1) L
theorem LowAt.get{h:Aj}{k:Nat->Bool}:∀{L:List AObj} {i c:Nat},LowAt h k i L->c<L.length->h (i+c)=some (Y9 L c)/\(Y9 L c).avoid k=true
 | [],_,_,_,hc=>absurd hc Aq
 |o::L,i,0,hl,_=>hl.1
 |o::L,i,c+1,hl,hc=>by
  have:=LowAt.get (L:=L) (i:=i+1) (c:=c) hl.2 (by simpa using hc);rw[show i+(c+1)=i+1+c by omega];exact this
variable {L : List AObj} {F : Nat -> AObj}
theorem Ci(hk:L.length=k0)(h:kf k0 c=false):Jq (nb L) F c=some .free:=by
 obtain⟨h1,h2⟩:=mJ h;rw[Mq _ _ h2];show some (Y9 L c)=_;rw[Li Ab]
theorem BO(hk:L.length=k0)(h1:LowAt h (kf k0) 0 L)(h2:∀x,h (x+16)=some (F x))(h3:∀x,(F x).avoid (kf k0)=true):SQ (kf k0) (Jq (nb L) F) h:=by
 intro c o ho
 cases hc:kf k0 c with
 |false=>
  rw[Ci hk hc]at ho
  cases ho
  exact .inr ⟨rfl,rfl⟩
 |true=>
  by_cases h16:16<=c
  . obtain⟨x,rfl⟩:∃x,c=x+16:=⟨c-16,by omega⟩
    rw[Ay]at ho;cases ho;exact .inl ⟨h2 x,fun _=>⟨rfl,h3 x⟩⟩
  . have hlt:c<k0:=by
     simp only[kf,q81,qZ6,qZ5]at hc;omega
    rw[Mq _ _ Ab]at ho;have ho':some (Y9 L c)=some o:=ho
    cases ho'
    have:=h1.get (c:=c) Ab;rw[qQ8]at this;exact .inl ⟨this.1,fun _=>⟨rfl,this.2⟩⟩
theorem CI(hk:L.length=k0)(h1:LowAt h (kf k0) 0 L)(h2:∀x,h (x+16)=some (F x))(h3:∀c,k0<=c->c<16->h c=some .free):HSub (Jq (nb L) F) h:=by
 intro c o ho
 by_cases h16:16<=c
 . obtain⟨x,rfl⟩:∃x,c=x+16:=⟨c-16,by omega⟩
   rw[Ay]at ho;cases ho;exact h2 x
 . rw[Mq _ _ Ab]at ho;have ho':some (Y9 L c)=some o:=ho
   cases ho'
   by_cases hlt:c<k0
   . have:=h1.get (c:=c) Ab;rw[qQ8]at this;exact this.1
   . rw[Li Ab];exact h3 c Ab Ab
theorem EO(hh:∀x,h (x+16)=some (F x))(z:Nat)(o:AObj):∀x,Af h (z+16) o (x+16)=some (if x=z then o else F x):=fun x=>by
 by_cases hx:x=z
 . subst hx;rw[AB,qK0 rfl]
 . rw[Bd _ _ Ab,qZ9 hx];exact hh x
def Bs(φ:Nat->Nat)(l:List Nat)(m:List Nat):Prop:=∀b∈l,φ b∈m
def QR(φ:Nat->Nat):List (List Nat×List Nat)->List (List Nat×List Nat)->Prop
  | [],[]=>True
  |s::S,m::M=>Bs φ s.1 m.1/\Bs φ s.2 m.2/\QR φ S M
  |_,_=>False
theorem L7{φ:Nat->Nat}:∀{S M:List (List Nat×List Nat)} {i:Nat} {s:List Nat×List Nat},QR φ S M->S[i]?=some s->∃m,M[i]?=some m/\Bs φ s.1 m.1/\Bs φ s.2 m.2
 | [],_,_,_,_,h=>by simp at h
 |_::_,[],_,_,hs,_=>hs.elim
 |s::S,m::M,0,_,hs,h=>by simp at h;subst h;exact⟨m,rfl,hs.1,hs.2.1⟩
 |s::S,m::M,i+1,t,hs,h=>by
  simp only[q17]at h|-;exact L7 hs.2.2 h
theorem Kn{φ:Nat->Nat}:∀{S M:List (List Nat×List Nat)} {i:Nat},QR φ S M->S[i]?=none->M[i]?=none
 | [],[],_,_,_=>by simp
 | [],_::_,_,hs,_=>hs.elim
 |_::_,[],_,hs,_=>hs.elim
 |s::S,m::M,0,_,h=>by simp at h
 |s::S,m::M,i+1,hs,h=>by
  simp only[q17]at h|-;exact Kn hs.2.2 h
theorem iy{φ:Nat->Nat}{x y x' y':List Nat×List Nat}(hx1:Bs φ x.1 x'.1)(hx2:Bs φ x.2 x'.2)(hy1:Bs φ y.1 y'.1)(hy2:Bs φ y.2 y'.2)(h:Ds x' y'=true):Ds x y=true:=by
 simp only[Ds,q66,q67,q61,List.contains_eq_mem,q16]at h|-;exact⟨fun b hb=>⟨fun hc=>(h.1 (φ b) (hx2 b hb)).1 (hy1 b hc),fun hc=>(h.1 (φ b) (hx2 b hb)).2 (hy2 b hc)⟩,fun b hb hc=>h.2 (φ b) (hy2 b hb) (hx1 b hc)⟩
variable {ops : Array Oper}
theorem qR(φ:Nat->Nat){S M:List (List Nat×List Nat)}(hs:QR φ S M)(h:qS ops M=true):qS ops S=true:=by
 unfold qS at h|-;rw[q67]at h|-;intro j hj;have hjj:=h j hj
 cases ho:ops[j]? with
 |none=>rw[ho]at hjj;cases hjj
 |some oj=>
  rw[ho]at hjj
  cases hsj:S[j]? with
  |none=>rw[Kn hs hsj]at hjj;cases hjj
  |some sj=>
   obtain⟨mj,hmj,c1,c2⟩:=L7 hs hsj;rw[hmj]at hjj;simp only[q66]at hjj|-;refine⟨hjj.1,?_⟩;rw[q67];intro i hi;have hii:=q67.1 hjj.2 i hi
   cases hoi:ops[i]? with
   |none=>rw[hoi]at hii;cases hii
   |some oi=>
    rw[hoi]at hii
    cases hsi:S[i]? with
    |none=>rw[Kn hs hsi]at hii;cases hii
    |some si=>
     obtain⟨mi,hmi,d1,d2⟩:=L7 hs hsi;rw[hmi]at hii;simp only[q81,q66]at hii|-;rcases hii with hii|hii
     . exact .inl hii
     . exact .inr ⟨hii.1,iy d1 d2 c1 c2 hii.2⟩
theorem GS{acc:List (List Nat×List Nat)}{K:Ar->Prop}(φ:Nat->Nat)(M:List (List Nat×List Nat))(hs:QR φ acc M)(hc:qS ops M=true)(hk:K ⟨n,e,h⟩):DOps P ops n [] e h acc K:=DOps.nil (qR φ hs hc) hk
def Abs(f:Nat->Nat)(o:Nat->AObj)(n:Nat):List (Nat×AObj):=(List.range n).map fun i=>(f i,o i)
theorem Dy{f:Nat->Nat}{o:Nat->AObj}(h:Aj)(hb:∀i,i<n->b≠f i):AQ h (Abs f o n) b=h b:=by
 refine UP fun p hp=>?_
 unfold Abs at hp;simp only[qX3,q94]at hp;obtain⟨i,hi,rfl⟩:=hp;exact fun e=>hb i hi e.symm
theorem PX(z:Nat):mem [z] z=true:=mem_iff.2 Aq
theorem og{a b:Bool}(ha:a=true)(hb:b=true):(a&&b)=true:=by rw[ha,hb];rfl
theorem Ui{g:FuncId}(z:Nat){q:AObj}
 (ho:o.op=.call {callee:=.value (.func g),args:=args,argTypes:=tys}) (hf:P.funcs[g]?=some fn) (hn:(fn.name== "runtime.NumGoroutine")=false) (hb:fn.body.isSome=true) (hx:BA e args.toList=some xs)
 (hxa:xs.all (AV.avoid (mem [z]))=true) (hz:h z=some q) (hq:q.avoid (mem [z])=true) (hra:r.avoid (mem [z])=true)
 (hcall:ACall P g xs (Af hNew z q) (fun r' h'=>r'=r/\HSub (Af hNone z q) h')):OLoc P o e h [z] [] (some r):=
 Mh (hc:=Af hNew z q) (hw:=Af hNone z q) [z] [] ho hf hn hb hx hxa ⟨⟨q,hz,hq⟩,trivial⟩ rfl (OD hz (R3 h)) ⟨⟨q,AB _ _ _,hz,hq⟩,trivial⟩ hra hcall
theorem cV(hT:Dz P T){f:Nat}{fs:List (Nat×Nat)}(ho:o.op=.field t x f)(hx:At e x=some (.agg cs))(hi:T t=some i)(hk:i.k=.struct fs)
 (hf:fs[f]?=some (off,u)) (hj:T u=some j) (hc:j.k.isCell=true) (hr:cs[off]?=some r):QLoc P o e h [] r:=by
 intro H ι a w s hs h1 h2;have hx':At s.env x=some (.agg cs):=by rw[h1 x BY,hx]
 obtain⟨info,d,e1,e2,e3,e4,e5,e6⟩:=Am (hT _ _ hi);obtain⟨info',d',f1,f2,f3,f4,f5,f6⟩:=Am (hT _ _ hj);obtain⟨A,rfl,rfl,hz⟩:=FO (P:=P) (d:=d) (e3▸hk);rw[q54,q29]at hf
 cases ef:A[f]? with
 |none=>rw[ef]at hf;cases hf
 |some g=>
  rw[ef]at hf;simp only[q80,q53,q98]at hf;obtain⟨rfl,rfl⟩:=hf;obtain⟨us,hv,hl,hrel⟩:=(Aw hs hx').agg_inv;have hlt:g.offset<us.size:=by rw[<-hl];exact(q05.1 hr).1
  have hagg:R0 d'=false:=by
   have:=cx (P:=P) (d:=d') (by rw[<-f3];exact hc)
   cases d'<;>first|rfl|exact absurd rfl (this.1 _)|exact absurd rfl (this.2 _ _)
  refine⟨us[g.offset],hrel g.offset r _ hr (q12 hlt),?_⟩;simp only[execOp,ho,Instr.field,hv,qQ9,qX1,q57,As e2,ef,asAgg,part,K3 f2,hagg,q50,if_false,q12 hlt]
def lI(h:Aj):AV->Option (List Nat×List AV)
  | .loc cs=>some ([],cs)
  | .ptr b n i o=>match h b with
    |some (.row p sz es)=>match Nat.beq n es.length,es[i]? with
      |true,some cs=>some ([b],cs.drop o)
      |_,_=>none
    |_=>none
  |_=>none
theorem ae{p:AV}(e:lI h p=some (R,cs)):PtsTo h p R cs:=by
 unfold lI at e;split at e
 . simp only[q53,q98]at e;obtain⟨rfl,rfl⟩:=e;exact .loc _
 . split at e
   . rename_i b n i o p sz es hb;split at e
     . rename_i cs h1 h2;simp only[q53,q98]at e;obtain⟨rfl,rfl⟩:=e;exact .ptr _ _ _ _ _ _ _ _ hb (q25 h1) h2
     . cases e
   . cases e
 . cases e
def qEv(T:Nat->Option AC)(o:Op)(e:A3)(h:Aj):Option (List Nat×AV):=
  match o with
  | .move x=>match At e x with
    |some p=>some ([],p)
    |none=>none
  | .assign x=>match At e x with
    |some p=>some ([],p)
    |none=>none
  | .load t x=>match At e x,T t with
    |some p,some i=>match lI h p with
      |some (R,cs)=>match JF i cs with
        |some r=>some (R,r)
        |none=>none
      |none=>none
    |_,_=>none
  | .fieldAddr t x f=>match At e x,T t with
    |some p,some i=>match i.k with
      | .struct fs=>match fs[f]? with
        |some (off,u)=>match Mk p off with
          |some r=>some ([],r)
          |none=>none
        |none=>none
      |_=>none
    |_,_=>none
  | .binOp op t x y t'=>match At e x,At e y with
    |some p,some q=>match A8 op p q with
      |some r=>some ([],r)
      |none=>none
    |_,_=>none
  | .unOp .not t x=>match At e x with
    |some (.bool b)=>some ([],.bool (!b))
    |_=>none
  | .pick c x y=>match At e c with
    |some (.bool true)=>match At e x with
      |some p=>some ([],p)
      |none=>none
    |some (.bool false)=>match At e y with
      |some p=>some ([],p)
      |none=>none
    |_=>none
  | .extract x k=>match At e x with
    |some (.tup vs)=>match vs[k]? with
      |some r=>some ([],r)
      |none=>none
    |_=>none
  | .nilCheck x=>match At e x with
    |some p=>match(match p with| .loc _| .ptr .. =>true|_=>false)with
      |true=>some ([],p)
      |false=>none
    |none=>none
  | .field t x f=>match At e x,T t with
    |some (.agg cs),some i=>match i.k with
      | .struct fs=>match fs[f]? with
        |some (off,u)=>match T u with
          |some j=>match j.k.isCell,cs[off]? with
            |true,some r=>some ([],r)
            |_,_=>none
          |none=>none
        |none=>none
      |_=>none
    |_,_=>none
  | .convert t u x=>match At e x,T t,T u with
    |some (.int k' n),some i,some j=>match j.k with
      | .int k=>some ([],.int k (k.wrap n))
      |_=>none
    |_,_,_=>none
  | .call ⟨.builtin .len,args,tys⟩=>match args.toList,tys.toList with
    | [x],[t]=>match At e x,T t with
      |some p,some i=>match(match p with| .str _=>(match i.k with| .string=>true|_=>false)|_=>(match i.k with| .slice _=>true|_=>false)),RP p with
        |true,some n=>some ([],.int .i64 n)
        |_,_=>none
      |_,_=>none
    |_,_=>none
  |_=>none
theorem dO{a:Array α}{x:α}(h:a.toList=[x]):a= #[x]:=Array.ext' h
theorem XC(hT:Dz P T)(hq:qEv T o.op e h=some (R,r)):QLoc P o e h R r:=by
 unfold qEv at hq;split at hq
 . rename_i x ho;split at hq
   . rename_i p hp;simp only[q53,q98]at hq;obtain⟨rfl,rfl⟩:=hq;exact Ob (.inl ho) hp
   . cases hq
 . rename_i x ho;split at hq
   . rename_i p hp;simp only[q53,q98]at hq;obtain⟨rfl,rfl⟩:=hq;exact Ob (.inr ho) hp
   . cases hq
 . rename_i t x ho;split at hq
   . rename_i p i hp hi;split at hq
     . rename_i R' cs hc;split at hq
       . rename_i r' hr;simp only[q53,q98]at hq;obtain⟨rfl,rfl⟩:=hq;exact Ao hT ho hp hi (ae hc) hr
       . cases hq
     . cases hq
   . cases hq
 . rename_i t x f ho;split at hq
   . rename_i p i hp hi;split at hq
     . rename_i fs hk;split at hq
       . rename_i off u hf;split at hq
         . rename_i r' hr;simp only[q53,q98]at hq;obtain⟨rfl,rfl⟩:=hq;exact Kt hT ho hp hi hk hf hr
         . cases hq
       . cases hq
     . cases hq
   . cases hq
 . rename_i op t x y t' ho;split at hq
   . rename_i p q hp hq';split at hq
     . rename_i r' hr;simp only[q53,q98]at hq;obtain⟨rfl,rfl⟩:=hq;exact A9 ho hp hq' hr
     . cases hq
   . cases hq
 . rename_i t x ho;split at hq
   . rename_i b hp;simp only[q53,q98]at hq;obtain⟨rfl,rfl⟩:=hq;exact Iu ho hp
   . cases hq
 . rename_i c x y ho;split at hq
   . rename_i hc;split at hq
     . rename_i p hp;simp only[q53,q98]at hq;obtain⟨rfl,rfl⟩:=hq;exact G4 true ho hc rfl hp
     . cases hq
   . rename_i hc;split at hq
     . rename_i p hp;simp only[q53,q98]at hq;obtain⟨rfl,rfl⟩:=hq;exact Fh false ho hc rfl hp
     . cases hq
   . cases hq
 . rename_i x k ho;split at hq
   . rename_i vs hp;split at hq
     . rename_i r' hr;simp only[q53,q98]at hq;obtain⟨rfl,rfl⟩:=hq;exact Od ho hp hr
     . cases hq
   . cases hq
 . rename_i x ho;split at hq
   . rename_i p hp;split at hq
     . rename_i hc;simp only[q53,q98]at hq;obtain⟨rfl,rfl⟩:=hq;exact Z8 ho hp (by cases p<;>first|rfl|cases hc)
     . cases hq
   . cases hq
 . rename_i t x f ho;split at hq
   . rename_i cs i hp hi;split at hq
     . rename_i fs hk;split at hq
       . rename_i off u hf;split at hq
         . rename_i j hj;split at hq
           . rename_i r' hc hr;simp only[q53,q98]at hq;obtain⟨rfl,rfl⟩:=hq;exact cV hT ho hp hi hk hf hj hc hr
           . cases hq
         . cases hq
       . cases hq
     . cases hq
   . cases hq
 . rename_i t u x ho;split at hq
   . rename_i k' n i j hp hi hj;split at hq
     . rename_i k hk;simp only[q53,q98]at hq;obtain⟨rfl,rfl⟩:=hq;exact Oe hT ho hp hi hj hk
     . cases hq
   . cases hq
 . rename_i args tys ho;split at hq
   . rename_i x t ha ht;split at hq
     . rename_i p i hp hi;split at hq
       . rename_i n hk hn;simp only[q53,q98]at hq;obtain⟨rfl,rfl⟩:=hq;exact ly hT (ho.trans (by rw[dO ha,dO ht])) hp hi (by cases p<;>exact hk) hn
       . cases hq
     . cases hq
   . cases hq
 . cases hq
def lE(T:Nat->Option AC)(ops:Array Oper)(n:Nat):Nat->List Oper->A3->Aj->Option (List Oper×A3)
  |0,l,e,_=>some (l,e)
  |k+1,o::l,e,h=>match o.dst with
    |some d=>match Nat.blt d n,Bt ops o e with
      |true,some true=>match qEv T o.op e h with
        |some (_,r)=>lE T ops n k l (Aa e d r) h
        |none=>none
      |true,some false=>lE T ops n k l (Aa e d (.tup [])) h
      |_,_=>none
    |none=>none
  |_+1,[],_,_=>none
variable {K : Ar -> Prop}
theorem aQ(hT:Dz P T):∀(k:Nat) {l l':List Oper} {e e':A3},lE T ops n k l e h=some (l',e')->AOps P ops l' ⟨n,e',h⟩ K->AOps P ops l ⟨n,e,h⟩ K
 |0,l,l',e,e',hq,hr=>by
  simp only[lE,q53,q98]at hq;obtain⟨rfl,rfl⟩:=hq;exact hr
 |k+1,[],_,_,_,hq,_=>by cases hq
 |k+1,o::l,l',e,e',hq,hr=>by
  unfold lE at hq;split at hq
  . rename_i d hd;split at hq
    . rename_i hb hg;split at hq
      . rename_i R r hv;exact AOps.s d hd hb hg (XC hT hv) (aQ hT k hq hr)
      . cases hq
    . rename_i hb hg;exact qK7 d hd hb hg (aQ hT k hq hr)
    . cases hq
  . cases hq
def XB(T:Nat->Option AC)(ops:Array Oper)(n:Nat):Nat->List Oper->A3->Aj->List (List Nat×List Nat)->Option (List Oper×A3×List (List Nat×List Nat))
  |0,l,e,_,acc=>some (l,e,acc)
  |k+1,o::l,e,h,acc=>match o.dst with
    |some d=>match Nat.blt d n,Bt ops o e with
      |true,some true=>match qEv T o.op e h with
        |some (R,r)=>XB T ops n k l (Aa e d r) h (acc++[(R,[])])
        |none=>none
      |true,some false=>XB T ops n k l (Aa e d (.tup [])) h (acc++[([],[])])
      |_,_=>none
    |none=>none
  |_+1,[],_,_,_=>none
theorem dQ(hT:Dz P T):∀(k:Nat) {l l':List Oper} {e e':A3} {acc acc':List (List Nat×List Nat)},XB T ops n k l e h acc=some (l',e',acc')->DOps P ops n l' e' h acc' K->DOps P ops n l e h acc K
 |0,l,l',e,e',acc,acc',hq,hr=>by
  simp only[XB,q53,q98]at hq;obtain⟨rfl,rfl,rfl⟩:=hq;exact hr
 |k+1,[],_,_,_,_,_,hq,_=>by cases hq
 |k+1,o::l,l',e,e',acc,acc',hq,hr=>by
  unfold XB at hq;split at hq
  . rename_i d hd;split at hq
    . rename_i hb hg;split at hq
      . rename_i R r hv;exact DOps.s d hd hb hg (XC hT hv) (dQ hT k hq hr)
      . cases hq
    . rename_i hb hg;exact oD d hd hb hg (dQ hT k hq hr)
    . cases hq
  . cases hq
section
variable {P : Program} {T : Nat -> Option AC} {ops : Array Oper} {rest : List Oper} {n : Nat} {e : A3} {h : Aj} {K : Ar -> Prop} {acc : List (List Nat × List Nat)} {d : Nat} {t ty : TypeId} {ps : String} {af : Array Edge} {x y : Operand}
theorem wK{op:Op}{g:Nat×Bool}(hr:AOps P ops rest ⟨n,Aa e d (.tup []),h⟩ K)(hb:Nat.blt d n=true:=by exact rfl)(hg:Bt ops ⟨some d,op,ty,ps,af,some g⟩ e=some false:=by exact rfl):AOps P ops (⟨some d,op,ty,ps,af,some g⟩::rest) ⟨n,e,h⟩ K:=ak d hr rfl hb hg
variable {cs : List AV} {p : Bool} {es : List (List AV)} {i : AC} {q : AV}
theorem wS{b m k off sz:Nat}(hT:Dz P T)(hr:AOps P ops rest ⟨n,e,AQ h [(b,.row p sz (es.set k (Er cs off q.cells)))]⟩ K)(hx:At e x=some (.ptr b m k off):=by exact rfl)(hy:At e y=some q:=by exact rfl)(hi:T t=some i:=by exact rfl)
 (hb:h b=some (.row p sz es):=by exact rfl) (hm:m=es.length:=by exact rfl) (hk:es[k]?=some cs:=by exact rfl) (hq:q.cells.length=i.size:=by exact rfl) (hfit:off+i.size<=sz:=by decide) (h1:q.cells.all AV.cell1=true:=by exact rfl) (hp:p=true->q.cells.all AV.isPure1=true:=by first|exact fun _=>rfl|(intro h;cases h)):
 AOps P ops (⟨none,.store t x y,ty,ps,af,none⟩::rest) ⟨n,e,h⟩ K:=qK6 rfl rfl (AY hT rfl rfl hx hy hi hb hm hk hq hfit h1 hp) hr
theorem vS{b m k off sz:Nat}(hT:Dz P T)(hr:DOps P ops n rest e (AQ h [(b,.row p sz (es.set k (Er cs off q.cells)))]) (acc++[([b],[b])]) K)(hx:At e x=some (.ptr b m k off):=by exact rfl)(hy:At e y=some q:=by exact rfl)(hi:T t=some i:=by exact rfl)
 (hb:h b=some (.row p sz es):=by exact rfl) (hm:m=es.length:=by exact rfl) (hk:es[k]?=some cs:=by exact rfl) (hq:q.cells.length=i.size:=by exact rfl) (hfit:off+i.size<=sz:=by decide) (h1:q.cells.all AV.cell1=true:=by exact rfl) (hp:p=true->q.cells.all AV.isPure1=true:=by first|exact fun _=>rfl|(intro h;cases h)):
 DOps P ops n (⟨none,.store t x y,ty,ps,af,none⟩::rest) e h acc K:=qK8 rfl rfl (AY hT rfl rfl hx hy hi hb hm hk hq hfit h1 hp) hr
end
inductive Gs:Nat->Prop
  |mk (n:Nat):Gs n
theorem Aby{n:Nat}(_:Gs (n+1)):Gs n:=.mk n
theorem wk(n:Nat){p q:Prop}(k:q)(w:Gs n->q->p:=by
 intro g_ k_;repeat(replace g_:=Aby g_;first|refine aQ Ah 1 rfl ?_|refine an ?_|refine oK ?_|refine bB ?_|refine Ba ?_|refine Bg ?_|refine oL ?_|refine wK ?_|refine CE ?_|refine dQ Ah 1 rfl ?_|refine wS Ah ?_|refine DOps.nil AF ?_|refine oH mix ?_|refine AGo.block ?_|refine AGo.exit ?_|refine vS Ah ?_|refine aq _ (M5 Ah rfl rfl rfl rfl rfl Al rfl rfl rfl) ?_|refine dq _ (M5 Ah rfl rfl rfl rfl rfl Al rfl rfl rfl) ?_|refine ak _ ?_|refine dk _ ?_)
 exact k_):p:=w (.mk n) k
end Go.Proofs.YtbbfelelocccmaaGreat.Sv
namespace Go.Proofs.YtbbfelelocccmaaGreat.Sv
open Go Go.ChangeShapes Go.WideShapes Go.ChangeAt Go.RowKit
def DP(W:World):AJ:=fun b=>match W.heap[b]? with
  |some (.cells c _ _)=>some c
  |_=>none
theorem Yp(W:World)(hg:GlobOk (DP W)):WF (DP W) W where
 know:=fun b c h=>by
  unfold DP at h;split at h
  . rename_i c' T fr e;cases h;exact⟨T,fr,e⟩
  . cases h
 glob:=hg
variable {v : Value}
theorem LW{W:World}{a:Addr}(h:W.cell? a=some v):∃c,DP W a.block=some c/\a.spot=none/\c[a.off]?=some v:=by
 unfold World.cell? at h;split at h
 . rename_i c T fr e;split at h
   . cases h
   . rename_i hs;refine⟨c,by simp[DP,e],?_,h⟩
     cases e2:a.spot with
     |none=>rfl
     |some x=>simp[e2]at hs
 . cases h
def Reads(W:World)(cs:List Value)(xs:List AV):Prop:=xs.length=cs.length/\∀(j:Nat) (x:AV) (v:Value),xs[j]?=some x->cs[j]?=some v->Rel (DP W) Bk x v/\x.cell1=true
variable {H : Type}
def Dec(enc:TypeId×Value->H)(P:Program)(W:World)(t:TypeId){α:Type}(f:α->List AV)(Q:α->Prop):Prop:=
  ∀(fuel:Nat) (cs:List Value) (x:DataW H×List MemPlace),DataW.trod enc P W 0 (fun _=>true) true fuel t cs=some x->(x.1.weights P t).all (· <=reachBytes)=true->∃a,Reads W cs (f a)/\Q a
variable {enc : TypeId × Value -> H} {P : Program} {W : World} {t e : TypeId}
theorem Reads.one{x:AV}(h:Rel (DP W) Bk x v)(h1:x.cell1=true):Reads W [v] [x]:=⟨rfl,fun j y u hy hu=>by
 cases j with
 |zero=>simp at hy hu;subst hy;subst hu;exact⟨h,h1⟩
 |succ j=>simp at hy⟩
theorem Dec.int{k:IntKind}(ht:P.underlying t=some (.int k)):Dec enc P W t (fun n:Int=>[.int k n]) (fun n=>(Lit.int k n).wf=true):=fun fuel cs x h _=>by
 obtain⟨n,rfl,rfl,hw⟩:=DataW.trod_int ht h;exact⟨n,.one (.int _ _ _) rfl,hw⟩
theorem KH{α:Type}{R:Nat->α->Prop}:∀n:Nat,(∀i,i<n->∃a,R i a)->∃l:List α,l.length=n/\∀i a,l[i]?=some a->R i a
 |0,_=>⟨[],rfl,fun i a h=>by simp at h⟩
 |n+1,h=>by
  obtain⟨l,h1,h2⟩:=KH n (fun i hi=>h i Ab);obtain⟨a,ha⟩:=h n Ab;refine⟨l++[a],by simp[h1],fun i b hb=>?_⟩
  by_cases hi:i<n
  . rw[q06 Ab]at hb;exact h2 i b hb
  . rw[q02 Ab]at hb;have:i=n:=by
     rcases qX4 (i-l.length) 1 with h|h
     . omega
     . rw[q26 HN]at hb;cases hb
    subst this;simp[h1]at hb;subst hb;exact ha
theorem HP:∀{ds:List (DataW H)} {d:DataW H} {i:Nat},(DataW.weightsAll P e ds).all (· <=reachBytes)=true->ds[i]?=some d->(d.weights P e).all (· <=reachBytes)=true
 | [],_,_,_,h=>by simp at h
 |d::r,d',0,hw,h=>by
  simp at h;subst h;simp only[DataW.weightsAll,q92,q66]at hw;exact hw.1
 |d::r,d',i+1,hw,h=>by
  simp only[DataW.weightsAll,q92,q66]at hw;exact HP (ds:=r) hw.2 HN
variable {α : Type}
theorem Dec.slice{f:α->List AV}{Q:α->Prop}(ht:P.underlying t=some (.slice e))(hc:0<P.cellsOf e)(he:Dec enc P W e f Q):
 Dec enc P W t (fun l:List α=>[.lst false (l.map f)]) (fun l=>l.length*P.bytesOf e<=reachBytes/\∀a∈l,Q a):=fun fuel cs x h hw=>by
 rcases DataW.trod_slice ht h with⟨rfl,rfl⟩|⟨a,len,cap,elems,rest,n,rfl,rfl,rfl,hb,hl,hm,hlen,hel,hsp,hns⟩
 . exact⟨[],.one (.lst0 _ _ _ _ GZ (qZ1 _) (fun _=>rfl) trivial) rfl,by simp,fun a h=>by cases h⟩
 simp only[DataW.weights,ht,qQ1,q92,q66,q56,q76]at hw;obtain⟨w1,w2,w3⟩:=hw;have key:∀i,i<len->∃y,∃cs',W.cells? 0 (a.add (i*P.cellsOf e)) (P.cellsOf e)=some cs'/\Reads W cs' (f y)/\Q y:=fun i hi=>by
  have h1:=hel i hi;have hlt:i<elems.length:=by omega
  rw[q13 hlt]at h1;rw[Option.bind_eq_some_iff]at h1;obtain⟨cs',c1,c2⟩:=h1;obtain⟨y,y1,y2⟩:=he _ _ _ c2 (HP w2 (i:=i) (by rw[q54,q13 hlt];rfl));exact⟨y,cs',c1,y1,y2⟩
 obtain⟨l,l1,l2⟩:=KH len key;have hQ:∀y∈l,Q y:=fun y hy=>by
  obtain⟨i,hi⟩:=q27.1 hy;obtain⟨cs',_,_,q⟩:=l2 i y hi;exact q
 exact xH
variable {T : Nat -> Option AC}
variable {i : AC}
theorem Ig(hT:Dz P T)(hi:T t=some i):P.cellsOf t=i.size:=by
 obtain⟨info,d,e1,e2,e3,e4,e5,e6⟩:=Am (hT _ _ hi);simp[Program.cellsOf,e1,e4]
theorem Sy(hT:Dz P T)(hi:T t=some i):P.bytesOf t=i.bytes:=by
 obtain⟨info,d,e1,e2,e3,e4,e5,e6⟩:=Am (hT _ _ hi);simp[Program.bytesOf,e1,e5]
theorem CK{k:IntKind}(hT:Dz P T)(hi:T t=some i)(hk:i.k=.int k):Dec enc P W t (fun n:Int=>[.int k n]) (fun n=>(Lit.int k n).wf=true):=by
 obtain⟨info,d,e1,e2,e3,e4,e5,e6⟩:=Am (hT _ _ hi);have hd:=II (P:=P) (d:=d) (e3▸hk);subst hd;exact Dec.int e2
variable {j : AC}
theorem Dec.slice'{f:α->List AV}{Q:α->Prop}{u:Nat}(hT:Dz P T)(hi:T t=some i)(hk:i.k=.slice u)(hj:T u=some j)(hp:0<j.size)(he:Dec enc P W u f Q):
 Dec enc P W t (fun l:List α=>[.lst false (l.map f)]) (fun l=>l.length*j.bytes<=reachBytes/\∀a∈l,Q a):=by
 obtain⟨info,d,e1,e2,e3,e4,e5,e6⟩:=Am (hT _ _ hi);have hd:=Cc (P:=P) (d:=d) (e3▸hk);subst hd;have:=Dec.slice (enc:=enc) (W:=W) e2 (by rw[Ig hT hj];exact hp) he;rwa[Sy hT hj]at this
theorem Ex:∀{ts:List TypeId} {ds:List (DataW H)} {t:TypeId} {d:DataW H} {i:Nat},(DataW.weightsEach P ts ds).all (· <=reachBytes)=true->ts[i]?=some t->ds[i]?=some d->(d.weights P t).all (· <=reachBytes)=true
 | [],_,_,_,_,_,h,_=>by simp at h
 |_::_,[],_,_,_,_,_,h=>by simp at h
 |t::ts,d::ds,t',d',0,hw,h1,h2=>by
  simp at h1 h2;subst h1;subst h2;simp only[DataW.weightsEach,q92,q66]at hw;exact hw.1
 |t::ts,d::ds,t',d',i+1,hw,h1,h2=>by
  simp only[DataW.weightsEach,q92,q66]at hw;exact Ex (ts:=ts) (ds:=ds) hw.2 JX Ke
def Abw(enc:TypeId×Value->H)(P:Program)(W:World)(T:Nat->Option AC)(cs:List Value)(fs:List (Nat×Nat)):Prop:=
  ∀(i off u:Nat),fs[i]?=some (off,u)->∀{α:Type} {f:α->List AV} {Q:α->Prop},Dec enc P W u f Q->∃a,Reads W ((cs.drop off).take (P.cellsOf u)) (f a)/\Q a
variable {cs : List Value} {fs : List (Nat × Nat)}
theorem MR(hT:Dz P T)(hi:T t=some i)(hk:i.k=.struct fs){fuel:Nat}{x:DataW H×List MemPlace}(h:DataW.trod enc P W 0 (fun _=>true) true fuel t cs=some x)(hw:(x.1.weights P t).all (· <=reachBytes)=true):
 cs.length=i.size/\Abw enc P W T cs fs:=by
 obtain⟨info,d,e1,e2,e3,e4,e5,e6⟩:=Am (hT _ _ hi);obtain⟨A,rfl,rfl,_⟩:=FO (P:=P) (d:=d) (e3▸hk);obtain⟨xs,n,rfl,rfl,hl,hxl,hx⟩:=DataW.trod_struct e2 h;refine⟨by rw[hl,Ig hT hi],fun j off u hj α f Q hd=>?_⟩;rw[q54,q22]at hj;obtain⟨F,hF,hF2⟩:=hj;simp only[q98]at hF2;obtain⟨rfl,rfl⟩:=hF2;have hFa:A[j]?=some F:=by simpa using hF
 have hjlt:j<xs.length:=by rw[hxl];exact(q03.1 hFa).1
 have h1:=hx j F hFa;rw[q13 hjlt]at h1;simp only[DataW.weights,e2]at hw;exact hd _ _ _ h1 (Ex hw (i:=j) (by rw[q54,hF];rfl) (by rw[q54,q13 hjlt];rfl))
theorem Reads.nil(W:World)(cs:List Value):Reads W (cs.take 0) []:=⟨by simp,fun j x v h=>by simp at h⟩
variable {xs : List AV}
theorem Reads.app{off n:Nat}{ys:List AV}(h1:Reads W (cs.take off) xs)(h2:Reads W ((cs.drop off).take n) ys)(ho:off<=cs.length):Reads W (cs.take (off+n)) (xs++ys):=by
 have hl1:xs.length=off:=by rw[h1.1,q69];omega
 refine⟨by rw[q48,h2.1,hl1];simp only[q69,List.length_drop];omega,fun j x v hx hv=>?_⟩;rw[List.take_add]at hv
 by_cases hj:j<off
 . rw[q06 Ab]at hx;rw[q06 Qj]at hv;exact h1.2 j x v hx hv
 . rw[q02 Ab]at hx;rw[q02 Qj]at hv;have hll:(List.take off cs).length=off:=by rw[q69];omega
   rw[hll]at hv;rw[hl1]at hx;exact h2.2 _ x v hx hv
theorem Reads.all{n:Nat}(h:Reads W (cs.take n) xs)(hn:cs.length=n):Reads W cs xs:=by
 rwa[q20 Ab]at h
theorem Reads.val(h:Reads W v.cells.toList xs)(hv:∃cs,v=.agg cs):Rel (DP W) Bk (.agg xs) v:=by
 obtain⟨cs,rfl⟩:=hv;exact .agg _ _ _ (by simpa[Value.cells]using h.1) fun j x u h1 h2=>(h.2 j x u h1 (by simpa[Value.cells]using h2)).1
theorem Reads.val1{x:AV}(h:Reads W v.cells.toList [x])(hv:∀cs,v≠ .agg cs):Rel (DP W) Bk x v:=by
 have hc:v.cells.toList=[v]:=by cases v<;>first|rfl|exact absurd rfl (hv _)
 rw[hc]at h;exact(h.2 0 x v rfl rfl).1
theorem az{b0:Nat}(hT:Dz P T)(hi:T t=some i)(hk:i.k=.struct fs)(h:Value.okWide P W .any b0 t v):∃cs,v=.agg cs:=by
 obtain⟨info,d,e1,e2,e3,e4,e5,e6⟩:=Am (hT _ _ hi);obtain⟨A,rfl,_,_⟩:=FO (P:=P) (d:=d) (e3▸hk);unfold Value.okWide at h;rw[e2]at h;obtain⟨cs,h1,_⟩:=h;exact⟨cs,h1⟩
variable {H' H0 : AJ} {W' : World}
theorem Grow.kept(g:Grow H0 W H' W')(may:MemPlace->Prop):W.keptBut W' may:=by
 refine⟨g.os,g.out,fun i hi=>?_⟩;rw[g.keep i hi];split<;>simp_all
variable {s : ChangeSpec} {args : Array Value} {fresh handsOn : Bool} {ds gs : List (DataW H)} {before : List MemPlace}
theorem lK{f:Func}{apart:Bool}{pa pv:List MemPlace}
 (hW:DataW.Whole enc P f.params.toList s.vars apart W args.toList ds gs before)
 (hres:∀(b:Nat) (sp:Nat->Bool) (hd:Bool),DataW.TrodAll enc P W' b sp hd f.resultTypes.toList (v.resultList f.resultTypes.size) (s.fn H (ds++gs)).results [])
 (hargs:∀sp:Nat->Bool,(∀p∈before,sp p.block=true)->DataW.TrodAll enc P W' 0 sp true f.params.toList args.toList (s.fn H (ds++gs)).args pa)
 (hvars:∀sp:Nat->Bool,(∀p∈before,sp p.block=true)->DataW.TrodVars enc P W' sp s.vars (s.fn H (ds++gs)).vars pv)
 (hps:before=pa++pv) (hk:∀may:MemPlace->Prop,W.keptBut W' may):s.post enc P f apart fresh handsOn false W args v W':=by
 have hold:∀p∈before,(fun b=>decide (b<W.heap.size)) p.block=true:=fun p hp=>by simpa using hW.lt p hp
 exact⟨ds,gs,before,[],pa,pv,hW,hres _ _ _,hargs _ hold,hvars _ hold,hk _,fun h=>by cases h⟩
theorem LO(hl:laidOutB P=true){W':World}{sp:Nat->Bool}:∀{ts:List TypeId} {vs:List Value} {ds:List (DataW H)} {ps:List MemPlace},ts.all (fun t=>P.readableRec t&&decide (t<P.types.size))=true->
 DataW.TrodAll enc P W 0 (fun _=>true) true ts vs ds ps->(∀p∈ps,W.sameAt W' p)->(∀p∈ps,sp p.block=true)->DataW.TrodAll enc P W' 0 sp true ts vs ds ps
 | [],vs,ds,ps,_,h,_,_=>by
  obtain⟨rfl,rfl,rfl⟩:=trodAll_nil h;rfl
 |t::ts,vs,ds,ps,hr,h,h1,h2=>by
  obtain⟨v,vs',d,ds',p,q,rfl,rfl,rfl,hd,hrest⟩:=trodAll_cons h;simp only[qQ1,q66,q56]at hr;exact⟨p,q,WideElems.Trod_stays hl hr.1.1 hr.1.2 hd (fun x hx=>h1 x IT) (fun x hx=>h2 x IT),LO hl hr.2 hrest (fun x hx=>h1 x IT) (fun x hx=>h2 x IT),rfl⟩
theorem Grow.same(g:Grow H0 W H' W'){p:MemPlace}(hp:p.block<W.heap.size):W.sameAt W' p:=by
 cases p with
 |cell b off=>
  have:=g.keep b hp;show W'.cell? _=W.cell? _;unfold World.cell?;simp only[this]
 |map b=>exact g.keep b hp
theorem gr{f:FuncId}{fn:Func}{tb:TypeId}(hl:laidOutB P=true)(hvs:s.vars=[])(hr:fn.params.toList.all (fun t=>P.readableRec t&&decide (t<P.types.size))=true)
 (hres:fn.resultTypes= #[tb]) (hb:P.underlying tb=some .bool) (hs1:(s.fn H (ds++gs)).results=[.lit (.bool true)]) (hs2:(s.fn H (ds++gs)).args=ds) (hs3:(s.fn H (ds++gs)).vars=[])
 (hW:DataW.Whole enc P fn.params.toList s.vars false W args.toList ds gs before) (hrel:RelAll (DP W) Bk xs args) (hc:APure P f xs (fun r=>r=.bool true)) (hg:GlobOk (DP W)):
 Calls P f args W fun e W'=>∃v,e=.returned v/\s.post enc P fn false fresh handsOn false W args v W':=by
 have hW':=hW;obtain⟨p,q,hA,hV,rfl,hfz,hnd⟩:=hW;rw[hvs]at hV;obtain⟨rfl,rfl⟩:=trodVars_none hV;have hlt:∀x∈p++[],x.block<W.heap.size:=fun x hx=>hW'.lt x hx
 refine(hc (DP W) W args hrel (Yp W hg)).mono fun e W' hx=>?_
 obtain⟨v,r,H',rfl,rfl,h3,h4⟩:=hx;have hv:=h3.bool_inv;subst hv;refine⟨_,rfl,lK (pa:=p) (pv:=[]) hW' (fun b sp hd=>?_) (fun sp hsp=>?_) (fun sp hsp=>?_) rfl (fun may=>h4.kept may)⟩
 . rw[hs1,hres];exact trodAll_mk1 (shut_bool hb true)
 . rw[hs2];exact LO hl hr hA (fun x hx=>h4.same (hlt x IT)) (fun x hx=>hsp x IT)
 . rw[hs3,hvs];rfl
variable {ι : BD}
theorem RelAll.nil{K:AJ}:RelAll K ι [] #[]:=⟨rfl,fun j x v h=>by simp at h⟩
theorem RelAll.cons{K:AJ}{x:AV}{vs:List Value}(h:Rel K ι x v)(hs:RelAll K ι xs ⟨vs⟩):RelAll K ι (x::xs) ⟨v::vs⟩:=by
 refine⟨by have:=hs.1;simp at this|-;exact this,fun j y u h1 h2=>?_⟩
 cases j with
 |zero=>simp at h1 h2;subst h1;subst h2;exact h
 |succ j=>exact hs.2 j y u JX Ke
def setsOp(op:Int):Bool:=op==1||(op==2||(op==3||(op==4||(op==6||op==8))))
def Tac.sets(t:Tac):Int:=bif setsOp t.op then t.d else -1
def use1(op:Int):Bool:=op==2||(op==5||(op==6||op==9))
def use2(op:Int):Bool:=op==3||op==7
def Tac.uses(t:Tac):List Int:=bif use1 t.op then [t.a]else bif use2 t.op then [t.a,t.b]else []
theorem W6(t:Tac):t.uses.length<=2:=by
 unfold Tac.uses
 cases use1 t.op<;>cases use2 t.op<;>simp
def A2(i n:Int):Bool:=decide (0<=i)&&decide (i<n)
theorem O9(op:Int):(use1 op&&use2 op)=false:=by
 rw[q64];intro h;simp only[use1,use2,q66,q81,qZ4]at h;omega
def GP(op:Int):Bool:=op==4||op==5
def EP(op:Int):Bool:=op==6||op==7
def Tac.want(t:Tac):Tac where
  op:=t.op
  d:=bif setsOp t.op then t.d else 0
  a:=bif use1 t.op||use2 t.op then t.a else 0
  b:=bif use2 t.op then t.b else 0
  k:=bif t.op==3 then t.k else 0
  base:=bif GP t.op||(EP t.op||t.op==10)then t.base else 0
  size:=bif EP t.op then t.size else 0
  n:=bif t.op==1 then t.n else 0
def Tac.same(x y:Tac):Bool:=x.op==y.op&&(x.d==y.d&&(x.a==y.a&&(x.b==y.b&&(x.k==y.k&&(x.base==y.base&&(x.size==y.size&&(x.n==y.n&&true)))))))
theorem Tac.same_iff(x y:Tac):x.same y=true↔x=y:=by
 have h1:=Tac.eqCells x y;have h2:Sv.eqCells x.cells y.cells=some (x.same y):=rfl;rw[h1]at h2;have h3:decide (x=y)=x.same y:=by simpa using h2
 rw[<-h3,decide_eq_true_iff]
def Tac.rest(t:Tac)(f words:Int):Bool:=
  bif t.op==3 then decide (4<=t.k)&&decide (t.k<=15)
  else bif GP t.op then A2 t.base words
  else bif EP t.op then decide (1<=t.size)&&(decide (t.size<=4096)&&(decide (0<=t.base)&&decide (t.base<=words-t.size)))
  else bif t.op==10 then A2 t.base f
  else true
def Tac.fits(t:Tac)(f regs words:Int):Bool:=
  decide (1<=t.op)&&(decide (t.op<=10)&&((!setsOp t.op||A2 t.d regs)&&(t.uses.all (fun r=>A2 r regs)&&(t.rest f words&&t.same t.want))))
theorem Gc{t:Tac}(h:decide (t.sets>=0)=true):setsOp t.op=true:=by
 unfold Tac.sets at h
 cases e:setsOp t.op with
 |true=>rfl
 |false=>rw[e]at h;simp at h
variable {f regs words : Int}
theorem dJ{t:Tac}(h:¬(1<=t.op/\t.op<=10)):t.fits f regs words=false:=by
 rw[q64];intro h2;simp only[Tac.fits,q66,q56]at h2;exact h ⟨h2.1,h2.2.1⟩
theorem wc{t:Tac}(h:setsOp t.op=true)(h2:A2 t.d regs=false):t.fits f regs words=false:=by
 simp[Tac.fits,h,h2]
theorem nh{t:Tac}(h:t.uses.all (fun r=>A2 r regs)=false):t.fits f regs words=false:=by
 simp only[Tac.fits,h,Bool.false_and,q97]
theorem UZ{t:Tac}(h:t.rest f words=false):t.fits f regs words=false:=by
 simp only[Tac.fits,h,Bool.false_and,q97]
theorem gL{t:Tac}(h1:decide (t.op<1)=false)(h2:decide (t.op>10)=false)(hd:(!setsOp t.op||A2 t.d regs)=true)(hu:t.uses.all (fun r=>A2 r regs)=true)(hr:t.rest f words=true):t.fits f regs words=t.same t.want:=by
 have h1':decide (1<=t.op)=true:=by simp at h1|-;omega
 have h2':decide (t.op<=10)=true:=by simp at h2|-;omega
 simp only[Tac.fits,h1',h2',hd,hu,hr,qQ5]
def Block.ends(b:Block)(blocks regs:Int):Bool:=
  bif b.fin==1 then A2 b.to blocks&&(b.v==0&&b.els==0)
  else bif b.fin==2 then A2 b.to blocks&&(A2 b.els blocks&&A2 b.v regs)
  else b.fin==3&&(b.v==0&&(b.to==0&&b.els==0))
def Block.ok(x:Block)(blocks regs number words:Int):Bool:=x.ends blocks regs&&x.ins.all (fun t=>t.fits number regs words)
def BFunc.one(f:BFunc)(number words:Int):Bool:=
  decide (0<=f.regs)&&(decide (f.regs<=4000)&&(!f.blocks.isEmpty&&f.blocks.all (fun x=>x.ok f.blocks.length f.regs number words)))
def Blocks.right(b:Blocks):Bool:=
  decide (0<=b.words)&&(decide (b.words<=1048576)&&(!b.funcs.isEmpty&&b.funcs.zipIdx.all (fun p=>p.1.one (p.2:Int) b.words)))
def Block.count(x:Block):Nat:=1+x.ins.length
def BFunc.count(f:BFunc):Nat:=(f.blocks.map Block.count).sum
def Blocks.count(b:Blocks):Nat:=(b.funcs.map BFunc.count).sum
variable {f : BFunc} {number : Int}
theorem c9(h:¬(0<=f.regs/\f.regs<=4000/\f.blocks.length≠0)):f.one number words=false:=by
 rw[q64];intro h2;simp only[BFunc.one,q66,q56,q61,q10]at h2;exact h ⟨h2.1,h2.2.1,fun e=>h2.2.2.1 (q18.1 e)⟩
theorem Iw(h1:0<=f.regs)(h2:f.regs<=4000)(h3:f.blocks.length≠0):f.one number words=f.blocks.all (fun x=>x.ok f.blocks.length f.regs number words):=by
 have h3':f.blocks.isEmpty=false:=by
  rw[q10];intro e;rw[e]at h3;exact h3 rfl
 simp only[BFunc.one,q96 h1,q96 h2,h3',Bool.not_false,qQ5]
variable {b : Blocks}
theorem T0(h:¬(0<=b.words/\b.words<=1048576/\b.funcs.length≠0)):b.right=false:=by
 rw[q64];intro h2;simp only[Blocks.right,q66,q56,q61,q10]at h2;exact h ⟨h2.1,h2.2.1,fun e=>h2.2.2.1 (q18.1 e)⟩
theorem HG(h1:0<=b.words)(h2:b.words<=1048576)(h3:b.funcs.length≠0):b.right=b.funcs.zipIdx.all (fun p=>p.1.one (p.2:Int) b.words):=by
 have h3':b.funcs.isEmpty=false:=by
  rw[q10];intro e;rw[e]at h3;exact h3 rfl
 simp only[Blocks.right,q96 h1,q96 h2,h3',Bool.not_false,qQ5]
variable {k : Nat}
theorem Cv{l:List α}{p:α->Bool}{x:α}(hx:l[k]?=some x)(h:(l.take k).all p=true)(hp:p x=true):(l.take (k+1)).all p=true:=by
 rw[AT hx,q92,h];simp[hp]
theorem Cw{l:List α}{p:α->Bool}{x:α}(hx:l[k]?=some x)(hp:p x=false):l.all p=false:=by
 rw[q64];intro h;rw[q67.1 h x (q33 hx)]at hp
 cases hp
theorem CJ{l:List α}{p:α->Bool}(h:(l.take k).all p=true)(hk:l.length<=k):l.all p=true:=by
 rwa[q20 hk]at h
theorem ki{l:List α}{p:α->Nat}{x:α}(hx:l[k]?=some x):((l.take (k+1)).map p).sum=((l.take k).map p).sum+p x:=by
 rw[AT hx,q77,q82];simp
theorem pt{l:List α}{p:α->Nat}(hk:l.length<=k):((l.take k).map p).sum=(l.map p).sum:=by
 rw[q20 hk]
theorem BG{l:List α}{x:α}(hx:l[k]?=some x):l.zipIdx[k]?=some (x,k):=by
 rw[q37,hx];simp
theorem BFunc.ext'{g:BFunc}(h1:f.regs=g.regs)(h2:f.blocks=g.blocks):f=g:=by cases f;cases g;simp_all
theorem HT{l l':List α}(h:l.take k=l'.take k)(h1:l.length<=k)(h2:l'.length<=k):l=l':=by
 rwa[q20 h1,q20 h2]at h
def GT(op a b:Int):Int×Int:=bif b==0 then(0,14)else bif op==7 then(IntKind.u32.wrap (a.tdiv b),0)else(a.tmod b,0)
def Hf(op a b:Int):Int:=bif decide (b>31)then 0 else bif op==12 then IntKind.u32.wrap (a*2^(min b.toNat IntKind.u32.bits))else a.fdiv (2^(min b.toNat IntKind.u32.bits))
def IV(op a b:Int):Int:=bif (op==14&&decide (a<b))||(op==15&&a==b)then 1 else 0
def Cp(op a b:Int):Int×Int:=
  bif op==4 then(IntKind.u32.wrap (a+b),0)
  else bif op==5 then(IntKind.u32.wrap (a-b),0)
  else bif op==6 then(IntKind.u32.wrap (a*b),0)
  else bif op==7||op==8 then GT op a b
  else bif op==9 then(IntKind.u32.wrap ((BitVec.ofInt IntKind.u32.bits a&&&BitVec.ofInt IntKind.u32.bits b).toNat),0)
  else bif op==10 then(IntKind.u32.wrap ((BitVec.ofInt IntKind.u32.bits a|||BitVec.ofInt IntKind.u32.bits b).toNat),0)
  else bif op==11 then(IntKind.u32.wrap ((BitVec.ofInt IntKind.u32.bits a^^^BitVec.ofInt IntKind.u32.bits b).toNat),0)
  else bif op==12||op==13 then(Hf op a b,0)
  else bif op==14||op==15 then(IV op a b,0)
  else(0,1)
def ck(p:Int×Int):AV:=.tup [.int .u32 p.1,.int .i64 p.2]
def FY(n:Int):Prop:=0<=n/\n<4294967296
theorem Gp(n:Int):FY (IntKind.u32.wrap n):=by
 rw[q75];constructor<;>omega
theorem HF{op a b:Int}(ha:FY a)(hb:FY b):FY (Cp op a b).1:=by
 unfold Cp
 cases op==4<;>simp only[qZ7,qZ3]<;>try exact Gp _
 cases op==5<;>simp only[qZ7,qZ3]<;>try exact Gp _
 cases op==6<;>simp only[qZ7,qZ3]<;>try exact Gp _
 cases op==7||op==8
 . simp only[qZ3]
   cases op==9<;>simp only[qZ7,qZ3]<;>try exact Gp _
   cases op==10<;>simp only[qZ7,qZ3]<;>try exact Gp _
   cases op==11<;>simp only[qZ7,qZ3]<;>try exact Gp _
   cases op==12||op==13
   . simp only[qZ3]
     cases op==14||op==15
     . simp only[qZ3];constructor<;>omega
     . simp only[qZ7,IV]
       cases (op==14&&decide (a<b))||(op==15&&a==b)<;>simp only[qZ7,qZ3]<;>constructor<;>omega
   . simp only[qZ7,Hf]
     cases decide (b>31)<;>simp only[qZ7,qZ3]
     . cases op==12<;>simp only[qZ7,qZ3]
       . have hp:(0:Int)<2^(min b.toNat IntKind.u32.bits):=Int.pow_pos Ab;rw[Int.fdiv_eq_ediv_of_nonneg _ (Int.le_of_lt hp)];refine⟨Int.ediv_nonneg ha.1 (Int.le_of_lt hp),?_⟩;have:=Int.ediv_le_self (2^(min b.toNat IntKind.u32.bits)) ha.1;have:=ha.2;omega
       . exact Gp _
     . constructor<;>omega
 . simp only[qZ7,GT]
   cases hz:b==0<;>simp only[qZ7,qZ3]
   . cases op==7<;>simp only[qZ7,qZ3]
     . rw[Int.tmod_eq_emod_of_nonneg ha.1];have hb0:b≠0:=by simpa using hz
       refine⟨Int.emod_nonneg _ hb0,?_⟩;have:=Int.emod_lt_of_pos a (show 0<b by have:=hb.1;omega);have:=hb.2;omega
     . exact Gp _
   . constructor<;>omega
abbrev Di:=List (Int×Int)
def nm(K:Di):Hd:=K.map fun p=>(p.1,AV.int .u32 p.2)
def pget(z:Int):Di->Option Int
  | []=>none
  |(k,v)::r=>bif z==k then some v else pget z r
def LB(z v:Int):Di->Di
  | []=>[(z,v)]
  |(k,u)::r=>bif z==k then(k,v)::r else(k,u)::LB z v r
def LC(z:Int):Di->Di
  | []=>[]
  |(k,u)::r=>bif z==k then r else(k,u)::LC z r
theorem dt(z:Int):∀K:Di,gt z (nm K)=(pget z K).map (AV.int .u32)
 | []=>rfl
 |(k,v)::r=>by
  have ih:=dt z r;unfold gt at ih|-;simp only[nm,qQ0,G7,pget]
  cases z==k with
  |true=>rfl
  |false=>
   simp only[qZ3,Option.map_map];rw[<-ih];rfl
theorem dp(z v:Int):∀K:Di,Ml z (.int .u32 v) (nm K)=nm (LB z v K)
 | []=>rfl
 |(k,u)::r=>by
  have ih:=dp z v r;simp only[nm,qQ0,Ml,LB]at ih|-
  grind
theorem dv(z:Int):∀K:Di,Ox z (nm K)=nm (LC z K)
 | []=>rfl
 |(k,u)::r=>by
  have ih:=dv z r;simp only[nm,qQ0,Ox,LC]at ih|-
  grind
def NJ(K:Di):Prop:=∀p∈K,FY p.2
theorem EB:FY 0:=by constructor<;>omega
theorem V0{K:Di}(h:NJ K)(z:Int):FY ((pget z K).getD 0):=by
 induction K with
 |nil=>exact EB
 |cons p r ih=>
  unfold pget
  cases z==p.1 with
  |true=>exact h p Aq
  |false=>exact ih fun q hq=>h q (by simp[hq])
variable {v : Int}
theorem vF{K:Di}(h:NJ K)(z:Int)(hv:FY v):NJ (LB z v K):=by
 induction K with
 |nil=>intro p hp;simp[LB]at hp;subst hp;exact hv
 |cons p r ih=>
  unfold LB
  cases z==p.1 with
  |true=>
   intro q hq;simp only[qZ7,q99]at hq;rcases hq with rfl|hq
   . exact hv
   . exact h q (by simp[hq])
  |false=>
   intro q hq;exact ss
theorem vG{K:Di}(h:NJ K)(z:Int):NJ (LC z K):=by
 induction K with
 |nil=>exact h
 |cons p r ih=>
  unfold LC
  cases z==p.1 with
  |true=>exact fun q hq=>h q (by simp only[qZ7]at hq;simp[hq])
  |false=>
   intro q hq;exact ss
variable {o : Oper} {e : A3} {h : Aj}
variable {b : Nat} {z : Int} {kt et : TypeId}
theorem Oc(hT:Dz P T){x y:Operand}{K:Di}(ho:o.op=.lookup t x y true)(hx:At e x=some (.map b))(hy:At e y=some (.int .i64 z))(hb:h b=some (.map (kvs .i64 (nm K))))
 (hi:T t=some i) (hk:i.k=.map kt et) (hj:T kt=some j) (hjk:j.k=.int .i64) (hz:(P.info? et).bind (·.zero)=some (.int .u32 0)):QLoc P o e h [b] (.tup [.int .u32 ((pget z K).getD 0),.bool (pget z K).isSome]):=by
 have:=Z9 hT ho hx hy hb hi hk hj hjk hz (z0:=.int .u32 0) rfl;rw[dt]at this
 cases e:pget z K<;>rw[e]at this<;>exact this
theorem V3(hT:Dz P T){x y u:Operand}{K:Di}(ho:o.op=.mapUpdate t x y u)(hd:o.dst=none)(hx:At e x=some (.map b))(hy:At e y=some (.int .i64 z))(hu:At e u=some (.int .u32 v))
 (hb:h b=some (.map (kvs .i64 (nm K)))) (hi:T t=some i) (hk:i.k=.map kt et) (hj:T kt=some j) (hjk:j.k=.int .i64):OLoc P o e h [b] [(b,.map (kvs .i64 (nm (LB z v K))))] none:=by
 have:=Kv hT ho hd hx hy hu rfl hb hi hk hj hjk;rwa[dp]at this
theorem f0(hT:Dz P T){tk:TypeId}{x y:Operand}{K:Di}(ho:o.op=.call {callee:=.builtin .delete,args:= #[x,y],argTypes:= #[t,tk]})(hd:o.dst=none)(hx:At e x=some (.map b))(hy:At e y=some (.int .i64 z))
 (hb:h b=some (.map (kvs .i64 (nm K)))) (hi:T t=some i) (hk:i.k=.map kt et) (hj:T kt=some j) (hjk:j.k=.int .i64):OLoc P o e h [b] [(b,.map (kvs .i64 (nm (LC z K))))] none:=by
 have:=XS hT ho hd hx hy hb hi hk hj hjk;rwa[dv]at this
variable {z : List AV}
theorem CH{F:List α}{f:α->List AV}{n:Nat}(hF:F.length=n)(hk:k<n):((F.take k).map f++List.replicate (n-k) z)[0+((k:Nat):Int).toNat]?=some z:=by
 grind
theorem Ct{F:List α}{f:α->List AV}{n:Nat}{x:α}(hF:F.length=n)(hx:F[k]?=some x):((F.take k).map f++List.replicate (n-k) z).set (0+((k:Nat):Int).toNat) (f x)=(F.take (k+1)).map f++List.replicate (n-(k+1)) z:=by
 have hk:k<n:=by rw[<-hF];exact(q05.1 hx).1
 have hl:((F.take k).map f).length=k:=by simp;omega
 rw[q55,qQ8,List.set_append,qZ9 Ab,hl,Nat.sub_self,AT hx,q77,q63];congr 1;obtain⟨m,hm⟩:∃m,n-k=m+1:=⟨n-k-1,by omega⟩
 have hm2:n-(k+1)=m:=by omega
 rw[hm,hm2];rfl
theorem AL{F:List α}{f:α->List AV}{n:Nat}(hF:F.length=n)(hk:k<=n):n=((F.take k).map f++List.replicate (n-k) z).length:=by
 simp;omega
theorem Dg{F:List α}{f:α->List AV}{n:Nat}(hF:F.length=n)(hk:n<=k):((((F.take k).map f++List.replicate (n-k) z).drop 0).take n)=F.map f:=by
 rw[Nat.sub_eq_zero_of_le hk,q95,List.replicate_zero,q91,q20 Em,q20 Ab]
def Dw(t:Tac)(K:Di):Int×Bool:=
  bif t.op==2 then((pget t.a K).getD 0,(pget t.a K).isSome)
  else bif t.op==3 then bif (pget t.a K).isSome&&(pget t.b K).isSome then((Cp t.k ((pget t.a K).getD 0) ((pget t.b K).getD 0)).1,(Cp t.k ((pget t.a K).getD 0) ((pget t.b K).getD 0)).2==0)else(0,false)
  else(0,false)
def KD(d n:Int):Tac:=⟨1,d,0,0,0,0,0,n⟩
def Dm(K:Di)(t:Tac):Tac:=bif (Dw t K).2 then KD t.d (Dw t K).1 else t
def Hv(K:Di)(t:Tac):Di:=bif decide (t.sets<0)then K else bif t.op==1 then LB t.sets t.n K else LC t.sets K
def D4(K:Di):List Tac->List Tac
  | []=>[]
  |t::r=>Dm K t::D4 (Hv K (Dm K t)) r
def J4(l:List Tac)(k:Nat):Di:=(l.take k).foldl (fun K t=>Hv K (Dm K t)) []
theorem Cs:∀(l:List Tac) (K:Di),(D4 K l).length=l.length
 | [],_=>rfl
 |t::r,K=>by simp only[D4,q70,Cs r]
theorem KE:∀(l:List Tac) (K:Di) {k:Nat} {x:Tac},l[k]?=some x->(D4 K l)[k]?=some (Dm ((l.take k).foldl (fun K t=>Hv K (Dm K t)) K) x)
 | [],_,_,_,h=>by simp at h
 |t::r,K,0,x,h=>by simp at h;subst h;rfl
 |t::r,K,k+1,x,h=>by
  simp only[q17]at h;simp only[D4,q17,List.take_succ_cons,q85];exact KE r _ h
variable {l : List Tac}
theorem bb{x:Tac}(h:l[k]?=some x):J4 l (k+1)=Hv (J4 l k) (Dm (J4 l k) x):=by
 unfold J4;rw[AT h,List.foldl_append];rfl
def GL(l:List Tac):Prop:=∀t∈l,FY t.n
theorem m9{t:Tac}{K:Di}(h:NJ K):FY (Dw t K).1:=by
 unfold Dw
 cases t.op==2 with
 |true=>exact V0 h _
 |false=>
  cases t.op==3 with
  |false=>exact EB
  |true=>
   simp only[qZ7,qZ3]
   cases (pget t.a K).isSome&&(pget t.b K).isSome with
   |false=>exact EB
   |true=>exact HF (V0 h _) (V0 h _)
theorem dF{t:Tac}{K:Di}(h:NJ K)(ht:FY t.n):FY (Dm K t).n:=by
 unfold Dm
 cases (Dw t K).2 with
 |true=>exact m9 h
 |false=>exact ht
theorem qG{t:Tac}{K:Di}(h:NJ K)(ht:FY t.n):NJ (Hv K t):=by
 unfold Hv
 cases decide (t.sets<0)with
 |true=>exact h
 |false=>
  cases t.op==1 with
  |true=>exact vF h _ ht
  |false=>exact vG h _
theorem dI(hl:GL l):∀k,NJ (J4 l k):=by
 intro k;unfold J4;have:∀(m:List Tac) (K:Di),(∀t∈m,FY t.n)->NJ K->NJ (m.foldl (fun K t=>Hv K (Dm K t)) K):=by
  intro m
  induction m with
  |nil=>exact fun K _ h=>h
  |cons t r ih=>exact fun K hm hK=>ih _ (fun u hu=>hm u IR) (qG hK (dF hK (hm t Aq)))
 grind[GL,NJ,J4]
def Block.fold(b:Block):Block:={b with ins:=D4 [] b.ins}
def BFunc.fold(f:BFunc):BFunc:={f with blocks:=f.blocks.map Block.fold}
def BFunc.mild(f:BFunc):Prop:=0<=f.regs/\f.regs<=100000/\f.blocks.length<=100000/\∀x∈f.blocks,x.ins.length<=100000/\GL x.ins
def Bn(b:Bool):List AV:=[.bool b]
def D3(r:List Bool):List AV:=[Co r]
def BFunc.all(f:BFunc):Cert:=⟨List.replicate f.blocks.length (List.replicate f.regs.toNat true)⟩
end Go.Proofs.YtbbfelelocccmaaGreat.Sv
namespace Go.Proofs.YtbbfelelocccmaaGreat.Sv
open Go Go.ChangeShapes Go.WideShapes Go.ChangeAt Go.RowKit
def Yj(n:Int):Prop:= -9223372036854775808<=n/\n<=9223372036854775807
theorem EL{n:Int}(h:(Lit.int .i64 n).wf=true):Yj n:=by
 simpa[Lit.wf,IntKind.min,IntKind.max,IntKind.signed,IntKind.bits,Yj]using h
theorem uX{n:Int}(h:(Lit.int .u32 n).wf=true):FY n:=by
 simp[Lit.wf,IntKind.min,IntKind.max,IntKind.signed,IntKind.bits]at h;exact⟨h.1,by omega⟩
structure Tac.Ok(t:Tac):Prop where
  op:Yj t.op
  d:Yj t.d
  a:Yj t.a
  b:Yj t.b
  k:Yj t.k
  base:Yj t.base
  size:Yj t.size
  n:FY t.n
structure Block.Ok(x:Block):Prop where
  len:x.ins.length*64<=reachBytes
  ins:∀t∈x.ins,t.Ok
  fin:Yj x.fin
  v:Yj x.v
  to:Yj x.to
  els:Yj x.els
structure BFunc.Ok(f:BFunc):Prop where
  regs:Yj f.regs
  len:f.blocks.length*56<=reachBytes
  blocks:∀x∈f.blocks,x.Ok
structure Blocks.Ok(b:Blocks):Prop where
  words:Yj b.words
  len:b.funcs.length*32<=reachBytes
  funcs:∀f∈b.funcs,f.Ok
variable {f : BFunc}
theorem BFunc.Ok.insW(h:f.Ok){x:Block}(hx:x∈f.blocks):GL x.ins:=fun t ht=>((h.blocks x hx).ins t ht).n
variable {H : Type} {enc : TypeId × Value -> H} {P : Program} {W : World} {T : Nat -> Option AC}
theorem In{cs:List Value}{off u:Nat}{xs ys:List AV}{j:AC}(hT:Dz P T)(hj:T u=some j){n:Nat}(hn:j.size=n)(h1:Reads W (cs.take off) xs)(h2:Reads W ((cs.drop off).take (P.cellsOf u)) ys)(ho:off<=cs.length):Reads W (cs.take (off+n)) (xs++ys):=by
 rw[Ig hT hj,hn]at h2;exact h1.app h2 ho
theorem qP{t p q:Nat}(hT:Dz P T){i j1 j2:AC}(hi:T t=some i)(hk:i.k=.struct [(0,p),(1,p),(2,p),(3,p),(4,p),(5,p),(6,p),(7,q)])(hs:i.size=8)(h1:T p=some j1)(k1:j1.k=.int .i64)(s1:j1.size=1)(h2:T q=some j2)(k2:j2.k=.int .u32)(s2:j2.size=1):
 Dec enc P W t Tac.cells Tac.Ok:=fun fuel cs x h hw=>by
 obtain⟨hl,hp⟩:=MR hT hi hk h hw;rw[hs]at hl;obtain⟨x0,a0,b0⟩:=hp 0 _ _ rfl (CK hT h1 k1);obtain⟨x1,a1,b1⟩:=hp 1 _ _ rfl (CK hT h1 k1);obtain⟨x2,a2,b2⟩:=hp 2 _ _ rfl (CK hT h1 k1);obtain⟨x3,a3,b3⟩:=hp 3 _ _ rfl (CK hT h1 k1);obtain⟨x4,a4,b4⟩:=hp 4 _ _ rfl (CK hT h1 k1);obtain⟨x5,a5,b5⟩:=hp 5 _ _ rfl (CK hT h1 k1);obtain⟨x6,a6,b6⟩:=hp 6 _ _ rfl (CK hT h1 k1);obtain⟨x7,a7,b7⟩:=hp 7 _ _ rfl (CK hT h2 k2);have c0:=In hT h1 s1 (Reads.nil W cs) a0 Ab;have c1:=In hT h1 s1 c0 a1 Ab;have c2:=In hT h1 s1 c1 a2 Ab;have c3:=In hT h1 s1 c2 a3 Ab;have c4:=In hT h1 s1 c3 a4 Ab;have c5:=In hT h1 s1 c4 a5 Ab;have c6:=In hT h1 s1 c5 a6 Ab;have c7:=In hT h2 s2 c6 a7 Ab;exact⟨⟨x0,x1,x2,x3,x4,x5,x6,x7⟩,c7.all hl,⟨EL b0,EL b1,EL b2,EL b3,EL b4,EL b5,EL b6,uX b7⟩⟩
theorem ia{t p s u:Nat}(hT:Dz P T){i j1 j2 j3:AC}(hi:T t=some i)(hk:i.k=.struct [(0,s),(1,p),(2,p),(3,p),(4,p)])(hs:i.size=5)(h1:T p=some j1)(k1:j1.k=.int .i64)(s1:j1.size=1)
 (h2:T s=some j2) (k2:j2.k=.slice u) (s2:j2.size=1) (h3:T u=some j3) (s3:j3.size=8) (b3:j3.bytes=64) (hd:Dec enc P W u Tac.cells Tac.Ok):
 Dec enc P W t Block.cells Block.Ok:=fun fuel cs x h hw=>by
 obtain⟨hl,hp⟩:=MR hT hi hk h hw;rw[hs]at hl;obtain⟨x0,a0,b0⟩:=hp 0 _ _ rfl (Dec.slice' hT h2 k2 h3 Ab hd);obtain⟨x1,a1,b1⟩:=hp 1 _ _ rfl (CK hT h1 k1);obtain⟨x2,a2,b2⟩:=hp 2 _ _ rfl (CK hT h1 k1);obtain⟨x3,a3,b3'⟩:=hp 3 _ _ rfl (CK hT h1 k1);obtain⟨x4,a4,b4⟩:=hp 4 _ _ rfl (CK hT h1 k1);have c0:=In hT h2 s2 (Reads.nil W cs) a0 Ab;have c1:=In hT h1 s1 c0 a1 Ab;have c2:=In hT h1 s1 c1 a2 Ab;have c3:=In hT h1 s1 c2 a3 Ab;have c4:=In hT h1 s1 c3 a4 Ab;rw[b3]at b0;exact⟨⟨x0,x1,x2,x3,x4⟩,c4.all hl,⟨b0.1,b0.2,EL b1,EL b2,EL b3',EL b4⟩⟩
theorem HY{b:Blocks}(h:b.right=true):0<=b.words/\b.words<=1048576/\b.funcs≠[]/\∀(i:Nat) (f:BFunc),b.funcs[i]?=some f->f.one (i:Int) b.words=true:=by
 simp only[Blocks.right,q66,q56,q61,q10]at h;exact⟨h.1,h.2.1,h.2.2.1,fun i f hf=>q67.1 h.2.2.2 (f,i) (q33 (BG hf))⟩
theorem CR{i w:Int}(h:f.one i w=true):0<=f.regs/\f.regs<=4000/\f.blocks≠[]/\∀x∈f.blocks,x.ends f.blocks.length f.regs=true/\∀t∈x.ins,t.fits i f.regs w=true:=by
 simp only[BFunc.one,q66,q56,q61,q10]at h;refine⟨h.1,h.2.1,h.2.2.1,fun x hx=>?_⟩;have:=q67.1 h.2.2.2 x hx;simp only[Block.ok,q66]at this;exact⟨this.1,fun t ht=>q67.1 this.2 t ht⟩
theorem RU{α:Type}{p:α->Nat}:∀{l:List α} {x:α},x∈l->p x<=(l.map p).sum
 |y::l,x,h=>by
  rcases q99.1 h with rfl|h
  . simp
  . have:=RU (p:=p) h;simp;omega
end Go.Proofs.YtbbfelelocccmaaGreat.Sv
namespace Go.Proofs.YtbbfelelocccmaaGreat
open Go.ChangeShapes Go.WideShapes Go.ChangeAt Go.RowKit Sv
theorem own':ownKnob Tryz.prog.godebug=none:=by kernel_rfl
theorem laidOut':laidOutB Tryz.prog=true:=by kernel_rfl
theorem bool':Tryz.prog.underlying 4=some .bool:=by kernel_rfl
theorem okWide_cell{P:Program}{W:World}{T:Nat->Option AC}{t u b0:Nat}{v:Value}{i:AC}(hT:Dz P T)(hi:T t=some i)(hk:i.k=.slice u)(h:Value.okWide P W .any b0 t v):∀cs,v≠ .agg cs:=by
 obtain⟨info,d,e1,e2,e3,e4,e5,e6⟩:=Am (hT _ _ hi);have hd:=Cc (P:=P) (d:=d) (e3▸hk);subst hd;obtain⟨a,len,cap,rfl⟩:=okWide_slice e2 h;intro cs h
 cases h
variable {H : Type} {enc : TypeId × Value -> H} {W : World}
theorem decTac:Dec enc Tryz.prog W 91 Tac.cells Tac.Ok:=qP Ah rfl rfl rfl rfl rfl rfl rfl rfl rfl
theorem decBlock:Dec enc Tryz.prog W 80 Block.cells Block.Ok:=ia Ah rfl rfl rfl rfl rfl rfl rfl rfl rfl rfl rfl rfl decTac
end Go.Proofs.YtbbfelelocccmaaGreat
namespace Go.Proofs.YtbbfelelocccmaaGreat.Sv
open Go
def valB:List Nat->Nat
  | []=>0
  |b::r=>b+2*valB r
theorem MH:∀(l:List Nat) (j:Nat),(∀b∈l,b<2)->(valB l).testBit j=((l[j]?).getD 0==1)
 | [],j,_=>by simp[valB]
 |b::r,0,h=>by
  have hb:=h b Aq
  grind[valB]
 |b::r,j+1,h=>by
  have hb:=h b Aq;have ih:=MH r j (fun c hc=>h c (by simp[hc]))
  grind[valB]
theorem cq:∀(l:List Nat),(∀b∈l,b<2)->valB l<2^l.length
 | [],_=>by simp[valB]
 |b::r,h=>by
  have hb:=h b Aq;have ih:=cq r (fun c hc=>h c (by simp[hc]))
  grind[valB]
def FI(n k:Nat):List Nat:=(List.range k).map fun i=>n/2^i%2
variable {i : Nat}
theorem OT{n k:Nat}(h:i<k):(FI n k)[i]?=some (n/2^i%2):=by
 simp[FI,h]
def iu(op:Int)(x y:Nat):Nat:=bif (x+y==2&&op !=11)||(!(x+y==2&&op !=11)&&(x+y==1&&op !=9))then 1 else 0
def Gw(op:Int)(a b:Nat):List Nat:=(List.range 32).map fun i=>iu op (a/2^i%2) (b/2^i%2)
theorem n5(op:Int)(x y:Nat):iu op x y<2:=by
 grind[iu]
theorem FP(n i:Nat):n.testBit i=(n/2^i%2==1):=by
 grind
variable {b a : Nat} {op : Int}
theorem IQ{j:Nat}:(valB (Gw op a b)).testBit j=(decide (j<32)&&(iu op (a/2^j%2) (b/2^j%2)==1)):=by
 grind[MH,Gw,n5,valB,iu]
theorem n3(ha:a<2^32)(hb:b<2^32):valB (Gw 9 a b)=a&&&b:=by
 apply Nat.eq_of_testBit_eq;intro j;rw[IQ,Nat.testBit_and,FP a,FP b]
 by_cases hj:j<32
 . rcases(by omega:a/2^j%2=0\/a/2^j%2=1)with h1|h1<;>rcases(by omega:b/2^j%2=0\/b/2^j%2=1)with h2|h2<;>simp[h1,h2,hj,iu]
 . have:a/2^j=0:=Nat.div_eq_of_lt (q51 ha (Nat.pow_le_pow_right Al Ab));simp[hj,this]
theorem qV(ha:a<2^32)(hb:b<2^32):valB (Gw 10 a b)=a|||b:=by
 apply Nat.eq_of_testBit_eq;intro j;rw[IQ,Nat.testBit_or,FP a,FP b];exact tK
theorem nZ(ha:a<2^32)(hb:b<2^32):valB (Gw 11 a b)=a^^^b:=by
 apply Nat.eq_of_testBit_eq;intro j;rw[IQ,Nat.testBit_xor,FP a,FP b];exact tK
variable {a : Int}
theorem Lg(h:FY a):BitVec.ofInt IntKind.u32.bits a=BitVec.ofNat 32 a.toNat:=by
 obtain⟨h1,h2⟩:=h;obtain⟨n,rfl⟩:=Int.eq_ofNat_of_zero_le h1;show BitVec.ofInt 32 (n:Int)=_
 grind
theorem uW{n:Nat}(h:n<2^32):IntKind.u32.wrap (n:Int)=(n:Int):=by
 rw[q75];omega
theorem mn(h:FY a):a.toNat<2^32:=by
 grind[FY]
theorem ip{b:Int}(ha:FY a)(hb:FY b)(ho:op=9\/op=10\/op=11):Cp op a b=((valB (Gw op a.toNat b.toNat):Int),0):=by
 have h1:=mn ha;have h2:=mn hb;have e1:(BitVec.ofNat 32 a.toNat).toNat=a.toNat:=by rw[BitVec.toNat_ofNat];omega
 have e2:(BitVec.ofNat 32 b.toNat).toNat=b.toNat:=by rw[BitVec.toNat_ofNat];omega
 rcases ho with rfl|rfl|rfl
 . have:Cp 9 a b=(IntKind.u32.wrap ((BitVec.ofInt IntKind.u32.bits a&&&BitVec.ofInt IntKind.u32.bits b).toNat),0):=rfl;rw[this,Lg ha,Lg hb,n3 h1 h2];have h3:(BitVec.ofNat 32 a.toNat&&&BitVec.ofNat 32 b.toNat).toNat=a.toNat&&&b.toNat:=by rw[BitVec.toNat_and,e1,e2]
   exact iQ
 . have:Cp 10 a b=(IntKind.u32.wrap ((BitVec.ofInt IntKind.u32.bits a|||BitVec.ofInt IntKind.u32.bits b).toNat),0):=rfl;rw[this,Lg ha,Lg hb,qV h1 h2];have h3:(BitVec.ofNat 32 a.toNat|||BitVec.ofNat 32 b.toNat).toNat=a.toNat|||b.toNat:=by rw[BitVec.toNat_or,e1,e2]
   exact iQ
 . have:Cp 11 a b=(IntKind.u32.wrap ((BitVec.ofInt IntKind.u32.bits a^^^BitVec.ofInt IntKind.u32.bits b).toNat),0):=rfl;rw[this,Lg ha,Lg hb,nZ h1 h2];have h3:(BitVec.ofNat 32 a.toNat^^^BitVec.ofNat 32 b.toNat).toNat=a.toNat^^^b.toNat:=by rw[BitVec.toNat_xor,e1,e2]
   exact iQ
def shN(op:Int):Nat->Nat->Nat
  |n,0=>n
  |n,k+1=>bif op==12 then 2*shN op n k%4294967296 else shN op n k/2
theorem VB{op:Int}{n:Nat}(h:n<4294967296):∀k,shN op n k<4294967296
 |0=>h
 |k+1=>by
  unfold shN;have:=VB (op:=op) h k
  grind
theorem cK{n:Nat}:∀k,shN 12 n k%4294967296=n*2^k%4294967296
 |0=>by simp[shN]
 |k+1=>by
  have ih:=cK (n:=n) k;have e:shN 12 n (k+1)=2*shN 12 n k%4294967296:=rfl;rw[e,Nat.mod_mod,Nat.mul_mod,ih,<-Nat.mul_mod,Nat.pow_succ]
  grind
theorem cJ{op:Int}(ho:(op==12)=false){n:Nat}:∀k,shN op n k=n/2^k
 |0=>by simp[shN]
 |k+1=>by
  have ih:=cJ ho (n:=n) k;have e:shN op n (k+1)=shN op n k/2:=by rw[shN,ho];rfl
  rw[e,ih,Nat.div_div_eq_div_mul,Nat.pow_succ]
theorem ZR{b:Int}(ha:FY a)(hb:0<=b)(hb2:¬b>31)(ho:op=12\/op=13):Hf op a b=((shN op a.toNat b.toNat:Nat):Int):=by
 have h1:=mn ha;have hd:decide (b>31)=false:=by simpa using hb2
 have hmin:min b.toNat IntKind.u32.bits=b.toNat:=by
  show min b.toNat 32=b.toNat;omega
 obtain⟨n,rfl⟩:=Int.eq_ofNat_of_zero_le ha.1;unfold Hf;rw[hd,hmin];simp only[qZ3,q55];rcases ho with rfl|rfl
 . have h3:=cK (n:=n) b.toNat;have h4:=VB (op:=12) (n:=n) JX b.toNat;show IntKind.u32.wrap ((n:Int)*2^b.toNat)=_;rw[Nat.mod_eq_of_lt h4]at h3;rw[h3,q75,Int.natCast_emod,Int.natCast_mul,Int.natCast_pow];rfl
 . rw[cJ (by rfl)];show Int.fdiv (n:Int) (2^b.toNat)=_;have hp:(0:Int)<=2^b.toNat:=Int.le_of_lt (Int.pow_pos Ab);rw[Int.fdiv_eq_ediv_of_nonneg _ hp,Int.natCast_ediv,Int.natCast_pow];rfl
theorem KW{n:Nat}(h:n<9223372036854775808):IntKind.i64.wrap (n:Int)=(n:Int):=B8 Ab Ab
theorem C6{n:Nat}(h:n<18446744073709551616):IntKind.u64.wrap (n:Int)=(n:Int):=by
 rw[IntKind.wrap_u64];omega
theorem EG{n:Nat}(h:n<4294967296):IntKind.u32.wrap (n:Int)=(n:Int):=by
 rw[q75];omega
variable {k : IntKind} {a : Nat}
theorem G9(hb:0<b):A8 .rem (.int k (a:Int)) (.int k (b:Int))=some (.int k ((a%b:Nat):Int)):=by
 have h0:¬(b:Int)=0:=by omega
 simp only[A8,BP,isShift,qZ3,qZ8,qZ9 h0];rw[Int.tmod_eq_emod_of_nonneg Ab,Int.natCast_emod]
theorem NB(hb:0<b)(hw:k.wrap ((a/b:Nat):Int)=((a/b:Nat):Int)):A8 .quo (.int k (a:Int)) (.int k (b:Int))=some (.int k ((a/b:Nat):Int)):=by
 have h0:¬(b:Int)=0:=by omega
 simp only[A8,BP,isShift,qZ3,qZ8,qZ9 h0];rw[Int.tdiv_eq_ediv_of_nonneg Ab,<-Int.natCast_ediv,hw]
theorem Jk(hw:k.wrap ((a+b:Nat):Int)=((a+b:Nat):Int)):A8 .add (.int k (a:Int)) (.int k (b:Int))=some (.int k ((a+b:Nat):Int)):=by
 simp only[A8,BP,isShift,qZ3,qZ8];rw[<-Int.natCast_add,hw]
theorem Sj(hw:k.wrap ((a*b:Nat):Int)=((a*b:Nat):Int)):A8 .mul (.int k (a:Int)) (.int k (b:Int))=some (.int k ((a*b:Nat):Int)):=by
 simp only[A8,BP,isShift,qZ3,qZ8];rw[<-Int.natCast_mul,hw]
variable {P : Program} {T : Nat -> Option AC} {o : Oper} {e : A3} {h : Aj}
variable {k' : IntKind}
theorem Dc(hT:Dz P T){t u:TypeId}{x:Operand}{n:Int}{i j:AC}(ho:o.op=.convert t u x)(hx:At e x=some (.int k' n))(hi:T t=some i)(hj:T u=some j)(hk:j.k=.int k)(hw:k.wrap n=n):QLoc P o e h [] (.int k n):=by
 have:=Oe (h:=h) hT ho hx hi hj hk;rwa[hw]at this
def By(l:List Nat):List (List AV):=l.map fun(b:Nat)=>[AV.int .i64 (b:Int)]
theorem bs(n k:Nat):FI n (k+1)=FI n k++[n/2^k%2]:=by
 simp[FI,q79]
theorem DQ(n k:Nat):(FI n k).length=k:=by simp[FI]
variable {l : List Nat}
theorem eL(h:l[i]?=some b):valB (l.drop i)=b+2*valB (l.drop (i+1)):=by
 have hi:i<l.length:=(q05.1 h).1;rw[q07 hi];have:l[i]=b:=by rw[q13 hi]at h;cases h;rfl
 rw[this];rfl
def KA(op:Int)(a b i:Nat):List Nat:=(Gw op a b).take i++(FI a 32).drop i
theorem Fm(op:Int)(a b:Nat):(Gw op a b).length=32:=by simp[Gw]
theorem Pr(h:i<=32):(KA op a b i).length=32:=by
 simp[KA,Fm,DQ];omega
theorem Rz(h:i<32):(KA op a b i)[i]?=some (a/2^i%2):=by
 have hl:((Gw op a b).take i).length=i:=by simp[Fm];omega
 rw[KA,q02 Ab,hl,Nat.sub_self,q49,qX5,OT h]
theorem Ut(h:i<32):KA op a b (i+1)=(KA op a b i).set i (iu op (a/2^i%2) (b/2^i%2)):=by
 have hl:((Gw op a b).take i).length=i:=by simp[Fm];omega
 have hg:(Gw op a b)[i]?=some (iu op (a/2^i%2) (b/2^i%2)):=by simp[Gw,h]
 have hd:(FI a 32).drop i=(a/2^i%2)::(FI a 32).drop (i+1):=by
  have hi:i<(FI a 32).length:=by rw[DQ];exact h
  rw[q07 hi];congr 1;have:=OT (n:=a) h;rw[q13 hi]at this;exact q86 this
 unfold KA;rw[List.set_append,qZ9 Ab,hl,Nat.sub_self,AT hg,q63,hd];rfl
variable {α : Type}
theorem Ym{l:List α}{f:α->List AV}{n:Int}{x:α}(h:l[n.toNat]?=some x):(l.map f)[n.toNat]?=some (f x):=by
 rw[q54,h];rfl
theorem gH{f:BFunc}(h:f.mild):f.fold.mild:=by
 refine⟨h.1,h.2.1,by simp only[BFunc.fold,q76];exact h.2.2.1,fun y hy=>?_⟩;simp only[BFunc.fold,qX3]at hy;obtain⟨x,hx,rfl⟩:=hy;obtain⟨h1,h2⟩:=h.2.2.2 x hx;refine⟨by simp only[Block.fold,Cs];exact h1,fun t ht=>?_⟩;simp only[Block.fold]at ht;obtain⟨i,hi⟩:=q27.1 ht;have hlt:i<x.ins.length:=by rw[<-Cs x.ins []];exact(q05.1 hi).1
 rw[KE x.ins [] (q13 hlt)]at hi
 cases hi
 exact dF (dI h2 i) (h2 _ (List.getElem_mem hlt))
theorem Ghost.freezeAll{n:Nat}(t b:Nat){m sz:Nat}{es:List (List AV)}(ht:e t=some (.ref b m 0 m))(hb:h b=some (.row true sz es))(hm:m=es.length):
 Ghost ⟨n,e,h⟩ ⟨n,Aa e t (.lst false es),hrm h b⟩:=by
 exact i8
theorem nv(hba:b<=a)(hw:k.wrap ((a-b:Nat):Int)=((a-b:Nat):Int)):A8 .sub (.int k (a:Int)) (.int k (b:Int))=some (.int k ((a-b:Nat):Int)):=by
 grind[A8,BP,isShift]
theorem HC(h:l[i]?=some b):(By l)[0+((i:Nat):Int).toNat]?=some [AV.int .i64 (b:Int)]:=by
 grind[By]
theorem Ns{l:List α}{x y:α}(h:l[i]?=some x):(l.set i y)[i]?=some y:=by
 grind
theorem DN(l:List Nat):(By l).length=l.length:=by simp[By]
theorem PM(l:List Nat)(b:Nat):By (l++[b])=By l++[[AV.int .i64 (b:Int)]]:=by simp[By]
theorem Nj(l:List Nat)(i b:Nat):(By l).set i [AV.int .i64 (b:Int)]=By (l.set i b):=by simp[By,List.map_set]
theorem YR(a k:Nat):By (FI a k)++[[AV.int .i64 ((a/2^k%2:Nat):Int)]]=By (FI a (k+1)):=by
 rw[bs,PM]
theorem MI(hl:l.length=32)(hb:∀b∈l,b<2)(m:Nat):valB (l.drop m)<4294967296:=by
 have h:=cq (l.drop m) (fun b h=>hb b (List.mem_of_mem_drop h));have:(2:Nat)^(l.drop m).length<=2^32:=Nat.pow_le_pow_right Al Em
 grind
theorem ir{k:Nat}(hk:k<32){c:List AV}(h:iu op (a/2^k%2) (b/2^k%2)=0):(By (KA op a b k)).set (0+((k:Nat):Int).toNat) [AV.int .i64 0]=By (KA op a b (k+1)):=by
 grind[Ut,Nj,iu,By,KA]
theorem iq{k:Nat}(hk:k<32){c:List AV}(h:iu op (a/2^k%2) (b/2^k%2)=1):((By (KA op a b k)).set (0+((k:Nat):Int).toNat) c).set (0+((k:Nat):Int).toNat) [AV.int .i64 1]=By (KA op a b (k+1)):=by
 rw[List.set_set,Ut hk,h,<-Nj,qQ8,q55];rfl
theorem gj(op:Int)(a b:Nat):KA op a b 0=FI a 32:=by simp[KA]
theorem mB(op:Int)(a b:Nat):KA op a b 32=Gw op a b:=by
 grind[Fm,DQ,KA,List.drop_eq_nil_of_le,Gw]
theorem n4(op:Int)(a b:Nat):∀c∈Gw op a b,c<2:=fun c hc=>by
 grind[Gw,n5]
theorem Wd(h:a<4294967296):FY (a:Int):=by constructor<;>omega
theorem jO(a b:Nat):Cp 4 a b=((((a+b)%4294967296:Nat):Int),0):=by
 show(IntKind.u32.wrap ((a:Int)+b),(0:Int))=_;rw[q75];rfl
theorem jJ(h:b<4294967296):Cp 5 a b=((((a+4294967296-b)%4294967296:Nat):Int),0):=by
 show(IntKind.u32.wrap ((a:Int)-b),(0:Int))=_;rw[q75];congr 1;omega
theorem jK(a b:Nat):Cp 6 a b=(((a*b%4294967296:Nat):Int),0):=by
 show(IntKind.u32.wrap ((a:Int)*b),(0:Int))=_;rw[q75,<-Int.natCast_mul];rfl
theorem eC(op a:Int)(h:op=7\/op=8):Cp op a 0=(0,14):=by
 rcases h with rfl|rfl<;>rfl
theorem jN(ha:a<4294967296)(h:¬b=0):Cp 7 a b=(((a/b:Nat):Int),0):=by
 show GT 7 a b=_;have hb:((b:Int)==0)=false:=by simp;omega
 unfold GT;rw[hb];show(IntKind.u32.wrap ((a:Int).tdiv b),(0:Int))=_;have h2:a/b<=a:=Nat.div_le_self a b;rw[Int.tdiv_eq_ediv_of_nonneg Ab,<-Int.natCast_ediv,EG Ab]
theorem jL(h:¬b=0):Cp 8 a b=(((a%b:Nat):Int),0):=by
 grind[GT,Cp]
theorem eD(ha:a<4294967296)(hb:b<4294967296)(ho:op=9\/op=10\/op=11):Cp op a b=(((valB (Gw op a b):Nat):Int),0):=ip (Wd ha) (Wd hb) ho
theorem Zq(ho:op=12\/op=13):Cp op a b=(Hf op a b,0):=by
 grind[Cp,Hf]
theorem Zn(op:Int)(h:32<=b):Hf op a b=0:=by
 grind[Hf]
theorem Vl(ha:a<4294967296)(hb:b<32)(ho:op=12\/op=13):Hf op a b=(shN op a b:Nat):=ZR (Wd ha) Ab Ab ho
theorem pi(a b:Int):Cp 14 a b=(bif decide (a<b)then 1 else 0,0):=by
 grind[IV,Cp]
theorem pj(a b:Int):Cp 15 a b=(bif a==b then 1 else 0,0):=by
 grind[IV,Cp]
theorem Og(z y v:Int):∀K:Di,pget y (LB z v K)=bif y==z then some v else pget y K
 | []=>rfl
 |(k,u)::r=>by
  have ih:=Og z y v r;unfold LB
  cases hz:z==k with
  |true=>
   have hz':z=k:=by simpa using hz
   subst hz';simp only[qZ7,pget]
   cases y==z<;>rfl
  |false=>
   exact te
def GC(K:Di):Prop:=(K.map (·.1)).Nodup
theorem Ue{z:Int}:∀{K:Di},z∉K.map (·.1)->pget z K=none
 | [],_=>rfl
 |(k,u)::r,h=>by
  simp only[qQ0,q99,not_or]at h;unfold pget;rw[show(z==k)=false by simp;exact h.1];exact Ue h.2
theorem Oh(z y:Int):∀{K:Di},GC K->pget y (LC z K)=bif y==z then none else pget y K
 | [],_=>by simp[LC,pget]
 |(k,u)::r,h=>by
  unfold GC at h;simp only[qQ0,q93]at h;have ih:=Oh z y (K:=r) h.2;unfold LC
  cases hz:z==k with
  |true=>
   have hz':z=k:=by simpa using hz
   subst hz';simp only[qZ7,pget]
   cases hy:y==z with
   |true=>
    have hy':y=z:=by simpa using hy
    subst hy';simp only[qZ7];exact Ue h.1
   |false=>rfl
  |false=>
   exact te
theorem Uc{z v:Int}{y:Int}:∀{K:Di},y∈(LB z v K).map (·.1)->y=z\/y∈K.map (·.1)
 | [],h=>by simp[LB]at h;exact .inl h
 |(k,u)::r,h=>by
  unfold LB at h
  cases hz:z==k with
  |true=>rw[hz]at h;simp only[qZ7,qQ0,q99]at h|-;rcases h with h|h<;>simp[h]
  |false=>
   rw[hz]at h;simp only[qZ3,qQ0,q99]at h|-;rcases h with h|h
   . exact .inr (.inl h)
   . rcases Uc h with h|h
     . exact .inl h
     . exact .inr (.inr h)
theorem Uf{z:Int}{y:Int}:∀{K:Di},y∈(LC z K).map (·.1)->y∈K.map (·.1)
 | [],h=>by simp[LC]at h
 |(k,u)::r,h=>by
  unfold LC at h
  cases hz:z==k with
  |true=>rw[hz]at h;simp only[qZ7]at h;simp only[qQ0,q99];exact .inr h
  |false=>
   rw[hz]at h;simp only[qZ3,qQ0,q99]at h|-;rcases h with h|h
   . exact .inl h
   . exact .inr (Uf h)
theorem Qy{z v:Int}:∀{K:Di},GC K->GC (LB z v K)
 | [],_=>by simp[GC,LB]
 |(k,u)::r,h=>by
  unfold GC at h|-;simp only[qQ0,q93]at h;unfold LB
  cases hz:z==k with
  |true=>simp only[qZ7,qQ0,q93];exact h
  |false=>
   simp only[qZ3,qQ0,q93];refine⟨fun hm=>?_,Qy h.2⟩;rcases Uc hm with e|e
   . simp at hz;omega
   . exact h.1 e
theorem Qz{z:Int}:∀{K:Di},GC K->GC (LC z K)
 | [],_=>by simp[GC,LC]
 |(k,u)::r,h=>by
  unfold GC at h|-;simp only[qQ0,q93]at h;unfold LC
  cases hz:z==k with
  |true=>simp only[qZ7];exact h.2
  |false=>
   simp only[qZ3,qQ0,q93];exact⟨fun hm=>h.1 (Uf hm),Qz h.2⟩
theorem Pb{K:Di}(h:GC K)(t:Tac):GC (Hv K t):=by
 unfold Hv
 cases decide (t.sets<0)with
 |true=>exact h
 |false=>cases t.op==1 with
  |true=>exact Qy h
  |false=>exact Qz h
def Tac.inR(t:Tac)(regs:Int):Prop:=(setsOp t.op=true->0<=t.d/\t.d<regs)/\∀u∈t.uses,0<=u/\u<regs
theorem R8{t:Tac}{f regs words:Int}(h:t.fits f regs words=true):t.inR regs:=by
 simp only[Tac.fits,q66,q81,q61,q67,A2,q56]at h;refine⟨fun hs=>?_,fun u hu=>h.2.2.2.1 u hu⟩
 grind
structure Mach where
  words:List Int
  out:List UInt8
  read:Nat
  steps:Nat
  fin:Int
def Ai(l:List Int)(z:Int):Int:=(l[z.toNat]?).getD 0
def A4(l:List Int)(z v:Int):List Int:=l.set z.toNat v
def Sz(n:Int):UInt8:=UInt8.ofNat n.toNat
def Yl(s:ByteArray)(i:Nat):UInt8:=(s.data.toList[i]?).getD 0
def Bi(fuel:Int)(m:Mach):Bool×Mach:=bif decide ((m.steps:Int)>=fuel)then(false,{m with fin:=5})else(true,{m with steps:=m.steps+1})
def Bb(call:Int->Mach->Mach)(s:ByteArray)(t:Tac)(regs:List Int)(m:Mach):List Int×Mach:=
  bif t.op==1 then(A4 regs t.d t.n,m)
  else bif t.op==2 then(A4 regs t.d (Ai regs t.a),m)
  else bif t.op==3 then
    (bif (Cp t.k (Ai regs t.a) (Ai regs t.b)).2==0 then(A4 regs t.d (Cp t.k (Ai regs t.a) (Ai regs t.b)).1,m)else(regs,{m with fin:=2}))
  else bif t.op==4 then(A4 regs t.d (Ai m.words t.base),m)
  else bif t.op==5 then(regs,{m with words:=A4 m.words t.base (Ai regs t.a)})
  else bif t.op==6 then(bif decide (Ai regs t.a>=t.size)then(regs,{m with fin:=3})else(A4 regs t.d (Ai m.words (t.base+Ai regs t.a)),m))
  else bif t.op==7 then(bif decide (Ai regs t.a>=t.size)then(regs,{m with fin:=3})else(regs,{m with words:=A4 m.words (t.base+Ai regs t.a) (Ai regs t.b)}))
  else bif t.op==8 then(bif decide (m.read<s.size)then(A4 regs t.d ((Yl s m.read).toNat:Int),{m with read:=m.read+1})else(A4 regs t.d 256,m))
  else bif t.op==9 then(bif decide (m.out.length>=65536)then(regs,{m with fin:=4})else(regs,{m with out:=m.out++[Sz (Ai regs t.a)]}))
  else bif t.op==10 then(regs,call t.base m)
  else(regs,m)
def F7(call:Int->Mach->Mach)(s:ByteArray)(fuel:Int):List Tac->List Int->Mach->Bool×List Int×Mach
  | [],regs,m=>(true,regs,m)
  |t::r,regs,m=>
    bif (Bi fuel m).1 then
      (bif (Bb call s t regs (Bi fuel m).2).2.fin==0 then F7 call s fuel r (Bb call s t regs (Bi fuel m).2).1 (Bb call s t regs (Bi fuel m).2).2
       else(false,Bb call s t regs (Bi fuel m).2))
    else(false,regs,(Bi fuel m).2)
def Block.next(k:Block)(regs:List Int):Int:=bif k.fin==2&&Ai regs k.v==0 then k.els else k.to
def LG(call:Int->Mach->Mach)(s:ByteArray)(fuel:Int)(f:BFunc):Nat->Int->List Int->Mach->Mach
  |0,_,_,m=>m
  |g+1,i,regs,m=>
    match f.blocks[i.toNat]? with
    |none=>m
    |some k=>
      let p:=F7 call s fuel k.ins regs m
      bif p.1 then
        (bif (Bi fuel p.2.2).1&& !(k.fin==3)then LG call s fuel f g (k.next p.2.1) p.2.1 (Bi fuel p.2.2).2 else(Bi fuel p.2.2).2)
      else p.2.2
def LF(b:Blocks)(s:ByteArray)(fuel:Int):Nat->Int->Mach->Mach
  |0,_,m=>m
  |n+1,i,m=>
    match b.funcs[i.toNat]? with
    |none=>m
    |some f=>LG (LF b s fuel n) s fuel f (fuel.toNat+1) 0 (List.replicate f.regs.toNat 0) m
def m0(b:Blocks):Mach:=⟨List.replicate b.words.toNat 0,[],0,0,0⟩
def Iz(fuel:Int):Int:=bif decide (fuel<0)then 0 else fuel
def mv(b:Blocks)(s:ByteArray)(fuel:Int):Mach:=
  let m:=LF b s (Iz fuel) b.funcs.length ((b.funcs.length:Int)-1) (m0 b)
  bif m.fin==0 then {m with fin:=1}else m
def kX(m:Mach):List AV:=[.int .i64 m.fin,.str ⟨m.out.toArray⟩,.int .i64 m.steps]
def BQ(l:List Int):List (List AV):=l.map fun n=>[AV.int .u32 n]
def LJ(l:List Int):Prop:=∀v∈l,FY v
variable {l : List Int}
theorem Jv(h:LJ l)(z:Int):FY (Ai l z):=by
 grind[Ai,EB,List.mem_of_getElem?,LJ,FY]
theorem Jt(h:LJ l)(z:Int){v:Int}(hv:FY v):LJ (A4 l z v):=fun u hu=>by
 grind[A4,LJ,FY]
theorem B3(l:List Int)(z v:Int):(A4 l z v).length=l.length:=by simp[A4]
theorem nW(c:UInt8):FY ((c.toNat:Nat):Int):=by
 have:c.toNat<256:=UInt8.toNat_lt c;constructor<;>omega
structure Mach.good(W:Nat)(m:Mach):Prop where
  len:m.words.length=W
  words:LJ m.words
  out:m.out.length<=65536
variable {m : Mach} {W : Nat}
theorem GJ{fuel:Int}(h:m.good W):(Bi fuel m).2.good W:=by
 unfold Bi
 cases decide ((m.steps:Int)>=fuel)<;>exact⟨h.1,h.2,h.3⟩
theorem Kz(fuel:Int)(m:Mach):m.steps<=(Bi fuel m).2.steps:=by
 grind[Bi]
variable {s : ByteArray}
theorem Us{call:Int->Mach->Mach}(hc:∀i m,m.good W->(call i m).good W)(t:Tac)(ht:FY t.n){regs:List Int}(hr:LJ regs)(h:m.good W):
 LJ (Bb call s t regs m).1/\(Bb call s t regs m).1.length=regs.length/\(Bb call s t regs m).2.good W:=by
 have ha:=Jv hr t.a;have hb:=Jv hr t.b;unfold Bb
 cases t.op==1 with
 |true=>exact⟨Jt hr _ ht,B3 _ _ _,h⟩
 |false=>
 cases t.op==2 with
 |true=>exact⟨Jt hr _ ha,B3 _ _ _,h⟩
 |false=>
 cases t.op==3 with
 |true=>
  simp only[qZ7,qZ3]
  cases (Cp t.k (Ai regs t.a) (Ai regs t.b)).2==0 with
  |true=>exact⟨Jt hr _ (HF ha hb),B3 _ _ _,h⟩
  |false=>exact⟨hr,rfl,⟨h.1,h.2,h.3⟩⟩
 |false=>
 cases t.op==4 with
 |true=>exact⟨Jt hr _ (Jv h.2 _),B3 _ _ _,h⟩
 |false=>
 cases t.op==5 with
 |true=>exact⟨hr,rfl,⟨by simp only[qZ7,qZ3];rw[B3];exact h.1,Jt h.2 _ ha,h.3⟩⟩
 |false=>
 cases t.op==6 with
 |true=>
  simp only[qZ7,qZ3]
  cases decide (Ai regs t.a>=t.size)with
  |true=>exact⟨hr,rfl,⟨h.1,h.2,h.3⟩⟩
  |false=>exact⟨Jt hr _ (Jv h.2 _),B3 _ _ _,h⟩
 |false=>
 cases t.op==7 with
 |true=>
  simp only[qZ7,qZ3]
  cases decide (Ai regs t.a>=t.size)with
  |true=>exact⟨hr,rfl,⟨h.1,h.2,h.3⟩⟩
  |false=>exact⟨hr,rfl,⟨by simp only[qZ3];rw[B3];exact h.1,Jt h.2 _ hb,h.3⟩⟩
 |false=>
 cases t.op==8 with
 |true=>
  simp only[qZ7,qZ3]
  cases decide (m.read<s.size)with
  |true=>exact⟨Jt hr _ (nW _),B3 _ _ _,⟨h.1,h.2,h.3⟩⟩
  |false=>exact⟨Jt hr _ ⟨by omega,by omega⟩,B3 _ _ _,h⟩
 |false=>
 cases t.op==9 with
 |true=>
  simp only[qZ7,qZ3]
  cases e:decide (m.out.length>=65536)with
  |true=>exact⟨hr,rfl,⟨h.1,h.2,h.3⟩⟩
  |false=>
   refine⟨hr,rfl,⟨h.1,h.2,?_⟩⟩;simp only[qZ3,q48,q70,q84];simp at e;omega
 |false=>
 cases t.op==10 with
 |true=>exact⟨hr,rfl,hc _ _ h⟩
 |false=>exact⟨hr,rfl,h⟩
theorem Rx{call:Int->Mach->Mach}(hc:∀i m,m.steps<=(call i m).steps)(t:Tac)(regs:List Int)(m:Mach):m.steps<=(Bb call s t regs m).2.steps:=by
 unfold Bb
 cases t.op==1 with
 |true=>exact qZ0 _
 |false=>
 cases t.op==2 with
 |true=>exact qZ0 _
 |false=>
 cases t.op==3 with
 |true=>
  simp only[qZ7,qZ3]
  cases (Cp t.k (Ai regs t.a) (Ai regs t.b)).2==0<;>exact qZ0 _
 |false=>
 cases t.op==4 with
 |true=>exact qZ0 _
 |false=>
 cases t.op==5 with
 |true=>exact qZ0 _
 |false=>
 cases t.op==6 with
 |true=>
  simp only[qZ7,qZ3]
  cases decide (Ai regs t.a>=t.size)<;>exact qZ0 _
 |false=>
 cases t.op==7 with
 |true=>
  simp only[qZ7,qZ3]
  cases decide (Ai regs t.a>=t.size)<;>exact qZ0 _
 |false=>
 cases t.op==8 with
 |true=>
  simp only[qZ7,qZ3]
  cases decide (m.read<s.size)<;>exact qZ0 _
 |false=>
 cases t.op==9 with
 |true=>
  simp only[qZ7,qZ3]
  cases e:decide (m.out.length>=65536)<;>exact qZ0 _
 |false=>
 cases t.op==10 with
 |true=>exact hc _ _
 |false=>exact qZ0 _
theorem Uu{call:Int->Mach->Mach}{s:ByteArray}{fuel:Int}{W:Nat}(hc:∀i m,m.good W->(call i m).good W):∀(l:List Tac),GL l->∀(regs:List Int) (m:Mach),LJ regs->m.good W->
 LJ (F7 call s fuel l regs m).2.1/\(F7 call s fuel l regs m).2.1.length=regs.length/\(F7 call s fuel l regs m).2.2.good W
 | [],_,regs,m,hr,h=>⟨hr,rfl,h⟩
 |t::r,hl,regs,m,hr,h=>by
  have h1:=GJ (fuel:=fuel) h;have h2:=Us (s:=s) hc t (hl t Aq) hr h1;unfold F7
  cases (Bi fuel m).1 with
  |false=>exact⟨hr,rfl,h1⟩
  |true=>
   simp only[qZ7]
   cases (Bb call s t regs (Bi fuel m).2).2.fin==0 with
   |false=>exact h2
   |true=>
    have ih:=Uu (fuel:=fuel) (s:=s) hc r (fun u hu=>hl u IR) _ _ h2.1 h2.2.2;exact⟨ih.1,ih.2.1.trans h2.2.1,ih.2.2⟩
theorem RA{call:Int->Mach->Mach}{s:ByteArray}{fuel:Int}(hc:∀i m,m.steps<=(call i m).steps):∀(l:List Tac) (regs:List Int) (m:Mach),m.steps<=(F7 call s fuel l regs m).2.2.steps
 | [],_,_=>qZ0 _
 |t::r,regs,m=>by
  have h1:=Kz fuel m;have h2:=Rx (s:=s) hc t regs (Bi fuel m).2;unfold F7
  cases (Bi fuel m).1 with
  |false=>exact h1
  |true=>
   simp only[qZ7]
   cases (Bb call s t regs (Bi fuel m).2).2.fin==0 with
   |false=>exact qX2 h1 h2
   |true=>exact qX2 (qX2 h1 h2) (RA hc r _ _)
theorem Ux{call:Int->Mach->Mach}{s:ByteArray}{fuel:Int}{W:Nat}(hc:∀i m,m.good W->(call i m).good W){f:BFunc}(hf:∀x∈f.blocks,GL x.ins):∀(g:Nat) (i:Int) (regs:List Int) (m:Mach),LJ regs->m.good W->(LG call s fuel f g i regs m).good W
 |0,_,_,_,_,h=>h
 |g+1,i,regs,m,hr,h=>by
  unfold LG;split
  . exact h
  . rename_i k hk;have h2:=Uu (s:=s) (fuel:=fuel) hc k.ins (hf k (q33 hk)) regs m hr h;have h3:=GJ (fuel:=fuel) h2.2.2;dsimp only
    cases (F7 call s fuel k.ins regs m).1 with
    |false=>exact h2.2.2
    |true=>
     simp only[qZ7]
     cases (Bi fuel (F7 call s fuel k.ins regs m).2.2).1&& !(k.fin==3)with
     |false=>exact h3
     |true=>exact Ux hc hf g _ _ _ h2.1 h3
theorem RG{call:Int->Mach->Mach}{s:ByteArray}{fuel:Int}(hc:∀i m,m.steps<=(call i m).steps){f:BFunc}:∀(g:Nat) (i:Int) (regs:List Int) (m:Mach),m.steps<=(LG call s fuel f g i regs m).steps
 |0,_,_,_=>qZ0 _
 |g+1,i,regs,m=>by
  unfold LG;split
  . exact qZ0 _
  . rename_i k hk;have h2:=RA (s:=s) (fuel:=fuel) hc k.ins regs m;have h3:=Kz fuel (F7 call s fuel k.ins regs m).2.2;dsimp only
    cases (F7 call s fuel k.ins regs m).1 with
    |false=>exact h2
    |true=>
     simp only[qZ7]
     cases (Bi fuel (F7 call s fuel k.ins regs m).2.2).1&& !(k.fin==3)with
     |false=>exact qX2 h2 h3
     |true=>exact qX2 (qX2 h2 h3) (RG hc g _ _ _)
theorem SG(n:Nat):LJ (List.replicate n 0):=fun v hv=>by
 grind[EB,LJ]
def Blocks.insW(b:Blocks):Prop:=∀f∈b.funcs,∀x∈f.blocks,Sv.GL x.ins
theorem Uv{b:Blocks}(hb:b.insW){s:ByteArray}{fuel:Int}{W:Nat}:∀(n:Nat) (i:Int) (m:Mach),m.good W->(LF b s fuel n i m).good W
 |0,_,_,h=>h
 |n+1,i,m,h=>by
  unfold LF;split
  . exact h
  . rename_i f hf;exact Ux (fun i m h=>Uv hb n i m h) (hb f (q33 hf)) _ _ _ _ (SG _) h
theorem RC{b:Blocks}{s:ByteArray}{fuel:Int}:∀(n:Nat) (i:Int) (m:Mach),m.steps<=(LF b s fuel n i m).steps
 |0,_,_=>qZ0 _
 |n+1,i,m=>by
  unfold LF;split
  . exact qZ0 _
  . exact RG (fun i m=>RC n i m) _ _ _ _
def Fz(b:Blocks)(s:ByteArray)(fuel:Int)(m:Mach):List AV:=
  [.int .i64 b.words,Fl b.funcs,.str s,.int .i64 fuel,.ref 1 b.words.toNat 0 b.words.toNat,.ref 2 m.out.length 0 m.out.length,.int .i64 (m.read:Int),.int .i64 (m.steps:Int),.int .i64 m.fin]
abbrev J1(h:Aj)(b:Blocks)(s:ByteArray)(fuel:Int)(m:Mach):Aj:=
  Af (Af (Af h 0 (.row false 9 [Fz b s fuel m])) 1 (.row true 1 (BQ m.words))) 2 (.row true 1 (Bx m.out))
theorem Fg(l:List Int):(BQ l).length=l.length:=by simp[BQ]
theorem VM(n:Nat):List.replicate n [AV.int .u32 0]=BQ (List.replicate n 0):=by simp[BQ]
theorem Ft{z:Int}(h:0<=z/\z<l.length):(BQ l)[0+z.toNat]?=some [AV.int .u32 (Ai l z)]:=by
 grind[Ad,BQ,Ai]
theorem T4(l:List Int)(z v:Int):(BQ l).set (0+z.toNat) [AV.int .u32 v]=BQ (A4 l z v):=by
 rw[qQ8,BQ,BQ,A4,List.map_set]
theorem Z3(l:List Int)(z v:Int)(c:List AV):((BQ l).set (0+z.toNat) c).set (0+z.toNat) [AV.int .u32 v]=BQ (A4 l z v):=by
 rw[List.set_set,T4]
theorem mQ(h:i<s.size):s.data.toList[i]?=some (Yl s i):=by
 obtain⟨v,hv⟩:=Ad (l:=s.data.toList) (k:=i) HN;rw[Yl,hv];rfl
theorem er{n:Int}(h:FY n):IntKind.u8.wrap n=(((Sz n).toNat:Nat):Int):=by
 obtain⟨h1,h2⟩:=h;obtain⟨k,rfl⟩:=Int.eq_ofNat_of_zero_le h1;rw[IntKind.wrap_u8,Sz,q55]
 (simp_all;done)
theorem FC(hT:Dz P T){t u:TypeId}{x:Operand}{n r:Int}{i j:AC}(ho:o.op=.convert t u x)(hx:At e x=some (.int k' n))(hi:T t=some i)(hj:T u=some j)(hk:j.k=.int k)(hw:k.wrap n=r):QLoc P o e h [] (.int k r):=by
 grind[Oe,Dz,At,QLoc]
section
variable {call : Int -> Mach -> Mach} {s : ByteArray} {t : Tac} {regs : List Int} {m : Mach}
theorem mx(h:t.op=1):Bb call s t regs m=(A4 regs t.d t.n,m):=by simp[Bb,h]
theorem ua(h:t.op=2):Bb call s t regs m=(A4 regs t.d (Ai regs t.a),m):=by simp[Bb,h]
theorem t9(h:t.op=3)(hz:((Cp t.k (Ai regs t.a) (Ai regs t.b)).2 !=0)=false):Bb call s t regs m=(A4 regs t.d (Cp t.k (Ai regs t.a) (Ai regs t.b)).1,m):=by
 grind[Cp,Ai,Bb,A4]
theorem vP(h:t.op=3)(hz:((Cp t.k (Ai regs t.a) (Ai regs t.b)).2 !=0)=true):Bb call s t regs m=(regs,{m with fin:=2}):=by
 grind[Cp,Ai,Bb]
theorem Abl(h:t.op=4):Bb call s t regs m=(A4 regs t.d (Ai m.words t.base),m):=by simp[Bb,h]
theorem Abk(h:t.op=5):Bb call s t regs m=(regs,{m with words:=A4 m.words t.base (Ai regs t.a)}):=by simp[Bb,h]
theorem dc(h:t.op=6\/t.op=7)(hz:decide (Ai regs t.a>=t.size)=true):Bb call s t regs m=(regs,{m with fin:=3}):=by
 grind[Bb,Ai]
theorem Abj(h:t.op=6)(hz:decide (Ai regs t.a>=t.size)=false):Bb call s t regs m=(A4 regs t.d (Ai m.words (t.base+Ai regs t.a)),m):=by
 grind[Bb,Ai,A4]
theorem Abi(h:t.op=7)(hz:decide (Ai regs t.a>=t.size)=false):Bb call s t regs m=(regs,{m with words:=A4 m.words (t.base+Ai regs t.a) (Ai regs t.b)}):=by
 grind[Bb,Ai,A4]
theorem Abh(h:t.op=8)(hz:m.read<s.size):Bb call s t regs m=(A4 regs t.d ((Yl s m.read).toNat:Int),{m with read:=m.read+1}):=by
 grind[Bb,A4,Yl]
theorem vO(h:t.op=8)(hz:¬m.read<s.size):Bb call s t regs m=(A4 regs t.d 256,m):=by
 grind[Bb,A4]
theorem vN(h:t.op=9)(hz:m.out.length>=65536):Bb call s t regs m=(regs,{m with fin:=4}):=by
 grind[Bb]
theorem Abg(h:t.op=9)(hz:¬m.out.length>=65536):Bb call s t regs m=(regs,{m with out:=m.out++[Sz (Ai regs t.a)]}):=by
 grind[Bb,Sz,Ai]
theorem vQ(h:t.op=10):Bb call s t regs m=(regs,call t.base m):=by simp[Bb,h]
end
variable {fuel : Int}
theorem mr{m:Mach}(h:decide ((m.steps:Int)>=fuel)=true):Bi fuel m=(false,{m with fin:=5}):=by simp[Bi,h]
theorem ga{m:Mach}(h:decide ((m.steps:Int)>=fuel)=false):Bi fuel m=(true,{m with steps:=m.steps+1}):=by simp[Bi,h]
structure uj(t:Tac)(number R:Nat)(words:Nat):Prop where
  op:1<=t.op/\t.op<=10
  d:setsOp t.op=true->0<=t.d/\t.d<R
  a:use1 t.op=true\/use2 t.op=true->0<=t.a/\t.a<R
  b:use2 t.op=true->0<=t.b/\t.b<R
  base:t.op=4\/t.op=5->0<=t.base/\t.base<words
  arr:t.op=6\/t.op=7->1<=t.size/\t.size<=4096/\0<=t.base/\t.base+t.size<=words
  call:t.op=10->0<=t.base/\t.base<number
theorem QH{t:Tac}{f regs words:Int}(h:t.fits f regs words=true):uj t f.toNat regs.toNat words.toNat:=by
 have h0:=h;simp only[Tac.fits,q66,q81,q61,q67,A2,q56]at h;obtain⟨h1,h2,h3,h4,h5,_⟩:=h;refine⟨⟨h1,h2⟩,fun e=>?_,fun e=>?_,fun e=>?_,fun e=>?_,fun e=>?_,fun e=>?_⟩
 . rcases h3 with h3|h3
   . rw[e]at h3;cases h3
   . omega
 . have:=h4 t.a (by rcases e with e|e<;>simp[Tac.uses,e]<;>cases use1 t.op<;>simp);omega
 . have e2:=O9 t.op;rw[e,qQ4]at e2;have:=h4 t.b (by simp[Tac.uses,e,e2]);omega
 . rcases e with e|e<;>simp[Tac.rest,GP,e,A2]at h5<;>omega
 . rcases e with e|e<;>simp[Tac.rest,GP,EP,e]at h5<;>omega
 . simp[Tac.rest,GP,EP,e,A2]at h5;omega
structure FG where
  i:Int
  regs:List Int
  m:Mach
  g:Nat
structure IG where
  j:Nat
  regs:List Int
  m:Mach
section
variable {call : Int -> Mach -> Mach} {s : ByteArray} {fuel : Int} {f : BFunc} {W R : Nat} {tgt : Mach} {q : FG} {k : Block} {r : IG}
structure FInv(call:Int->Mach->Mach)(s:ByteArray)(fuel:Int)(f:BFunc)(W R:Nat)(tgt:Mach)(q:FG):Prop where
  good:q.m.good W
  fin:q.m.fin=0
  regs:LJ q.regs
  len:q.regs.length=R
  i:0<=q.i/\q.i<f.blocks.length
  g:0<q.g
  gas:fuel.toNat<q.m.steps+q.g
  tgt:LG call s fuel f q.g q.i q.regs q.m=tgt
structure IInv(call:Int->Mach->Mach)(s:ByteArray)(fuel:Int)(k:Block)(q:FG)(W R:Nat)(r:IG):Prop where
  good:r.m.good W
  fin:r.m.fin=0
  regs:LJ r.regs
  len:r.regs.length=R
  j:r.j<=k.ins.length
  steps:q.m.steps<=r.m.steps
  eq:F7 call s fuel (k.ins.drop r.j) r.regs r.m=F7 call s fuel k.ins q.regs q.m
theorem FInv.start(h:FInv call s fuel f W R tgt q):IInv call s fuel k q W R ⟨0,q.regs,q.m⟩:=⟨h.good,h.fin,h.regs,h.len,qZ1 _,qZ0 _,rfl⟩
theorem FInv.unfold(h:FInv call s fuel f W R tgt q)(hk:f.blocks[q.i.toNat]?=some k):tgt=
 (bif (F7 call s fuel k.ins q.regs q.m).1 then
  (bif (Bi fuel (F7 call s fuel k.ins q.regs q.m).2.2).1&& !(k.fin==3)then LG call s fuel f (q.g-1) (k.next (F7 call s fuel k.ins q.regs q.m).2.1) (F7 call s fuel k.ins q.regs q.m).2.1 (Bi fuel (F7 call s fuel k.ins q.regs q.m).2.2).2 else(Bi fuel (F7 call s fuel k.ins q.regs q.m).2.2).2)
  else(F7 call s fuel k.ins q.regs q.m).2.2):=by
 have h1:=h.tgt;obtain⟨g,hg⟩:∃g,q.g=g+1:=⟨q.g-1,by have:=h.g;omega⟩
 rw[hg]at h1|-;rw[<-h1,LG,hk];rfl
variable {u : Tac}
theorem IInv.head(hi:IInv call s fuel k q W R r)(hu:k.ins[r.j]?=some u):F7 call s fuel k.ins q.regs q.m=F7 call s fuel (u::k.ins.drop (r.j+1)) r.regs r.m:=by
 rw[<-hi.eq];have hl:=(q05.1 hu);obtain⟨h1,h2⟩:=hl;rw[q07 h1,h2]
theorem Abr(h:FInv call s fuel f W R tgt q)(hk:f.blocks[q.i.toNat]?=some k)(hi:IInv call s fuel k q W R r)(hu:k.ins[r.j]?=some u)(hs:(Bi fuel r.m).1=false):tgt=(Bi fuel r.m).2:=by
 have e:F7 call s fuel k.ins q.regs q.m=(false,r.regs,(Bi fuel r.m).2):=by rw[hi.head hu,F7,hs];rfl
 rw[h.unfold hk,e];rfl
theorem Abq(h:FInv call s fuel f W R tgt q)(hk:f.blocks[q.i.toNat]?=some k)(hi:IInv call s fuel k q W R r)(hu:k.ins[r.j]?=some u)(hs:(Bi fuel r.m).1=true)(hz:((Bb call s u r.regs (Bi fuel r.m).2).2.fin !=0)=true):
 tgt=(Bb call s u r.regs (Bi fuel r.m).2).2:=by
 have hz':((Bb call s u r.regs (Bi fuel r.m).2).2.fin==0)=false:=by simpa[bne]using hz
 have e:F7 call s fuel k.ins q.regs q.m=(false,Bb call s u r.regs (Bi fuel r.m).2):=by rw[hi.head hu,F7,hs,hz'];rfl
 rw[h.unfold hk,e];rfl
theorem IInv.next(hi:IInv call s fuel k q W R r)(hcg:∀i m,m.good W->(call i m).good W)(hcs:∀i m,m.steps<=(call i m).steps)(hu:k.ins[r.j]?=some u)(hw:FY u.n)(hs:(Bi fuel r.m).1=true)(hz:((Bb call s u r.regs (Bi fuel r.m).2).2.fin !=0)=false):
 IInv call s fuel k q W R ⟨r.j+1,(Bb call s u r.regs (Bi fuel r.m).2).1,(Bb call s u r.regs (Bi fuel r.m).2).2⟩:=by
 have hz':((Bb call s u r.regs (Bi fuel r.m).2).2.fin)=0:=by simpa using hz
 have hg:=Us (s:=s) hcg u hw hi.regs (GJ (fuel:=fuel) hi.good);refine⟨hg.2.2,hz',hg.1,hg.2.1.trans hi.len,(q05.1 hu).1,?_,?_⟩
 . exact qX2 hi.steps (qX2 (Kz fuel r.m) (Rx hcs u r.regs _))
 . rw[hi.head hu]
   grind[F7,FY,Bi,Bb]
theorem IInv.done(hi:IInv call s fuel k q W R r)(hj:k.ins.length<=r.j):F7 call s fuel k.ins q.regs q.m=(true,r.regs,r.m):=by
 rw[<-hi.eq,List.drop_eq_nil_of_le hj];rfl
theorem wg(h:FInv call s fuel f W R tgt q)(hk:f.blocks[q.i.toNat]?=some k)(hi:IInv call s fuel k q W R r)(hj:k.ins.length<=r.j)(hs:(Bi fuel r.m).1=false):tgt=(Bi fuel r.m).2:=by
 rw[h.unfold hk,hi.done hj]
 grind
theorem we(h:FInv call s fuel f W R tgt q)(hk:f.blocks[q.i.toNat]?=some k)(hi:IInv call s fuel k q W R r)(hj:k.ins.length<=r.j)(hf:(k.fin==3)=true):tgt=(Bi fuel r.m).2:=by
 rw[h.unfold hk,hi.done hj]
 grind
theorem Abp(h:FInv call s fuel f W R tgt q)(hk:f.blocks[q.i.toNat]?=some k)(hi:IInv call s fuel k q W R r)(hj:k.ins.length<=r.j)(hs:(Bi fuel r.m).1=false\/(k.fin==3)=true):tgt=(Bi fuel r.m).2:=
 hs.elim (wg h hk hi hj) (we h hk hi hj)
theorem Rv{m:Mach}(hs:(Bi fuel m).1=true):(m.steps:Int)<fuel/\(Bi fuel m).2={m with steps:=m.steps+1}:=by
 grind[Bi]
theorem FInv.next(h:FInv call s fuel f W R tgt q)(hk:f.blocks[q.i.toNat]?=some k)(hi:IInv call s fuel k q W R r)(hj:k.ins.length<=r.j)(hs:(Bi fuel r.m).1=true)(hf:(k.fin==3)=false)(hn:0<=k.next r.regs/\k.next r.regs<f.blocks.length):
 FInv call s fuel f W R tgt ⟨k.next r.regs,r.regs,(Bi fuel r.m).2,q.g-1⟩/\q.g-1<q.g:=by
 obtain⟨h1,h2⟩:=Rv hs;have hg:=h.g;have hgas:=h.gas;have hst:=hi.steps;refine⟨⟨GJ hi.good,by rw[h2];exact hi.fin,hi.regs,hi.len,hn,?_,?_,?_⟩,by omega⟩
 . grind
 . grind
 . rw[h.unfold hk,hi.done hj]
   grind
end
variable {blocks : Int}
theorem gU{k:Block}{regs:Int}(h:k.ends blocks regs=true)(hf:(k.fin==3)=false)(l:List Int):0<=k.next l/\k.next l<blocks:=by
 grind[Block.ends,Block.next,A2,Ai]
theorem wj{k:Block}{regs:Int}(h:k.ends blocks regs=true)(hf:(k.fin==2)=true):0<=k.v/\k.v<regs:=by
 grind[Block.ends,A2]
theorem FInv.first{call:Int->Mach->Mach}{s:ByteArray}{fuel:Int}{f:BFunc}{W:Nat}{m:Mach}(hm:m.good W)(h0:m.fin=0)(hf:f.blocks≠[]):
 FInv call s fuel f W f.regs.toNat (LG call s fuel f (fuel.toNat+1) 0 (List.replicate f.regs.toNat 0) m) ⟨0,List.replicate f.regs.toNat 0,m,fuel.toNat+1⟩:=
 ⟨hm,h0,SG _,by simp,⟨by show(0:Int)<=0;omega,by show(0:Int)<_;have:=q43.2 hf;omega⟩,Nat.succ_pos _,by show fuel.toNat<m.steps+(fuel.toNat+1);omega,rfl⟩
end Go.Proofs.YtbbfelelocccmaaGreat.Sv
