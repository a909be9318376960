/-
  THE TYPES OF THE PROGRAM, WRITTEN OUT: printed by a program of our own.
-/
import Derived.Test.YtbbfelelocccmaaGreatPOptimizeSteps1
import Derived.Test.YtbbfelelocccmaaGreatProg
import Derived.KernelRfl
import Derived.Test.YtbbfelelocccmaaGreatPOptimizeSteps2
import Derived.Scope
import Derived.Lib.SliceRun
import Derived.Laws.BytesString
import Derived.Lib.ConvBytes
import Derived.WideKeyRuns
import Derived.ProofKit
import Derived.OpenShut
import Derived.SizedLaws
import Derived.Test.YtbbfelelocccmaaGreatRows
set_option linter.unusedVariables false
set_option linter.unusedSimpArgs false
set_option maxRecDepth 100000
set_option maxHeartbeats 2000000
namespace Go.Proofs.YtbbfelelocccmaaGreat.Sv
open Go
abbrev ze:Av:=⟨.other,1,0,[]⟩
abbrev zd:Av:=⟨.fn,1,8,[.val .nilFunc]⟩
abbrev zc:Av:=⟨.int .i64,1,8,[.int .i64 0]⟩
abbrev yZ:Av:=⟨.int .i64,1,8,[.int .i64 0]⟩
abbrev zb:Av:=⟨.bool,1,1,[.bool false]⟩
abbrev za:Av:=⟨.int .u8,1,1,[.int .u8 0]⟩
abbrev y9:Av:=⟨.int .u8,1,1,[.int .u8 0]⟩
abbrev y8:Av:=⟨.struct [(0,2),(1,3),(2,4),(3,6)],4,24,[.int .i64 0,.int .i64 0,.bool false,.int .u8 0]⟩
abbrev y7:Av:=⟨.struct [(0,2),(1,3),(2,4),(3,6)],4,24,[.int .i64 0,.int .i64 0,.bool false,.int .u8 0]⟩
abbrev y6:Av:=⟨.string,1,16,[.str ⟨#[]⟩]⟩
abbrev yJ:Av:=⟨.string,1,16,[.str ⟨#[]⟩]⟩
abbrev yI:Av:=⟨.string,1,16,[.str ⟨#[]⟩]⟩
abbrev yH:Av:=⟨.int .u64,1,8,[.int .u64 0]⟩
abbrev yG:Av:=⟨.struct [(0,9),(1,12)],2,24,[.str ⟨#[]⟩,.int .u64 0]⟩
abbrev yF:Av:=⟨.struct [(0,9),(1,12)],2,24,[.str ⟨#[]⟩,.int .u64 0]⟩
abbrev yE:Av:=⟨.ptr 188,1,8,[.nilp]⟩
abbrev yD:Av:=⟨.ptr 191,1,8,[.nilp]⟩
abbrev yC:Av:=⟨.ptr 200,1,8,[.nilp]⟩
abbrev yB:Av:=⟨.struct [(0,17)],1,8,[.nilp]⟩
abbrev yA:Av:=⟨.struct [(0,17)],1,8,[.nilp]⟩
abbrev yz:Av:=⟨.other,1,16,[.val .nilIface]⟩
abbrev yx:Av:=⟨.int .i32,1,4,[.int .i32 0]⟩
abbrev yw:Av:=⟨.slice 41,1,24,[.nil]⟩
abbrev yu:Av:=⟨.struct [(0,3),(1,22)],2,32,[.int .i64 0,.nil]⟩
abbrev yt:Av:=⟨.struct [(0,3),(1,22)],2,32,[.int .i64 0,.nil]⟩
abbrev yr:Av:=⟨.slice 3,1,24,[.nil]⟩
abbrev yq:Av:=⟨.fn,1,8,[.val .nilFunc]⟩
abbrev yp:Av:=⟨.fn,1,8,[.val .nilFunc]⟩
abbrev yn:Av:=⟨.slice 34,1,24,[.nil]⟩
abbrev ym:Av:=⟨.int .i64,1,8,[.int .i64 0]⟩
abbrev yk:Av:=⟨.other,1,0,[]⟩
abbrev yj:Av:=⟨.fn,1,8,[.val .nilFunc]⟩
abbrev yi:Av:=⟨.fn,1,8,[.val .nilFunc]⟩
abbrev yh:Av:=⟨.fn,1,8,[.val .nilFunc]⟩
abbrev yg:Av:=⟨.slice 43,1,24,[.nil]⟩
abbrev yf:Av:=⟨.slice 112,1,24,[.nil]⟩
abbrev ye:Av:=⟨.struct [(0,35)],1,24,[.nil]⟩
abbrev yd:Av:=⟨.struct [(0,35)],1,24,[.nil]⟩
abbrev yc:Av:=⟨.slice 25,1,24,[.nil]⟩
abbrev yb:Av:=⟨.slice 80,1,24,[.nil]⟩
abbrev ya:Av:=⟨.struct [(0,3),(1,39)],2,32,[.int .i64 0,.nil]⟩
abbrev x9:Av:=⟨.struct [(0,3),(1,39)],2,32,[.int .i64 0,.nil]⟩
abbrev x8:Av:=⟨.struct [(0,3),(1,37),(2,38),(3,41)],5,88,[.int .i64 0,.nil,.nil,.int .i64 0,.nil]⟩
abbrev xZ:Av:=⟨.struct [(0,3),(1,37),(2,38),(3,41)],5,88,[.int .i64 0,.nil,.nil,.int .i64 0,.nil]⟩
abbrev xY:Av:=⟨.fn,1,8,[.val .nilFunc]⟩
abbrev xX:Av:=⟨.fn,1,8,[.val .nilFunc]⟩
abbrev xW:Av:=⟨.fn,1,8,[.val .nilFunc]⟩
abbrev xV:Av:=⟨.struct [(0,24),(2,24),(4,28),(5,9)],6,104,[.int .i64 0,.nil,.int .i64 0,.nil,.nil,.str ⟨#[]⟩]⟩
abbrev xU:Av:=⟨.struct [(0,24),(2,24),(4,28),(5,9)],6,104,[.int .i64 0,.nil,.int .i64 0,.nil,.nil,.str ⟨#[]⟩]⟩
abbrev xT:Av:=⟨.fn,1,8,[.val .nilFunc]⟩
abbrev xS:Av:=⟨.other,1,0,[]⟩
abbrev xR:Av:=⟨.fn,1,8,[.val .nilFunc]⟩
abbrev xQ:Av:=⟨.fn,1,8,[.val .nilFunc]⟩
abbrev xP:Av:=⟨.fn,1,8,[.val .nilFunc]⟩
abbrev xO:Av:=⟨.fn,1,8,[.val .nilFunc]⟩
abbrev xN:Av:=⟨.fn,1,8,[.val .nilFunc]⟩
abbrev xM:Av:=⟨.fn,1,8,[.val .nilFunc]⟩
abbrev xL:Av:=⟨.fn,1,8,[.val .nilFunc]⟩
abbrev xK:Av:=⟨.struct [(0,3),(1,9),(2,3)],3,32,[.int .i64 0,.str ⟨#[]⟩,.int .i64 0]⟩
abbrev xJ:Av:=⟨.struct [(0,3),(1,9),(2,3)],3,32,[.int .i64 0,.str ⟨#[]⟩,.int .i64 0]⟩
abbrev xI:Av:=⟨.fn,1,8,[.val .nilFunc]⟩
abbrev xH:Av:=⟨.fn,1,8,[.val .nilFunc]⟩
abbrev xG:Av:=⟨.fn,1,8,[.val .nilFunc]⟩
abbrev xF:Av:=⟨.struct [(0,24),(2,24),(4,24),(6,28),(7,28)],8,144,[.int .i64 0,.nil,.int .i64 0,.nil,.int .i64 0,.nil,.nil,.nil]⟩
abbrev xE:Av:=⟨.struct [(0,24),(2,24),(4,24),(6,28),(7,28)],8,144,[.int .i64 0,.nil,.int .i64 0,.nil,.int .i64 0,.nil,.nil,.nil]⟩
abbrev xD:Av:=⟨.fn,1,8,[.val .nilFunc]⟩
abbrev xC:Av:=⟨.fn,1,8,[.val .nilFunc]⟩
abbrev xB:Av:=⟨.fn,1,8,[.val .nilFunc]⟩
abbrev xA:Av:=⟨.fn,1,8,[.val .nilFunc]⟩
abbrev xz:Av:=⟨.other,1,16,[.val .nilIface]⟩
abbrev xy:Av:=⟨.other,1,16,[.val .nilIface]⟩
abbrev xw:Av:=⟨.other,1,0,[]⟩
abbrev xu:Av:=⟨.fn,1,8,[.val .nilFunc]⟩
abbrev xt:Av:=⟨.fn,1,8,[.val .nilFunc]⟩
abbrev xr:Av:=⟨.fn,1,8,[.val .nilFunc]⟩
abbrev xq:Av:=⟨.other,1,0,[]⟩
abbrev xp:Av:=⟨.fn,1,8,[.val .nilFunc]⟩
abbrev xn:Av:=⟨.fn,1,8,[.val .nilFunc]⟩
abbrev xm:Av:=⟨.slice 91,1,24,[.nil]⟩
abbrev xk:Av:=⟨.struct [(0,78),(1,3),(2,3),(3,3),(4,3)],5,56,[.nil,.int .i64 0,.int .i64 0,.int .i64 0,.int .i64 0]⟩
abbrev xj:Av:=⟨.struct [(0,78),(1,3),(2,3),(3,3),(4,3)],5,56,[.nil,.int .i64 0,.int .i64 0,.int .i64 0,.int .i64 0]⟩
abbrev xi:Av:=⟨.fn,1,8,[.val .nilFunc]⟩
abbrev xh:Av:=⟨.fn,1,8,[.val .nilFunc]⟩
abbrev xg:Av:=⟨.ptr 87,1,8,[.nilp]⟩
abbrev xf:Av:=⟨.slice 89,1,24,[.nil]⟩
abbrev xe:Av:=⟨.slice 5,1,24,[.nil]⟩
abbrev xd:Av:=⟨.struct [(0,24),(2,9),(3,3),(4,84),(5,85),(6,3),(7,3),(8,3)],9,128,[.int .i64 0,.nil,.str ⟨#[]⟩,.int .i64 0,.nil,.nil,.int .i64 0,.int .i64 0,.int .i64 0]⟩
abbrev xc:Av:=⟨.struct [(0,24),(2,9),(3,3),(4,84),(5,85),(6,3),(7,3),(8,3)],9,128,[.int .i64 0,.nil,.str ⟨#[]⟩,.int .i64 0,.nil,.nil,.int .i64 0,.int .i64 0,.int .i64 0]⟩
abbrev xb:Av:=⟨.fn,1,8,[.val .nilFunc]⟩
abbrev xa:Av:=⟨.int .u32,1,4,[.int .u32 0]⟩
abbrev w9:Av:=⟨.struct [(0,3),(1,3),(2,3),(3,3),(4,3),(5,3),(6,3),(7,89)],8,64,[.int .i64 0,.int .i64 0,.int .i64 0,.int .i64 0,.int .i64 0,.int .i64 0,.int .i64 0,.int .u32 0]⟩
abbrev ty91:Av:=⟨.struct [(0,3),(1,3),(2,3),(3,3),(4,3),(5,3),(6,3),(7,89)],8,64,[.int .i64 0,.int .i64 0,.int .i64 0,.int .i64 0,.int .i64 0,.int .i64 0,.int .i64 0,.int .u32 0]⟩
abbrev w8:Av:=⟨.fn,1,8,[.val .nilFunc]⟩
abbrev w7:Av:=⟨.struct [(0,3)],1,8,[.int .i64 0]⟩
abbrev wZ:Av:=⟨.struct [(0,3)],1,8,[.int .i64 0]⟩
abbrev wY:Av:=⟨.fn,1,8,[.val .nilFunc]⟩
abbrev wX:Av:=⟨.struct [(0,94),(1,95)],2,16,[.int .i64 0,.val .nilFunc]⟩
abbrev wW:Av:=⟨.struct [(0,94),(1,95)],2,16,[.int .i64 0,.val .nilFunc]⟩
abbrev wV:Av:=⟨.struct [(0,94)],1,8,[.int .i64 0]⟩
abbrev wU:Av:=⟨.struct [(0,94)],1,8,[.int .i64 0]⟩
abbrev vM:Av:=⟨.struct [(0,3),(1,3),(2,3),(3,3)],4,32,[.int .i64 0,.int .i64 0,.int .i64 0,.int .i64 0]⟩
abbrev vL:Av:=⟨.struct [(0,3),(1,3),(2,3),(3,3)],4,32,[.int .i64 0,.int .i64 0,.int .i64 0,.int .i64 0]⟩
abbrev vK:Av:=⟨.fn,1,8,[.val .nilFunc]⟩
abbrev vJ:Av:=⟨.fn,1,8,[.val .nilFunc]⟩
abbrev vI:Av:=⟨.fn,1,8,[.val .nilFunc]⟩
abbrev vH:Av:=⟨.fn,1,8,[.val .nilFunc]⟩
abbrev vG:Av:=⟨.fn,1,8,[.val .nilFunc]⟩
abbrev vF:Av:=⟨.fn,1,8,[.val .nilFunc]⟩
abbrev vE:Av:=⟨.fn,1,8,[.val .nilFunc]⟩
abbrev vD:Av:=⟨.fn,1,8,[.val .nilFunc]⟩
abbrev vC:Av:=⟨.fn,1,8,[.val .nilFunc]⟩
abbrev vB:Av:=⟨.fn,1,8,[.val .nilFunc]⟩
abbrev vA:Av:=⟨.slice 4,1,24,[.nil]⟩
abbrev vz:Av:=⟨.fn,1,8,[.val .nilFunc]⟩
abbrev vy:Av:=⟨.ptr 118,1,8,[.nilp]⟩
abbrev vx:Av:=⟨.fn,1,8,[.val .nilFunc]⟩
abbrev vv:Av:=⟨.slice 157,1,24,[.nil]⟩
abbrev vu:Av:=⟨.struct [(0,41),(2,38),(3,38),(4,116),(5,35),(6,25),(7,112)],8,176,[.int .i64 0,.nil,.nil,.nil,.nil,.nil,.nil,.nil]⟩
abbrev vt:Av:=⟨.struct [(0,41),(2,38),(3,38),(4,116),(5,35),(6,25),(7,112)],8,176,[.int .i64 0,.nil,.nil,.nil,.nil,.nil,.nil,.nil]⟩
abbrev vr:Av:=⟨.fn,1,8,[.val .nilFunc]⟩
abbrev vq:Av:=⟨.struct [(0,35),(1,35)],2,48,[.nil,.nil]⟩
abbrev vp:Av:=⟨.struct [(0,35),(1,35)],2,48,[.nil,.nil]⟩
abbrev vo:Av:=⟨.fn,1,8,[.val .nilFunc]⟩
abbrev vn:Av:=⟨.fn,1,8,[.val .nilFunc]⟩
abbrev vm:Av:=⟨.fn,1,8,[.val .nilFunc]⟩
abbrev vk:Av:=⟨.fn,1,8,[.val .nilFunc]⟩
abbrev vj:Av:=⟨.ptr 129,1,8,[.nilp]⟩
abbrev vi:Av:=⟨.slice 132,1,24,[.nil]⟩
abbrev vh:Av:=⟨.struct [(0,127)],1,24,[.nil]⟩
abbrev vg:Av:=⟨.struct [(0,127)],1,24,[.nil]⟩
abbrev vf:Av:=⟨.fn,1,8,[.val .nilFunc]⟩
abbrev ve:Av:=⟨.struct [(0,3),(1,3),(2,3),(3,3),(4,3),(5,3),(6,3),(7,3),(8,89)],9,72,[.int .i64 0,.int .i64 0,.int .i64 0,.int .i64 0,.int .i64 0,.int .i64 0,.int .i64 0,.int .i64 0,.int .u32 0]⟩
abbrev vd:Av:=⟨.struct [(0,3),(1,3),(2,3),(3,3),(4,3),(5,3),(6,3),(7,3),(8,89)],9,72,[.int .i64 0,.int .i64 0,.int .i64 0,.int .i64 0,.int .i64 0,.int .i64 0,.int .i64 0,.int .i64 0,.int .u32 0]⟩
abbrev vc:Av:=⟨.ptr 137,1,8,[.nilp]⟩
abbrev u9:Av:=⟨.fn,1,8,[.val .nilFunc]⟩
abbrev u7:Av:=⟨.slice 139,1,24,[.nil]⟩
abbrev u6:Av:=⟨.struct [(0,126),(1,25),(2,135),(3,3)],4,64,[.nilp,.nil,.nil,.int .i64 0]⟩
abbrev uZ:Av:=⟨.struct [(0,126),(1,25),(2,135),(3,3)],4,64,[.nilp,.nil,.nil,.int .i64 0]⟩
abbrev uY:Av:=⟨.struct [(0,3),(1,3),(2,3),(3,3),(4,3),(5,3)],6,48,[.int .i64 0,.int .i64 0,.int .i64 0,.int .i64 0,.int .i64 0,.int .i64 0]⟩
abbrev uX:Av:=⟨.struct [(0,3),(1,3),(2,3),(3,3),(4,3),(5,3)],6,48,[.int .i64 0,.int .i64 0,.int .i64 0,.int .i64 0,.int .i64 0,.int .i64 0]⟩
abbrev uW:Av:=⟨.other,1,0,[]⟩
abbrev uV:Av:=⟨.fn,1,8,[.val .nilFunc]⟩
abbrev uU:Av:=⟨.int .u64,1,8,[.int .u64 0]⟩
abbrev uT:Av:=⟨.fn,1,8,[.val .nilFunc]⟩
abbrev uS:Av:=⟨.fn,1,8,[.val .nilFunc]⟩
abbrev uR:Av:=⟨.fn,1,8,[.val .nilFunc]⟩
abbrev uQ:Av:=⟨.map 3 89,1,8,[.val (.map none)]⟩
abbrev uP:Av:=⟨.other,1,0,[]⟩
abbrev uO:Av:=⟨.fn,1,8,[.val .nilFunc]⟩
abbrev uN:Av:=⟨.slice 175,1,24,[.nil]⟩
abbrev uM:Av:=⟨.struct [(0,25),(1,149)],2,48,[.nil,.nil]⟩
abbrev uL:Av:=⟨.struct [(0,25),(1,149)],2,48,[.nil,.nil]⟩
abbrev uK:Av:=⟨.fn,1,8,[.val .nilFunc]⟩
abbrev uJ:Av:=⟨.struct [(0,3),(1,4),(2,4)],3,16,[.int .i64 0,.bool false,.bool false]⟩
abbrev uI:Av:=⟨.struct [(0,3),(1,4),(2,4)],3,16,[.int .i64 0,.bool false,.bool false]⟩
abbrev uH:Av:=⟨.ptr 154,1,8,[.nilp]⟩
abbrev uG:Av:=⟨.fn,1,8,[.val .nilFunc]⟩
abbrev uF:Av:=⟨.slice 161,1,24,[.nil]⟩
abbrev uE:Av:=⟨.fn,1,8,[.val .nilFunc]⟩
abbrev uD:Av:=⟨.slice 154,1,24,[.nil]⟩
abbrev uC:Av:=⟨.struct [(0,3),(1,159)],2,32,[.int .i64 0,.nil]⟩
abbrev uB:Av:=⟨.struct [(0,3),(1,159)],2,32,[.int .i64 0,.nil]⟩
abbrev uA:Av:=⟨.fn,1,8,[.val .nilFunc]⟩
abbrev uz:Av:=⟨.fn,1,8,[.val .nilFunc]⟩
abbrev uy:Av:=⟨.ptr 168,1,8,[.nilp]⟩
abbrev ux:Av:=⟨.fn,1,8,[.val .nilFunc]⟩
abbrev uv:Av:=⟨.slice 170,1,24,[.nil]⟩
abbrev uu:Av:=⟨.struct [(0,38),(1,38),(2,166),(3,166),(4,166),(5,166),(6,25),(7,112)],8,192,[.nil,.nil,.nil,.nil,.nil,.nil,.nil,.nil]⟩
abbrev ut:Av:=⟨.struct [(0,38),(1,38),(2,166),(3,166),(4,166),(5,166),(6,25),(7,112)],8,192,[.nil,.nil,.nil,.nil,.nil,.nil,.nil,.nil]⟩
abbrev ur:Av:=⟨.slice 142,1,24,[.nil]⟩
abbrev uq:Av:=⟨.slice 142,1,24,[.nil]⟩
abbrev uo:Av:=⟨.fn,1,8,[.val .nilFunc]⟩
abbrev um:Av:=⟨.fn,1,8,[.val .nilFunc]⟩
abbrev ul:Av:=⟨.fn,1,8,[.val .nilFunc]⟩
abbrev uk:Av:=⟨.ptr 151,1,8,[.nilp]⟩
abbrev uj:Av:=⟨.map 3 4,1,8,[.val (.map none)]⟩
abbrev ui:Av:=⟨.ptr 161,1,8,[.nilp]⟩
abbrev uh:Av:=⟨.other,1,0,[]⟩
abbrev ug:Av:=⟨.fn,1,8,[.val .nilFunc]⟩
abbrev uf:Av:=⟨.fn,1,8,[.val .nilFunc]⟩
abbrev ue:Av:=⟨.fn,1,8,[.val .nilFunc]⟩
abbrev ud:Av:=⟨.fn,1,8,[.val .nilFunc]⟩
abbrev uc:Av:=⟨.fn,1,8,[.val .nilFunc]⟩
abbrev ub:Av:=⟨.fn,1,8,[.val .nilFunc]⟩
abbrev ua:Av:=⟨.fn,1,8,[.val .nilFunc]⟩
abbrev t9:Av:=⟨.fn,1,8,[.val .nilFunc]⟩
abbrev t8:Av:=⟨.fn,1,8,[.val .nilFunc]⟩
abbrev t7:Av:=⟨.struct [(0,17),(1,17),(2,17),(3,9)],4,40,[.nilp,.nilp,.nilp,.str ⟨#[]⟩]⟩
abbrev tZ:Av:=⟨.struct [(0,17),(1,17),(2,17),(3,9)],4,40,[.nilp,.nilp,.nilp,.str ⟨#[]⟩]⟩
abbrev tY:Av:=⟨.array 0 16,0,0,[]⟩
abbrev tX:Av:=⟨.other,0,0,[]⟩
abbrev tW:Av:=⟨.other,0,0,[]⟩
abbrev tV:Av:=⟨.fn,1,8,[.val .nilFunc]⟩
abbrev tU:Av:=⟨.int .u8,1,1,[.int .u8 0]⟩
abbrev tT:Av:=⟨.int .u8,1,1,[.int .u8 0]⟩
abbrev tQ:Av:=⟨.fn,1,8,[.val .nilFunc]⟩
abbrev tP:Av:=⟨.ptr 5,1,8,[.nilp]⟩
abbrev tO:Av:=⟨.int .i32,1,4,[.int .i32 0]⟩
abbrev tM:Av:=⟨.int .i32,1,4,[.int .i32 0]⟩
abbrev tL:Av:=⟨.struct [(0,12),(1,12),(2,89),(3,193),(4,5),(5,5),(6,194),(7,195),(8,196),(9,197),(10,198)],11,48,[.int .u64 0,.int .u64 0,.int .u32 0,.int .u8 0,.int .u8 0,.int .u8 0,.int .u8 0,.val .nilFunc,.nilp,.int .i32 0,.int .i32 0]⟩
abbrev tK:Av:=⟨.struct [(0,12),(1,12),(2,89),(3,193),(4,5),(5,5),(6,194),(7,195),(8,196),(9,197),(10,198)],11,48,[.int .u64 0,.int .u64 0,.int .u32 0,.int .u8 0,.int .u8 0,.int .u8 0,.int .u8 0,.val .nilFunc,.nilp,.int .i32 0,.int .i32 0]⟩
abbrev tJ:Av:=⟨.fn,1,8,[.val .nilFunc]⟩
abbrev tH:Av:=⟨.other,1,0,[]⟩
abbrev tG:Av:=⟨.fn,1,8,[.val .nilFunc]⟩
abbrev tF:Av:=⟨.ptr 208,1,8,[.nilp]⟩
abbrev tE:Av:=⟨.map 218 3,1,8,[.val (.map none)]⟩
abbrev tD:Av:=⟨.slice 218,1,24,[.nil]⟩
abbrev tC:Av:=⟨.struct [(0,3),(1,205),(2,206)],3,40,[.int .i64 0,.val (.map none),.nil]⟩
abbrev tB:Av:=⟨.struct [(0,3),(1,205),(2,206)],3,40,[.int .i64 0,.val (.map none),.nil]⟩
abbrev tA:Av:=⟨.slice 214,1,24,[.nil]⟩
abbrev tz:Av:=⟨.struct [(0,204),(1,25),(2,209),(3,3)],4,64,[.nilp,.nil,.nil,.int .i64 0]⟩
abbrev tw:Av:=⟨.struct [(0,204),(1,25),(2,209),(3,3)],4,64,[.nilp,.nil,.nil,.int .i64 0]⟩
abbrev tv:Av:=⟨.fn,1,8,[.val .nilFunc]⟩
abbrev tu:Av:=⟨.array 6 3,6,48,[.int .i64 0,.int .i64 0,.int .i64 0,.int .i64 0,.int .i64 0,.int .i64 0]⟩
abbrev tt:Av:=⟨.array 6 3,6,48,[.int .i64 0,.int .i64 0,.int .i64 0,.int .i64 0,.int .i64 0,.int .i64 0]⟩
abbrev tr:Av:=⟨.ptr 211,1,8,[.nilp]⟩
abbrev tp:Av:=⟨.fn,1,8,[.val .nilFunc]⟩
abbrev tn:Av:=⟨.array 4 3,4,32,[.int .i64 0,.int .i64 0,.int .i64 0,.int .i64 0]⟩
abbrev tj:Av:=⟨.array 4 3,4,32,[.int .i64 0,.int .i64 0,.int .i64 0,.int .i64 0]⟩
abbrev th:Av:=⟨.fn,1,8,[.val .nilFunc]⟩
abbrev tg:Av:=⟨.other,1,0,[]⟩
abbrev tf:Av:=⟨.fn,1,8,[.val .nilFunc]⟩
abbrev te:Av:=⟨.other,1,0,[]⟩
abbrev td:Av:=⟨.fn,1,8,[.val .nilFunc]⟩
abbrev tc:Av:=⟨.fn,1,8,[.val .nilFunc]⟩
abbrev ta:Av:=⟨.fn,1,8,[.val .nilFunc]⟩
abbrev s9:Av:=⟨.fn,1,8,[.val .nilFunc]⟩
abbrev s8:Av:=⟨.fn,1,8,[.val .nilFunc]⟩
abbrev sZ:Av:=⟨.other,1,0,[]⟩
abbrev sY:Av:=⟨.fn,1,8,[.val .nilFunc]⟩
abbrev sX:Av:=⟨.fn,1,8,[.val .nilFunc]⟩
abbrev sW:Av:=⟨.fn,1,8,[.val .nilFunc]⟩
abbrev sV:Av:=⟨.fn,1,8,[.val .nilFunc]⟩
abbrev sU:Av:=⟨.fn,1,8,[.val .nilFunc]⟩
abbrev sT:Av:=⟨.slice 236,1,24,[.nil]⟩
abbrev sS:Av:=⟨.struct [(0,3),(1,3)],2,16,[.int .i64 0,.int .i64 0]⟩
abbrev sR:Av:=⟨.struct [(0,3),(1,3)],2,16,[.int .i64 0,.int .i64 0]⟩
abbrev sQ:Av:=⟨.ptr 236,1,8,[.nilp]⟩
abbrev sP:Av:=⟨.other,1,8,[.nilp]⟩
def TI(t:Nat):Option Av:=bif Nat.blt t 239 then(bif Nat.blt t 119 then(bif Nat.blt t 59 then(bif Nat.blt t 29 then(bif Nat.blt t 14 then(bif Nat.blt t 7 then(bif Nat.blt t 3 then(bif Nat.blt t 1 then some ze else(bif Nat.blt t 2 then some zd else some zc))else(bif Nat.blt t 5 then(bif Nat.blt t 4 then some yZ else some zb)else(bif Nat.blt t 6 then some za else some y9)))else(bif Nat.blt t 10 then(bif Nat.blt t 8 then some y8 else(bif Nat.blt t 9 then some y7 else some y6))else(bif Nat.blt t 12 then(bif Nat.blt t 11 then some yJ else some yI)else(bif Nat.blt t 13 then some yH else some yG))))else(bif Nat.blt t 21 then(bif Nat.blt t 17 then(bif Nat.blt t 15 then some yF else(bif Nat.blt t 16 then some yE else some yD))else(bif Nat.blt t 19 then(bif Nat.blt t 18 then some yC else some yB)else(bif Nat.blt t 20 then some yA else some yz)))else(bif Nat.blt t 25 then(bif Nat.blt t 23 then(bif Nat.blt t 22 then some yx else some yw)else(bif Nat.blt t 24 then some yu else some yt))else(bif Nat.blt t 27 then(bif Nat.blt t 26 then some yr else some yq)else(bif Nat.blt t 28 then some yp else some yn)))))else(bif Nat.blt t 44 then(bif Nat.blt t 36 then(bif Nat.blt t 32 then(bif Nat.blt t 30 then some ym else(bif Nat.blt t 31 then some yk else some yj))else(bif Nat.blt t 34 then(bif Nat.blt t 33 then some yi else some yh)else(bif Nat.blt t 35 then some yg else some yf)))else(bif Nat.blt t 40 then(bif Nat.blt t 38 then(bif Nat.blt t 37 then some ye else some yd)else(bif Nat.blt t 39 then some yc else some yb))else(bif Nat.blt t 42 then(bif Nat.blt t 41 then some ya else some x9)else(bif Nat.blt t 43 then some x8 else some xZ))))else(bif Nat.blt t 51 then(bif Nat.blt t 47 then(bif Nat.blt t 45 then some xY else(bif Nat.blt t 46 then some xX else some xW))else(bif Nat.blt t 49 then(bif Nat.blt t 48 then some xV else some xU)else(bif Nat.blt t 50 then some xT else some xS)))else(bif Nat.blt t 55 then(bif Nat.blt t 53 then(bif Nat.blt t 52 then some xR else some xQ)else(bif Nat.blt t 54 then some xP else some xO))else(bif Nat.blt t 57 then(bif Nat.blt t 56 then some xN else some xM)else(bif Nat.blt t 58 then some xL else some xK))))))else(bif Nat.blt t 89 then(bif Nat.blt t 74 then(bif Nat.blt t 66 then(bif Nat.blt t 62 then(bif Nat.blt t 60 then some xJ else(bif Nat.blt t 61 then some xI else some xH))else(bif Nat.blt t 64 then(bif Nat.blt t 63 then some xG else some xF)else(bif Nat.blt t 65 then some xE else some xD)))else(bif Nat.blt t 70 then(bif Nat.blt t 68 then(bif Nat.blt t 67 then some xC else some xB)else(bif Nat.blt t 69 then some xA else some xz))else(bif Nat.blt t 72 then(bif Nat.blt t 71 then some xy else some xw)else(bif Nat.blt t 73 then some xu else some xt))))else(bif Nat.blt t 81 then(bif Nat.blt t 77 then(bif Nat.blt t 75 then some xr else(bif Nat.blt t 76 then some xq else some xp))else(bif Nat.blt t 79 then(bif Nat.blt t 78 then some xn else some xm)else(bif Nat.blt t 80 then some xk else some xj)))else(bif Nat.blt t 85 then(bif Nat.blt t 83 then(bif Nat.blt t 82 then some xi else some xh)else(bif Nat.blt t 84 then some xg else some xf))else(bif Nat.blt t 87 then(bif Nat.blt t 86 then some xe else some xd)else(bif Nat.blt t 88 then some xc else some xb)))))else(bif Nat.blt t 104 then(bif Nat.blt t 96 then(bif Nat.blt t 92 then(bif Nat.blt t 90 then some xa else(bif Nat.blt t 91 then some w9 else some ty91))else(bif Nat.blt t 94 then(bif Nat.blt t 93 then some w8 else some w7)else(bif Nat.blt t 95 then some wZ else some wY)))else(bif Nat.blt t 100 then(bif Nat.blt t 98 then(bif Nat.blt t 97 then some wX else some wW)else(bif Nat.blt t 99 then some wV else some wU))else(bif Nat.blt t 102 then(bif Nat.blt t 101 then some vM else some vL)else(bif Nat.blt t 103 then some vK else some vJ))))else(bif Nat.blt t 111 then(bif Nat.blt t 107 then(bif Nat.blt t 105 then some vI else(bif Nat.blt t 106 then some vH else some vG))else(bif Nat.blt t 109 then(bif Nat.blt t 108 then some vF else some vE)else(bif Nat.blt t 110 then some vD else some vC)))else(bif Nat.blt t 115 then(bif Nat.blt t 113 then(bif Nat.blt t 112 then some vB else some vA)else(bif Nat.blt t 114 then some vz else some vy))else(bif Nat.blt t 117 then(bif Nat.blt t 116 then some vx else some vv)else(bif Nat.blt t 118 then some vu else some vt)))))))else(bif Nat.blt t 179 then(bif Nat.blt t 149 then(bif Nat.blt t 134 then(bif Nat.blt t 126 then(bif Nat.blt t 122 then(bif Nat.blt t 120 then some vr else(bif Nat.blt t 121 then some vq else some vp))else(bif Nat.blt t 124 then(bif Nat.blt t 123 then some vo else some vn)else(bif Nat.blt t 125 then some vm else some vk)))else(bif Nat.blt t 130 then(bif Nat.blt t 128 then(bif Nat.blt t 127 then some vj else some vi)else(bif Nat.blt t 129 then some vh else some vg))else(bif Nat.blt t 132 then(bif Nat.blt t 131 then some vf else some ve)else(bif Nat.blt t 133 then some vd else some vc))))else(bif Nat.blt t 141 then(bif Nat.blt t 137 then(bif Nat.blt t 135 then some u9 else(bif Nat.blt t 136 then some u7 else some u6))else(bif Nat.blt t 139 then(bif Nat.blt t 138 then some uZ else some uY)else(bif Nat.blt t 140 then some uX else some uW)))else(bif Nat.blt t 145 then(bif Nat.blt t 143 then(bif Nat.blt t 142 then some uV else some uU)else(bif Nat.blt t 144 then some uT else some uS))else(bif Nat.blt t 147 then(bif Nat.blt t 146 then some uR else some uQ)else(bif Nat.blt t 148 then some uP else some uO)))))else(bif Nat.blt t 164 then(bif Nat.blt t 156 then(bif Nat.blt t 152 then(bif Nat.blt t 150 then some uN else(bif Nat.blt t 151 then some uM else some uL))else(bif Nat.blt t 154 then(bif Nat.blt t 153 then some uK else some uJ)else(bif Nat.blt t 155 then some uI else some uH)))else(bif Nat.blt t 160 then(bif Nat.blt t 158 then(bif Nat.blt t 157 then some uG else some uF)else(bif Nat.blt t 159 then some uE else some uD))else(bif Nat.blt t 162 then(bif Nat.blt t 161 then some uC else some uB)else(bif Nat.blt t 163 then some uA else some uz))))else(bif Nat.blt t 171 then(bif Nat.blt t 167 then(bif Nat.blt t 165 then some uy else(bif Nat.blt t 166 then some ux else some uv))else(bif Nat.blt t 169 then(bif Nat.blt t 168 then some uu else some ut)else(bif Nat.blt t 170 then some ur else some uq)))else(bif Nat.blt t 175 then(bif Nat.blt t 173 then(bif Nat.blt t 172 then some uo else some um)else(bif Nat.blt t 174 then some ul else some uk))else(bif Nat.blt t 177 then(bif Nat.blt t 176 then some uj else some ui)else(bif Nat.blt t 178 then some uh else some ug))))))else(bif Nat.blt t 209 then(bif Nat.blt t 194 then(bif Nat.blt t 186 then(bif Nat.blt t 182 then(bif Nat.blt t 180 then some uf else(bif Nat.blt t 181 then some ue else some ud))else(bif Nat.blt t 184 then(bif Nat.blt t 183 then some uc else some ub)else(bif Nat.blt t 185 then some ua else some t9)))else(bif Nat.blt t 190 then(bif Nat.blt t 188 then(bif Nat.blt t 187 then some t8 else some t7)else(bif Nat.blt t 189 then some tZ else some tY))else(bif Nat.blt t 192 then(bif Nat.blt t 191 then some tX else some tW)else(bif Nat.blt t 193 then some tV else some tU))))else(bif Nat.blt t 201 then(bif Nat.blt t 197 then(bif Nat.blt t 195 then some tT else(bif Nat.blt t 196 then some tQ else some tP))else(bif Nat.blt t 199 then(bif Nat.blt t 198 then some tO else some tM)else(bif Nat.blt t 200 then some tL else some tK)))else(bif Nat.blt t 205 then(bif Nat.blt t 203 then(bif Nat.blt t 202 then some tJ else some tH)else(bif Nat.blt t 204 then some tG else some tF))else(bif Nat.blt t 207 then(bif Nat.blt t 206 then some tE else some tD)else(bif Nat.blt t 208 then some tC else some tB)))))else(bif Nat.blt t 224 then(bif Nat.blt t 216 then(bif Nat.blt t 212 then(bif Nat.blt t 210 then some tA else(bif Nat.blt t 211 then some tz else some tw))else(bif Nat.blt t 214 then(bif Nat.blt t 213 then some tv else some tu)else(bif Nat.blt t 215 then some tt else some tr)))else(bif Nat.blt t 220 then(bif Nat.blt t 218 then(bif Nat.blt t 217 then some tp else some tn)else(bif Nat.blt t 219 then some tj else some th))else(bif Nat.blt t 222 then(bif Nat.blt t 221 then some tg else some tf)else(bif Nat.blt t 223 then some te else some td))))else(bif Nat.blt t 231 then(bif Nat.blt t 227 then(bif Nat.blt t 225 then some tc else(bif Nat.blt t 226 then some ta else some s9))else(bif Nat.blt t 229 then(bif Nat.blt t 228 then some s8 else some sZ)else(bif Nat.blt t 230 then some sY else some sX)))else(bif Nat.blt t 235 then(bif Nat.blt t 233 then(bif Nat.blt t 232 then some sW else some sV)else(bif Nat.blt t 234 then some sU else some sT))else(bif Nat.blt t 237 then(bif Nat.blt t 236 then some sS else some sR)else(bif Nat.blt t 238 then some sQ else some sP))))))))else none
theorem pY:(List.range 239).map TI=(List.range 239).map (aO Go.Proofs.Tryz.prog):=by kernel_rfl
theorem Ai:CE Go.Proofs.Tryz.prog TI:=by
 intro t i h
 by_cases c:t<239
 . have h1:((List.range 239).map TI)[t]?=((List.range 239).map (aO Go.Proofs.Tryz.prog))[t]?:=by rw[pY]
   rw[q54,q54,q44 c]at h1;simp only[q80,q53]at h1;rw[<-h1,h]
 . have h2:Nat.blt t 239=false:=by
    rw[q64];intro hc;exact c (qZ6.mp hc)
   unfold TI at h;rw[h2]at h
   cases h
theorem mix:Go.Proofs.Tryz.prog.follows .mixedOrders=true:=by kernel_rfl
structure Tac where
  op:Int
  d:Int
  a:Int
  b:Int
  k:Int
  base:Int
  size:Int
  n:Int
  deriving DecidableEq,Repr
structure Block where
  ins:List Tac
  fin:Int
  v:Int
  to:Int
  els:Int
  deriving DecidableEq,Repr
structure BFunc where
  regs:Int
  blocks:List Block
  deriving DecidableEq,Repr
structure Blocks where
  words:Int
  funcs:List BFunc
  deriving DecidableEq,Repr
structure Cert where
  same:List (List Bool)
  deriving DecidableEq,Repr
def Tac.cells(t:Tac):List AV:=[.int .i64 t.op,.int .i64 t.d,.int .i64 t.a,.int .i64 t.b,.int .i64 t.k,.int .i64 t.base,.int .i64 t.size,.int .u32 t.n]
def EB(l:List Tac):AV:=.lst false (l.map Tac.cells)
def Block.cells(b:Block):List AV:=[EB b.ins,.int .i64 b.fin,.int .i64 b.v,.int .i64 b.to,.int .i64 b.els]
def BZ(l:List Block):AV:=.lst false (l.map Block.cells)
def BFunc.cells(f:BFunc):List AV:=[.int .i64 f.regs,BZ f.blocks]
def Og(l:List BFunc):AV:=.lst false (l.map BFunc.cells)
def Blocks.cells(b:Blocks):List AV:=[.int .i64 b.words,Og b.funcs]
def Cf(l:List Bool):AV:=.lst false (l.map fun b=>[.bool b])
def AS(l:List Int):AV:=.lst false (l.map fun b=>[.int .i64 b])
def OZ(l:List (List Bool)):AV:=.lst false (l.map fun r=>[Cf r])
def AO(l:List (List Int)):AV:=.lst false (l.map fun r=>[AS r])
def Cert.cells(c:Cert):List AV:=[OZ c.same]
variable {α : Type} {k : Nat}
theorem Aw{l:List α}{f:α->List AV}{x:α}(h:l[k]?=some x):(l.map f)[((k:Nat):Int).toNat]?=some (f x):=by
 rw[q55,q54,h];rfl
theorem Af{l:List α}(h:k<l.length):∃x,l[k]?=some x:=⟨l[k],q13 h⟩
theorem AY{l:List α}{x:α}(h:l[k]?=some x):l.take (k+1)=l.take k++[x]:=by
 rw[q59,h];rfl
def ma(l:List Tac):Prop:=l.length<=maxLen
def Block.fits(x:Block):Prop:=x.ins.length<=maxLen
def PT(l:List Block):Prop:=l.length<=maxLen/\∀x∈l,x.fits
def BFunc.fits(f:BFunc):Prop:=PT f.blocks
def Sn(l:List BFunc):Prop:=l.length<=maxLen/\∀f∈l,f.fits
def Blocks.fits(b:Blocks):Prop:=Sn b.funcs
variable {H : AA} {ι : Bp} {ex : Bool} {v : Value}
theorem O3{l:List α}{f:α->List AV}(h:Rel H ι (.lst ex (l.map f)) v):
 l.length<=maxLen/\∀x∈l,∀(j:Nat) (y:AV),(f x)[j]?=some y->∃u,Rel H A7 y u:=by
 refine⟨by have:=lK h;simpa using this,fun x hx j y hy=>?_⟩;obtain⟨i,hi⟩:=q27.1 hx;rcases h.lst_inv with⟨h0,_⟩|⟨_,b,off,cap,sz,c,vals,_,_,_,_,hr,_⟩
 . rw[List.map_eq_nil_iff]at h0;subst h0;simp at hi
 . exact⟨_,hr i (f x) j y (by rw[q54,hi];rfl) hy⟩
theorem k9{l:List Tac}(h:Rel H ι (EB l) v):ma l:=(O3 h).1
theorem O4{l:List Block}(h:Rel H ι (BZ l) v):PT l:=by
 obtain⟨h1,h2⟩:=O3 h;exact⟨h1,fun x hx=>by obtain⟨u,hu⟩:=h2 x hx 0 _ rfl;exact k9 hu⟩
variable {cs : List AV} {x : AV}
theorem UX(h:Rel H ι (.agg cs) v){j:Nat}(hj:cs[j]?=some x):∃u,Rel H ι x u:=by
 obtain⟨us,_,hl,hr⟩:=h.agg_inv;have hlt:j<us.size:=by rw[<-hl];exact(q05.1 hj).1
 obtain⟨u,hu⟩:=BJ hlt;exact⟨u,hr j x u hj hu⟩
theorem Rk{f:BFunc}(h:Rel H ι (.agg f.cells) v):f.fits:=by
 obtain⟨u,hu⟩:=UX h (j:=1) rfl;exact O4 hu
theorem bD{l:List BFunc}(h:Rel H ι (Og l) v):Sn l:=by
 obtain⟨h1,h2⟩:=O3 h;exact⟨h1,fun x hx=>by obtain⟨u,hu⟩:=h2 x hx 1 _ rfl;exact O4 hu⟩
theorem UW{b:Blocks}(h:Rel H ι (.agg b.cells) v):b.fits:=by
 obtain⟨u,hu⟩:=UX h (j:=1) rfl;exact bD hu
variable {s : Al} {c : Code}
theorem Mf{P:Program}{Q:Exit->Al->Prop}(t:Nat){φ:Prop}(ht:s.env t=some x)(hf:∀H ι v,Rel H ι x v->φ)(h:φ->AGo P c s Q):AGo P c s Q:=
 jP (fun H ι a w hs=>by obtain⟨v,_,hv⟩:=hs.env t x ht;exact hf H ι v hv) h
variable {β : Type}
theorem DT{l:List α}{f:α->β}(h:decide ((k:Int)<(((l.map f).length:Nat):Int))=true):k<l.length:=by simpa using h
theorem DW{l:List α}{f:α->β}(h:decide ((k:Int)<(((l.map f).length:Nat):Int))=false):l.length<=k:=by simpa using h
theorem Tac.eqCells(x y:Tac):Sv.eqCells x.cells y.cells=some (decide (x=y)):=by
 have h:Sv.eqCells x.cells y.cells=some (x.op==y.op&&(x.d==y.d&&(x.a==y.a&&(x.b==y.b&&(x.k==y.k&&(x.base==y.base&&(x.size==y.size&&(x.n==y.n&&true)))))))):=rfl;rw[h];congr 1;obtain⟨a1,a2,a3,a4,a5,a6,a7,a8⟩:=x;obtain⟨b1,b2,b3,b4,b5,b6,b7,b8⟩:=y;rw[Bool.eq_iff_iff];simp[Tac.mk.injEq]
variable {P : Program} {T : Nat -> Option Av} {o : Oper} {e : Ax} {h : Ad}
variable {xs : List AV}
theorem GO{f:Fn}{first captured:Array Operand}(ho:o.op=.makeFunc f first captured)(hx:A8 e first.toList=some xs)(hc:A8 e captured.toList=some cs):QLoc P o e h [] (.fn f xs cs):=by
 intro H ι a w s hs g1 g2;have hx':A8 s.env first.toList=some xs:=by
  rw[FT (e:=e) (fun x hx=>g1 x (by rw[ho];simp[Op.operands];exact .inl (by simpa using hx)))];exact hx
 have hc':A8 s.env captured.toList=some cs:=by
  rw[FT (e:=e) (fun x hx=>g1 x (by rw[ho];simp[Op.operands];exact .inr (by simpa using hx)))];exact hc
 have h1:=Cl hs hx';have h2:=Cl hs hc';refine⟨.func f (first.map a.eval) (captured.map a.eval),.fn _ _ _ _ _ _ h1.1 h2.1 h1.2 h2.2,?_⟩;simp only[execOp,ho,Instr.makeFunc,qQ9,qX1,q57]
variable {us : Array Value}
theorem CF{ys:List AV}{vs:Array Value}(h1:RelAll H ι xs us)(h2:RelAll H ι ys vs):RelAll H ι (xs++ys) (us++vs):=by
 refine⟨by simp[h1.1,h2.1],fun j x v g1 g2=>?_⟩
 by_cases hj:j<xs.length
 . rw[q06 hj]at g1;rw[q04 (by rw[<-h1.1];exact hj)]at g2;exact h1.2 j x v g1 g2
 . rw[q02 z144q]at g1;rw[Array.getElem?_append_right (by rw[<-h1.1];omega),<-h1.1]at g2;exact h2.2 _ x v g1 g2
variable {x : Operand} {f : FuncId} {fn : Func} {args : Array Operand} {tys : Array TypeId} {r : AV}
theorem N6{fs:List AV}{hc hw:Ad}(L:List Nat)(W:List (Nat×AObj))(ho:o.op=.call {callee:=.value x,args:=args,argTypes:=tys})(hfn:An e x=some (.fn (.func f) fs cs))(hf:P.funcs[f]?=some fn)(hn:(fn.name== "runtime.NumGoroutine")=false)(hb:fn.body.isSome=true)
 (hx:A8 e args.toList=some xs) (hxa:(fs++xs++cs).all (AV.avoid (mem L))=true) (hL:AllL L fun b=>∃q,h b=some q/\q.avoid (mem L)=true) (hW:W.all (fun p=>mem L p.1)=true) (hres':hres h L=hc)
 (hk:AllL L fun b=>∃q,hw b=some q/\hputs h W b=some q/\q.avoid (mem L)=true) (hra:r.avoid (mem L)=true)
 (hcall:ACall P f (fs++xs++cs) hc (fun r' h'=>r'=r/\HSub hw h')):OLoc P o e h L W (some r):=by
 intro H ι a w s Q hs g1 g2;have hx':A8 s.env args.toList=some xs:=by
  exact dM
 have hfn':An s.env x=some (.fn (.func f) fs cs):=by rw[g1 x Fu,hfn]
 have hvf:=Ao hs hfn';obtain⟨us,vs,hve,k1,k2,k3,k4⟩:=hvf.fn_inv;have hraa:=CF (CF ⟨k1,k3⟩ (Cl hs hx')) ⟨k2,k4⟩;have hra':RelAll H (lcut ι (mem L)) (fs++xs++cs) (us++args.map a.eval++vs):=⟨hraa.1,fun j x v h1 h2=>Ex (hraa.2 j x v h1 h2) (Fq hxa h1)⟩;have hLs:∀b∈L,∃q,s.h b=some q/\q.avoid (mem L)=true:=fun b hb=>by rw[g2 b hb];exact hL.get b hb
 have hres2:hres s.h L=hc:=by
  exact nt
 have hrc:HeapRel H (lcut ι (mem L)) (hres s.h L) w:=by
  exact rE
 have hcalls:=hcall H (lcut ι (mem L)) w _ hra' (hres2▸hrc);have hexec:(execOp a.eval o).run P w=.ok (.enter f (us++args.map a.eval++vs)) w:=by
  simp only[execOp,ho,resolve,hve,Deferred.ofValue,invoke,qQ9,qX1,q57,Cp hf hn hb]
 exact rC
variable {j i : Av} {b n len sz u : Nat} {t : TypeId} {y : Operand} {p : Bool} {es : List (List AV)}
theorem FZ(hT:CE P T){m:Nat}{k:IntKind}{z:Int}(ho:o.op=.slice t x none (some y) none)(hx:An e x=some (.ref b n 0 len))(hy:An e y=some (.int k z))(ht:T t=some i)(hk:i.k=.slice u)(hj:T u=some j)
 (hb:h b=some (.row p sz es)) (hn:n=es.length) (hz:z=(m:Int)) (hm:m<=len):QLoc P o e h [b] (.ref b n 0 m):=by
 intro H ι a w s hs g1 g2;have hx':An s.env x=some (.ref b n 0 len):=by rw[g1 x Bx,hx]
 have hy':An s.env y=some (.int k z):=by rw[g1 y Bx,hy]
 have hb':s.h b=some (.row p sz es):=by rw[g2 b z145q,hb]
 subst hz;obtain⟨info,d,e1,e2,e3,e4,e5,e6⟩:=Am (hT _ _ ht);obtain⟨info',d',e1',e2',e3',e4',e5',e6'⟩:=Am (hT _ _ hj);have hd:=BF (P:=P) (d:=d) (e3▸hk);subst hd;have hvx:=Ao hs hx';have hvy:=(Ao hs hy').int_inv;generalize hva:a.eval x=va at hvx;obtain⟨r,hl,⟨r1,r2,r3,r4,r5,r6⟩,r7⟩:=hs.heap.obj b _ hb' rfl;have hrun:∀(ad:Option Addr) (cap:Nat),m<=cap->va=.slice ad len cap->(execOp a.eval o).run P w=.ok (.value (.slice (if cap=0 then ad else ad.map (·.add (0*j.size))) (m-0) (cap-0))) w:=fun ad cap hcap hv=>by
  simp only[execOp,ho,hva,hv,hvy,Instr.sliceAt,Instr.slice,Option.map_none,q80,qQ9,Aq e2,q57,Gx e1',e4',qX1];simp[Instr.sliceBounds,Instr.sliceBound,asIntOf,hcap]
 by_cases hsol:r.csz=0
 . obtain⟨hl0,ad,rfl,hsp⟩:=hvx.ref_dry hl z144q hsol z144q;subst hl0;obtain rfl:m=0:=by omega
   refine⟨_,?_,hrun ad 0 (qZ0 _) rfl⟩;simpa using hvx
 . obtain⟨hlen,cap,rfl,hlc,hcap,hmax⟩:=hvx.ref_live hl z144q hsol;refine⟨_,?_,hrun _ cap z144q rfl⟩;have:=Rel.refL (H:=H) ι b n 0 m cap r hl z144q z144q z144q hcap hmax;have hadd:(if cap=0 then some (⟨r.rb,0*r.sz,none⟩:Addr)else(some (⟨r.rb,0*r.sz,none⟩:Addr)).map (·.add (0*j.size)))=some ⟨r.rb,0*r.sz,none⟩:=by
    split
    . rfl
    . simp[Addr.add]
   rw[hadd];simpa using this
variable {t' : TypeId} {i' : Av} {u' : Nat} {cs2 : List AV} {q : AV} {R : List Nat}
theorem XW(hT:CE P T)
 (ho:o.op=.call {callee:=.builtin .append,args:= #[x,y],argTypes:= #[t,t']}) (hx:An e x=some (.ref b n 0 len)) (hy:An e y=some q) (hi:T t=some i) (hk:i.k=.slice u) (hj:T u=some j) (hi':T t'=some i') (hk':i'.k=.slice u')
 (hb:h b=some (.row p sz es)) (hn:n=es.length) (hlt:len<n) (hsz:sz=j.size) (hp:0<j.size)
 (hsrc:SrcOf h q R [cs2]) (hu2:cs2.length=sz) (hpure:p=true->cs2.all AV.isPure1=true):
 OLoc P o e h (b::R) [(b,.row p sz (es.set len cs2))] (some (.ref b n 0 (len+1))):=by
 intro H ι a w s Q hs g1 g2;have hx':An s.env x=some (.ref b n 0 len):=by rw[g1 x Fu,hx]
 have hy':An s.env y=some q:=by rw[g1 y Fu,hy]
 have hb':s.h b=some (.row p sz es):=by rw[g2 b z145q,hb]
 have hsrc':=hsrc.agree (h':=s.h) (fun c hc=>g2 c K4);obtain⟨info,d,e1,e2,e3,e4,e5,e6⟩:=Am (hT _ _ hi);obtain⟨infou,du,f1,f2,f3,f4,f5,f6⟩:=Am (hT _ _ hj);obtain⟨info',d',e1',e2',e3',e4',e5',e6'⟩:=Am (hT _ _ hi');have hd:=BF (P:=P) (d:=d) (e3▸hk);subst hd;have hd':=BF (P:=P) (d:=d') (e3'▸hk');subst hd';subst hsz;subst hn;obtain⟨r,hl,⟨r1,r2,r3,r4,r5,r6⟩,r7⟩:=hs.heap.obj b _ hb' rfl;have hvx:=Ao hs hx';have hvy:=Ao hs hy';generalize hva:a.eval x=va at hvx;generalize hvb:a.eval y=vb at hvy;have hexec:∀(v:Value) (w':World),(Builtin.append_ #[t,t'] o.type #[va,vb]).run P w=.ok v w'->(execOp a.eval o).run P w=.ok (.value v) w':=fun v w' hrun=>by
  exact aj
 obtain⟨news,hsrcw,hnews⟩:=Ms hs.heap hsrc' hvy e2' hp (by intro cs h;simp at h;subst h;exact hu2) w rfl;rw[<-f4]at hsrcw;have hnl:news.length=j.size:=by rw[hsrcw.newsLen,f4];simp
 have hsol:r.csz≠0:=fun h0=>by
  have:0<es.length*j.size:=Nat.mul_pos z144q hp;omega
 obtain⟨hlen,cap,hvv,hlc,hcap,hmax⟩:=hvx.ref_live hl z144q hsol;obtain⟨c,TT,w1,w2,w3⟩:=r6 hsol;simp only[Nat.zero_mul,qQ8]at hcap hvv;have hcs:c.size=cap*j.size:=by rw[w2,<-hcap,r1]
 have hmul:(len+1)*j.size<=es.length*j.size:=q34 _ z144q;have hmul':(len+1)*j.size=len*j.size+j.size:=by rw[qZ2,Nat.one_mul]
 have hroom:len+1<=cap:=by
  refine Nat.le_of_mul_le_mul_right (c:=j.size) ?_ hp;rw[<-hcs,w2];omega
 have hfit:len*infou.size+news.length<=c.size:=by rw[hnl,f4,w2];omega
 have hrun:=ED (P:=P) (w:=w) t t' o.type u infou e2 f1 r.rb len cap c TT w1 vb 1 news hsrcw hroom hfit;rw[f4]at hrun hfit;generalize hC:(c.toList.take (len*j.size)++news++c.toList.drop (len*j.size+news.length)).toArray=C at*;have hCs:C.size=c.size:=by rw[<-hC];simp;omega
 have hget:∀k:Nat,C[k]?=if k<len*j.size then c[k]? else if k<len*j.size+j.size then news[k-len*j.size]? else c[k]?:=fun k=>by
  rw[<-hC];simp only[List.getElem?_toArray];have hm:(c.toList.take (len*j.size)).length=len*j.size:=by simp;omega
  by_cases h1:k<len*j.size
  . rw[qK0 h1,q06 (by rw[q48,hm];omega),q06 (by rw[hm];exact h1),q14 h1,q29]
  . rw[qZ9 h1]
    by_cases h2:k<len*j.size+j.size
    . rw[qK0 h2,q06 (by rw[q48,hm,hnl];exact h2),q02 (by rw[hm];omega),hm]
    . rw[qZ9 h2,q02 (by rw[q48,hm,hnl];omega),q48,hm,hnl,q49,q29];congr 1;omega
 have hll:LLe ι (D1 ι b r):=LLe.put fun r' hr'=>by rw[hl]at hr';cases hr';exact .inl rfl
 have hlens:∀(i:Nat) (cs:List AV),(es.set len cs2)[i]?=some cs->cs.length=j.size:=fun i cs hc=>by
  by_cases hi:len=i
  . subst hi;rw[q21 hlt]at hc;cases hc;exact hu2
  . rw[q36 hi]at hc;exact r5 i cs hc
 have hrow:rowCells H (bif p then A7 else D1 ι b r) j.size (es.set len cs2) C:=by
  refine⟨hlens,fun i cs k y hc hk=>?_⟩;have hkk:k<j.size:=by
   rw[<-hlens i cs hc];exact(q05.1 hk).1
  have hi:i<es.length:=by
   have:=(q05.1 hc).1;simpa using this
  by_cases hil:len=i
  . subst hil;rw[q21 hlt]at hc;cases hc;obtain⟨v,k1,k2,k3⟩:=hnews 0 cs2 k y rfl hk;rw[Nat.zero_mul,qQ8]at k1;refine⟨v,by rw[hget,qZ9 z144q,qK0 z144q,Nat.add_sub_cancel_left];exact k1,?_,k3⟩
    cases p with
    |false=>exact k2.mono (KLe.refl _) hll
    |true=>exact Dp (q67.1 (hpure rfl) y (q33 hk)) k2
  . rw[q36 hil]at hc;obtain⟨v,k1,k2,k3⟩:=w3.2 i cs k y hc hk;refine⟨v,?_,?_,k3⟩
    . rw[hget]
      by_cases h1:i<len
      . have:(i+1)*j.size<=len*j.size:=q34 _ z144q;rw[qZ2,Nat.one_mul]at this;rw[qK0 z144q];exact k1
      . have:(len+1)*j.size<=i*j.size:=q34 _ z144q;rw[qZ9 z144q,qZ9 z144q];exact k1
    . cases p with
      |false=>exact k2.mono (KLe.refl _) hll
      |true=>exact k2
 obtain⟨u1,u2⟩:=hs.heap.upd (w':=w.setRow r.rb C) (o0:=.row p j.size es) (o':=.row p j.size (es.set len cs2)) (r':=r) hb' rfl
  (.inr ⟨r,hl,rfl,.inl rfl⟩) (fun _=>.inr ⟨r,hl,rfl,hsol,rfl⟩)
  (fun rb hlt' hne=>setRow_other w r.rb rb _ (hne r hl rfl hsol)) z145q (Mv _ _ _) (KI _ _ _)
  ⟨r1,r2,by simp[r3],by simpa using r4,hrow.1,fun _=>⟨C,TT,w1.setRow hCs,hCs.trans w2,hrow⟩⟩
 have hex:=hexec _ _ (hvv▸hrun);unfold Oper.wp;rw[hex];refine⟨_,H,_,rfl,(fun x ex=>?_),u1,u2⟩
 cases ex
 have:=Rel.refL (H:=H) (D1 ι b r) b es.length 0 (len+1) cap _ (Br _ _ _) r3 z144q hroom (by rw[qQ8];exact hcap) hmax;simpa using this
def Dg(es:List (List AV))(len:Nat)(cs:List AV):List (List AV):=if len<es.length then es.set len cs else es++[cs]
theorem KP(h:len<=es.length):(Dg es len cs).take (len+1)=es.take len++[cs]:=by
 unfold Dg;split
 . rename_i hlt;rw[AY (q21 hlt),List.take_set_of_le (qZ0 _)]
 . have:len=es.length:=by omega
   subst this;rw[q20 z145q,q20 (qZ0 _)]
theorem MH(h:len<=es.length):len+1<=(Dg es len cs).length:=by
 unfold Dg;split
 . simp;omega
 . simp;omega
theorem MN(hT:CE P T)
 (ho:o.op=.call {callee:=.builtin .append,args:= #[x,y],argTypes:= #[t,t']}) (hx:An e x=some (.ref b n 0 len)) (hy:An e y=some q) (hi:T t=some i) (hk:i.k=.slice u) (hj:T u=some j) (hi':T t'=some i') (hk':i'.k=.slice u')
 (hb:h b=some (.row p sz es)) (hn:n=es.length) (hlt:len<=n) (hsz:sz=j.size) (hz:j.zero.length=j.size) (hp:0<j.size)
 (hsrc:SrcOf h q R [cs2]) (hu2:cs2.length=sz) (hpure:p=true->cs2.all AV.isPure1=true) (hby:(es.length+1)*j.bytes<=140737488355328) (hml:es.length+1<=maxLen):
 OLoc P o e h (b::R) [(b,.row p sz (Dg es len cs2))] (some (.ref b (Dg es len cs2).length 0 (len+1))):=by
 by_cases h1:len<es.length
 . have e1:Dg es len cs2=es.set len cs2:=by simp[Dg,h1]
   rw[e1];have:=XW hT ho hx hy hi hk hj hi' hk' hb hn z144q hsz hp hsrc hu2 hpure;rw[q83,<-hn];exact this
 . have e1:Dg es len cs2=es++[cs2]:=by simp[Dg,h1]
   have hl:len=n:=by omega
   subst hl;rw[e1];have:=o_append hT ho hx hy hi hk hj hi' hk' hb hn hsz hz hp hsrc (by intro cs h;simp at h;subst h;exact hu2) (fun hp cs h=>by simp at h;subst h;exact hpure hp) (m:=1) rfl hby hml;rw[show(es++[cs2]).length=len+1 by simp[hn]];exact this
theorem AC{x:Nat}{o:AObj}{r:Option AObj}(hb:Nat.beq x b=false)(hr:h x=r):hput h b o x=r:=by simp only[hput,hb,qZ3,hr]
def EL(h:Ad)(κ:Nat->Bool):Ad:=fun b=>bif κ b then h b else some .free
def LI(ι ι':Bp)(κ:Nat->Bool):Bp:=fun b=>bif κ b then ι' b else ι b
variable {w w' : World} {hn h' : Ad} {H' : AA} {ι' : Bp}
theorem dc{κ:Nat->Bool}(hr:HeapRel H ι h w)
 (hL:∀b,κ b=true->∃o,h b=some o/\o.avoid κ=true) (hW:∀b,κ b=false->hn b=h b)
 (hk:∀b,κ b=true->∃o,h' b=some o/\hn b=some o/\o.avoid κ=true)
 (hr':HeapRel H' ι' h' w') (hst:Step H (lcut ι κ) (EL h κ) w H' ι' h' w'):
 HeapRel H' (LI ι ι' κ) (hn) w'/\Step H ι h w H' (LI ι ι' κ) (hn) w':=by
 have mT:∀b,κ b=true->LI ι ι' κ b=ι' b:=fun b hb=>by simp only[LI,hb,qZ7]
 have mF:∀b,¬κ b=true->LI ι ι' κ b=ι b:=fun b hb=>by
  have:κ b=false:=by cases e:κ b with|false=>rfl|true=>exact absurd e hb
  simp only[LI,this,qZ3]
 have cT:∀b,κ b=true->lcut ι κ b=ι b:=fun b hb=>Ff hb
 have rT:∀b,κ b=true->EL h κ b=h b:=fun b hb=>by simp only[EL,hb,qZ7]
 have rF:∀b,¬κ b=true->EL h κ b=some .free:=fun b hb=>by
  have:κ b=false:=by cases e:κ b with|false=>rfl|true=>exact absurd e hb
  simp only[EL,this,qZ3]
 have wF:∀b,¬κ b=true->hn b=h b:=fun b hb=>hW b (by cases e:κ b with|false=>rfl|true=>exact absurd e hb)
 have own:∀rb,DP (EL h κ) (lcut ι κ) rb->DP h ι rb:=by
  rintro rb ⟨b,o,r,h1,h2,h3,h4,h5⟩
  by_cases hb:κ b=true
  . exact⟨b,o,r,by rw[<-rT b hb];exact h1,h2,BC h3,h4,h5⟩
  . rw[rF b hb]at h1;cases h1;cases h2
 -- rows that the call didn't see are none of its
 have apart:∀b o r,¬κ b=true->h b=some o->o.alive=true->ι b=some r->r.solid->¬DP (EL h κ) (lcut ι κ) r.rb:=by
  rintro b o r hb h1 h2 h3 h4 ⟨b',o',r',g1,g2,g3,g4,g5⟩
  by_cases hb':κ b'=true
  . exact hr.inj b b' o o' r r' h1 h2 (by rw[<-rT b' hb'];exact g1) g2 h3 (BC g3) h4 g4 (fun e=>hb (e▸hb')) g5.symm
  . rw[rF b' hb']at g1;cases g1;cases g2
 have lle:LLe ι (LI ι ι' κ):=fun b r e=>by
  by_cases hb:κ b=true
  . rw[mT b hb];exact hst.lle b r (by rw[cT b hb];exact e)
  . rw[mF b hb];exact⟨r,e,.inl rfl⟩
 have lle':LLe (lcut ι' κ) (LI ι ι' κ):=fun b r e=>by
  by_cases hb:κ b=true
  . rw[mT b hb];exact⟨r,BC e,.inl rfl⟩
  . have:κ b=false:=by cases e:κ b with|false=>rfl|true=>exact absurd e hb
    simp only[lcut,this,qZ3]at e;cases e
 have blk:∀b o r,¬κ b=true->h b=some o->o.alive=true->ι b=some r->r.solid->w'.heap[r.rb]?=w.heap[r.rb]?:=fun b o r hb h1 h2 h3 h4=>
  hst.keep r.rb (hr.lt ⟨b,o,r,h1,h2,h3,h4,rfl⟩) (apart b o r hb h1 h2 h3 h4)
 have noK:∀b o r,¬κ b=true->h b=some o->o.alive=true->ι b=some r->r.solid->H r.rb=none->H' r.rb=none:=fun b o r hb h1 h2 h3 h4 h5=>by
  exact n9
 -- a row of the call's, afterwards: not one of those that it didn't see
 have apart':∀b b' o r r',¬κ b=true->κ b'=true->h b=some o->o.alive=true->ι b=some r->r.solid->ι' b'=some r'->r'.solid->r.rb≠r'.rb:=fun b b' o r r' hb hb' h1 h2 h3 h4 g1 g2 e=>by
  exact rt
 refine⟨⟨hr'.know,fun b hb=>?_,fun b o h1 h2=>?_,fun b b' o o' r r' h1 h2 h3 h4 h5 h6 s1 s2 hne=>?_,hr'.glob⟩,⟨hst.size,hst.os,hst.out,fun rb hlt hno=>hst.keep rb hlt (fun h=>hno (own rb h)),hst.kle,fun b hb=>?_,lle,fun b e=>?_,fun b r' e es=>?_,fun b e=>?_⟩⟩
 . by_cases hbL:κ b=true
   . obtain⟨o,k1,k2,_⟩:=hk b hbL;rw[k2]at hb;cases hb;rw[mT b hbL];exact hr'.free b k1
   . rw[wF b hbL]at hb;rw[mF b hbL];exact hr.free b hb
 . by_cases hbL:κ b=true
   . obtain⟨o',k1,k2,k3⟩:=hk b hbL;exact nL
   . rw[wF b hbL]at h1;exact zt132
 . by_cases hb:κ b=true<;>by_cases hb':κ b'=true
   . obtain⟨q,k1,k2,_⟩:=hk b hb;exact nW
   . rw[wF b' hb']at h3;rw[mF b' hb']at h6;rw[mT b hb]at h5;exact fun e=>apart' b' b o' r' r hb' hb h3 h4 h6 s2 h5 s1 e.symm
   . rw[wF b hb]at h1;rw[mF b hb]at h5;rw[mT b' hb']at h6;exact apart' b b' o r r' hb hb' h1 h2 h5 s1 h6 s2
   . rw[wF b hb]at h1;rw[mF b hb]at h5;rw[wF b' hb']at h3;rw[mF b' hb']at h6;exact hr.inj b b' o o' r r' h1 h2 h3 h4 h5 h6 s1 s2 hne
 . rcases hst.knew b hb with g|g|g
   . exact .inl g
   . exact .inr (.inl g)
   . exact .inr (.inr (own b g))
 . by_cases hb:κ b=true
   . obtain⟨o,k1,_⟩:=hL b hb;rw[k1]at e;cases e
   . exact mF b hb
 . by_cases hb:κ b=true
   . rw[mT b hb]at e;exact zt142
   . rw[mF b hb]at e;exact .inl e
 . by_cases hb:κ b=true
   . obtain⟨o,k1,_⟩:=hL b hb;rw[k1]at e;cases e
   . rw[wF b hb];exact e
def EDropK(k:Nat->Bool)(e' e:Ax):Prop:=∀t x,e' t=some x->e t=some x/\x.avoid k=true
def Qq(k:Nat->Bool)(h' h:Ad):Prop:=∀b o,h' b=some o->(h b=some o/\(o.alive=true->k b=true/\o.avoid k=true))\/(o=.free/\k b=false)
theorem EDropK.new(k:Nat->Bool)(e:Ax):EDropK k AZ e:=fun _ _ h=>by cases h
variable {k : Nat -> Bool} {e' : Ax}
theorem EDropK.put{t:Nat}{v:AV}(h:EDropK k e' e)(hv:e t=some v)(ha:v.avoid k=true):EDropK k (Aa e' t v) e:=fun u x hx=>by
 exact m9
structure DropK(k:Nat->Bool)(s'' s':Al):Prop where
  n:s''.n=s'.n
  e:EDropK k s''.env s'.env
  h:Qq k s''.h s'.h
theorem DropK.mk'(h1:EDropK k e' e)(h2:Qq k h' h):DropK k ⟨n,e',h'⟩ ⟨n,e,h⟩:=⟨rfl,h1,h2⟩
variable {a : Act}
theorem Sim.cutK{s':Al}(hs:Sim H ι s a w)(hd:DropK k s' s):Sim H (lcut ι k) s' a w:=by
 have hal:∀b o,s'.h b=some o->o.alive=true->s.h b=some o/\k b=true/\o.avoid k=true:=fun b o h1 h2=>by
  exact mK
 refine⟨hs.n.trans hd.n.symm,hs.d,fun t x hx=>?_,⟨hs.heap.know,fun b hb=>?_,fun b o h1 h2=>?_,fun b b' o o' r r' h1 h2 h3 h4 h5 h6=>?_,hs.heap.glob⟩⟩
 . obtain⟨g1,g2⟩:=hd.e t x hx;obtain⟨v,v1,v2⟩:=hs.env t x g1;exact⟨v,v1,Ex v2 g2⟩
 . rcases hd.h b _ hb with⟨g1,_⟩|⟨_,g2⟩
   . have:=hs.heap.free b g1;unfold lcut;rw[this];cases k b<;>rfl
   . unfold lcut;rw[show k b=false from g2];rfl
 . obtain⟨g1,g2,g3⟩:=hal b o h1 h2;obtain⟨r,r1,r2,r3⟩:=hs.heap.obj b o g1 h2;exact⟨r,by rw[Ff (k:=k) g2];exact r1,HZ r2 g3,r3⟩
 . exact hs.heap.inj b b' o o' r r' (hal b o h1 h2).1 h2 (hal b' o' h3 h4).1 h4 (BC h5) (BC h6)
theorem Step.cutK{h1:Ad}(hr:HeapRel H ι h w)(hf:∀b,k b=false->h b=some .free)
 (st:Step H ι h w H' ι' h1 w') (hd:Qq k h' h1):Step H ι h w H' (lcut ι' k) h' w' where
 size:=st.size
 os:=st.os
 out:=st.out
 keep:=st.keep
 kle:=st.kle
 knew:=st.knew
 lle:=fun b r e=>by
  cases hb:k b with
  |false=>rw[hr.free b (hf b hb)]at e;cases e
  |true=>rw[Ff (k:=k) hb];exact st.lle b r e
 lframe:=fun b e=>by
  cases hb:k b with
  |false=>rw[hf b hb]at e;cases e
  |true=>rw[Ff (k:=k) hb];exact st.lframe b e
 newrb:=fun b r' e=>st.newrb b r' (BC e)
 dom:=fun b e=>by
  exact nS
variable {Q : Exit -> Al -> Prop}
theorem AGo.cutK{c:Code}{K:Al->Prop}(k:Nat->Bool)(hf:∀b,k b=false->s.h b=some .free)(h:AGo P c s (Ce (fun s1=>∃s2,DropK k s2 s1/\K s2) Q)):AGo P c s (Ce K Q):=fun H ι a w hs=>
 wp_mono (h H ι a w hs) fun e a' w' hp=>by
  obtain⟨s',H',ι',q,r,t⟩:=hp
  cases e with
  |normal=>
   obtain⟨s2,d,k2⟩:=q;exact⟨s2,H',_,k2,r.cutK d,t.cutK hs.heap hf d.h⟩
  |_=>exact⟨s',H',ι',q,r,t⟩
theorem Bl{γ:Type}(k:Nat->Bool)(inv:γ->Al)(F:γ->Prop)(μ:γ->Nat)(g0:γ)(h0:Sub (inv g0) s)(hF:F g0)(hf:∀g b,k b=false->(inv g).h b=some .free)
 (round:∀g,F g->AGo P c (inv g) (Ce (fun s'=>∃g',DropK k (inv g') s'/\F g'/\μ g'<μ g) Q)):AGo P (.loop c) s Q:=
 AGo.loopI inv F μ g0 h0 hF fun g hg=>AGo.cutK k (hf g) ((round g hg).mono fun e s'' hq=>by
  cases e with
  |normal=>obtain⟨g',h1,h2,h3⟩:=hq;exact⟨inv g',h1,g',Sub.refl _,h2,h3⟩
  |_=>exact hq)
def qN(Q:Exit->Al->Prop):Exit->Al->Prop
  | .goto _,_=>False
  |e,s=>Q e s
theorem AGo.scope{c:Code}(h:AGo P c s (qN Q)):AGo P (.scope c) s Q:=fun H ι a w hs=>
 wp_scope_straight (wp_mono (h H ι a w hs) fun e a' w' hp=>by
  obtain⟨s',H',ι',q,r,t⟩:=hp
  cases e with
  |goto l=>exact q.elim
  |_=>exact⟨s',H',ι',q,r,t⟩)
def NT(P:Program)(o:Oper)(e:Ax)(h hn:Ad)(r:AV):Prop:=
  ∀(H:AA) (ι:Bp) (a:Act) (w:World) (n:Nat) (Q:Exit->Act->World->Prop),Sim H ι ⟨n,e,h⟩ a w->
    o.wp P a w (fun a' w'=>∃v H' ι',a'=a.put o.dst v/\Rel H' ι' r v/\HeapRel H' ι' hn w'/\Step H ι h w H' ι' hn w') Q
theorem LF{hc hw:Ad}(κ:Nat->Bool)(ho:o.op=.call {callee:=.value (.func f),args:=args,argTypes:=tys})(hf:P.funcs[f]?=some fn)(hnm:(fn.name== "runtime.NumGoroutine")=false)(hb:fn.body.isSome=true)
 (hx:A8 e args.toList=some xs) (hxa:xs.all (AV.avoid κ)=true) (hL:∀b,κ b=true->∃q,h b=some q/\q.avoid κ=true) (hres':EL h κ=hc) (hW:∀b,κ b=false->hn b=h b)
 (hk:∀b,κ b=true->∃q,hw b=some q/\hn b=some q/\q.avoid κ=true) (hra:r.avoid κ=true)
 (hcall:ACall P f xs hc (fun r' h'=>r'=r/\HSub hw h')):NT P o e h hn r:=by
 intro H ι a w n Q hs;have hraa:=Cl hs hx;have hra':RelAll H (lcut ι κ) xs (args.map a.eval):=⟨hraa.1,fun j x v h1 h2=>Ex (hraa.2 j x v h1 h2) (Fq hxa h1)⟩;have hrc:HeapRel H (lcut ι κ) (EL h κ) w:=by
  exact rD
 have hcalls:=hcall H (lcut ι κ) w _ hra' (hres'▸hrc);have hexec:(execOp a.eval o).run P w=.ok (.enter f (args.map a.eval)) w:=by
  simp[execOp,ho,resolve,Act.eval,Deferred.ofValue,invoke,Cp hf hnm hb]
 exact rx
variable {ops : Array Oper} {K : Al -> Prop}
theorem AOps.call{rest:List Oper}(d:Nat)(hd:o.dst=some d)(hb:Nat.blt d n=true)(hg:A0 ops o e=some true)(ho:NT P o e h hn r)
 (hr:AOps P ops rest ⟨n,Aa e d r,hn⟩ K):AOps P ops (o::rest) ⟨n,e,h⟩ K:=by
 intro H ι a w hs;unfold wpList;rw[DI hs hg];simp only[qZ8];refine .inl (qX8 (fun a' w' hx=>?_) (ho H ι a w n _ hs));obtain⟨v,H',ι',rfl,h1,h2,h3⟩:=hx;have hs':=hs.put (d:=o.dst) (r:=some r) h2 h3 (fun x ex=>by cases ex;exact h1) (NC hd hb);rw[hd]at hs'|-;have:=hr H' ι' _ w' hs';have key:∀(l:List Oper) (a1:Act) (w1:World),wpList P ops (Post H' ι' hn w' (Ce K fun _ _=>False)) l a1 w1->wpList P ops (Post H ι h w (Ce K fun _ _=>False)) l a1 w1:=by
  have hpost:∀e a2 w2,Post H' ι' hn w' (Ce K fun _ _=>False) e a2 w2->Post H ι h w (Ce K fun _ _=>False) e a2 w2:=fun e a2 w2 hp=>Post.step hs.heap h2 h3 hp
  intro l
  induction l with
  |nil=>exact fun a1 w1 hp=>hpost _ _ _ hp
  |cons o' l ih=>
   intro a1 w1 hp;exact zt65
 exact key _ _ _ this
def Un(P:Program)(c:Code)(Q:Exit->Al->Prop):Nat->Al->Prop
  |0,s=>AGo P c s (Ce (fun _=>False) Q)
  |n+1,s=>AGo P c s (Ce (Un P c Q n) Q)
theorem Ww(h:AGo P c s (Ce (Un P c Q n) Q)):Un P c Q (n+1) s:=h
theorem Wv(h:AGo P c s (Ce (fun _=>False) Q)):Un P c Q 0 s:=h
variable {e : Exit}
theorem fa(h:Ce (fun _=>False) Q e s):Ce K Q e s:=by
 cases e with
 |normal=>exact False.elim h
 |_=>exact h
theorem kE{g:Nat}(h:Ce (Un P c Q g) Q e s):Ce (fun s'=>∃g',Un P c Q g' s'/\g'<g+1) Q e s:=by
 cases e with
 |normal=>exact⟨g,h,Nat.lt_succ_self g⟩
 |_=>exact h
theorem Qu(n:Nat)(h:Un P c Q n s):AGo P (.loop c) s Q:=by
 refine AGo.loop (Un P c Q) (fun g=>g) n h fun g s hg=>?_
 cases g with
 |zero=>exact AGo.mono (Q:=Ce (fun _=>False) Q) hg fun e s h=>fa h
 |succ g=>exact AGo.mono (Q:=Ce (Un P c Q g) Q) hg fun e s h=>kE h
variable {e : Ax}
theorem So{f g:Nat->Option (Nat×Nat)}(hfg:∀i p,f i=some p->g i=some p):∀(ps:List (Nat×Value)) (cs r:Array Value),Instr.fill f cs ps=some r->Instr.fill g cs ps=some r
 | [],_,_,h=>h
 |(i,v)::ps,cs,r,h=>by
  unfold Instr.fill at h|-
  cases e:f i with
  |none=>rw[e]at h;cases h
  |some p=>
   rw[e]at h;rw[hfg i p e];obtain⟨off,sz⟩:=p;simp only at h|-;split at h
   . cases h
   . rename_i hc;rw[qZ9 hc];exact So hfg ps _ _ h
def SF(len sz u:Nat):List (Nat×Nat):=(List.range len).map fun k=>(k*sz,u)
theorem U7(hT:CE P T){parts:Array (Nat×Operand)}{ps:List (Nat×AV)}{r:List AV}(ho:o.op=.build t parts)(hx:BM e parts.toList=some ps)(hi:T t=some i)(hk:i.k=.array len u)(hj:T u=some j)(hz:i.zero.length=i.size)(hp:0<i.size)
 (hfit:Fe T (SF len j.size u) ps=true) (hr:partCells (SF len j.size u) ps i.zero=some r):QLoc P o e h [] (.agg r):=by
 intro H ι a w s hs g1 g2;have hx':BM s.env parts.toList=some ps:=by
  exact jW
 obtain⟨l1,l2⟩:=DU hs hx';obtain⟨info,d,e1,e2,e3,e4,e5,e6⟩:=Am (hT _ _ hi);obtain⟨info',d',e1',e2',e3',e4',e5',e6'⟩:=Am (hT _ _ hj);have hd:=I1 (P:=P) (d:=d) (e3▸hk);subst hd;obtain⟨z,hz1,hz2⟩:=En e6 hz hp;obtain⟨z1,z2⟩:=DX (H:=H) (ι:=ι) hz2
 let places:Array (Nat×Nat):=((List.range len).map fun k=>(k*j.size,j.size)).toArray
 have hpl:∀(i off t:Nat),(SF len j.size u)[i]?=some (off,t)->∃i',T t=some i'/\places[i]?=some (off,i'.size):=fun i off t h=>by
  simp only[SF,q54,q22,q98]at h;obtain⟨k,hk,rfl,rfl⟩:=h;exact⟨j,hj,by simp[places,hk]⟩
 obtain⟨vs,f1,f2,f3⟩:=PZ (T:=T) (s:=s) (a:=a) (w:=w) hpl ps (parts.toList.map fun(i,x)=>(i,a.eval x)) i.zero z.cells r (by simp[l1]) (fun k p q k1 k2=>⟨(l2 k p q k1 k2).1,(l2 k p q k1 k2).2,Iq hfit k p k1⟩) (by simpa using z1) (fun j x v k1 k2=>z2 j x v k1 (by simpa using k2)) hr;have f1':=So (g:=fun i=>some (i*j.size,j.size)) (fun i p h=>by
  simp only[places,List.getElem?_toArray,q54,q22]at h;obtain⟨k,hk,rfl⟩:=h;have:=(q05.1 hk);simp at this;rw[this.2]) _ _ _ f1
 refine⟨.agg vs,.agg _ _ _ f2 f3,?_⟩;have hparts:(parts.map fun(i,x)=>(i,a.eval x)).toList=parts.toList.map fun(i,x)=>(i,a.eval x):=by simp
 simp only[execOp,ho,Instr.build,zeroValue,typeInfo,qQ9,run_program,q57,e1,hz1,qX1,Aq e2,Gx e1',e4',hparts,f1']
def E3(l:List UInt8):List (List AV):=l.map fun b=>[AV.int .u8 b.toNat]
theorem Pc:∀(l:List UInt8) (s:ByteArray),(l.map (fun b:UInt8=>((b.toNat:Nat):Int))).foldl (fun r n=>r.push (UInt8.ofNat n.toNat)) s=⟨s.data++l.toArray⟩
 | [],s=>by simp
 |b::r,s=>by
  simp only[qQ0,q85,q55,UInt8.ofNat_toNat];rw[Pc r];show ByteArray.mk (s.data.push b++r.toArray)=_;congr 1;apply Array.toList_inj.1
  simp
theorem gz(l:List UInt8):(l.map (fun b:UInt8=>((b.toNat:Nat):Int))).foldl (fun r n=>r.push (UInt8.ofNat n.toNat)) ByteArray.empty=⟨l.toArray⟩:=by
 rw[Pc];show ByteArray.mk (#[]++l.toArray)=_
 simp
theorem U2(hT:CE P T){y':Operand}{k k':IntKind}(ho:o.op=.slice t x none (some y) (some y'))(hx:An e x=some (.lst ex es))(hy:An e y=some (.int k (es.length:Int)))(hy':An e y'=some (.int k' (es.length:Int)))(ht:T t=some i)(hk:i.k=.slice u)(hj:T u=some j):
 QLoc P o e h [] (.lst true es):=by
 intro H ι a w s hs g1 g2;have hx':An s.env x=some (.lst ex es):=by rw[g1 x Bx,hx]
 have hy1:An s.env y=some (.int k (es.length:Int)):=by rw[g1 y Bx,hy]
 have hy2:An s.env y'=some (.int k' (es.length:Int)):=by rw[g1 y' Bx,hy']
 obtain⟨info,d,e1,e2,e3,e4,e5,e6⟩:=Am (hT _ _ ht);obtain⟨info',d',e1',e2',e3',e4',e5',e6'⟩:=Am (hT _ _ hj);have hd:=BF (P:=P) (d:=d) (e3▸hk);subst hd;have hvx:=Ao hs hx';have hv1:=(Ao hs hy1).int_inv;have hv2:=(Ao hs hy2).int_inv;generalize hva:a.eval x=va at hvx;have hrun:∀(ad:Option Addr) (cap:Nat),es.length<=cap->va=.slice ad es.length cap->(execOp a.eval o).run P w=.ok (.value (.slice (if es.length=0 then ad else ad.map (·.add (0*j.size))) (es.length-0) (es.length-0))) w:=fun ad cap hcap hv=>by
  simp only[execOp,ho,hva,hv,hv1,hv2,Instr.sliceAt,Instr.slice,Option.map_none,q80,qQ9,Aq e2,q57,Gx e1',e4',qX1];simp[Instr.sliceBounds,Instr.sliceBound,asIntOf,hcap]
 rcases hvx.lst_inv with⟨rfl,ad,cap,rfl,h1,h2,h3,h4⟩|⟨hne,b,off,cap,sz,c,vals,rfl,hb,hsz',hv,hr,hc1,hex,hcap,hmax⟩
 . refine⟨_,?_,hrun ad cap (qZ1 _) rfl⟩;simp only[q84,qZ8,Nat.sub_zero];exact .lst0 _ _ _ _ (fun _=>rfl) (qZ1 _) (fun _=>rfl) trivial
 . refine⟨_,?_,hrun _ cap hcap rfl⟩;have hl:es.length≠0:=fun h=>hne (q01 h)
   rw[qZ9 hl];have hadd:(some (⟨b,off,none⟩:Addr)).map (·.add (0*j.size))=some ⟨b,off,none⟩:=by simp[Addr.add]
   rw[hadd,Nat.sub_zero];exact .lst ι true es b off es.length sz c vals hne hb hsz' hv hr hc1 (fun _=>rfl) (qZ0 _) z144q
def R4(f:Bool)(b:Nat)(es:List (List AV)):AV:=bif f then .lst true es else .ref b es.length 0 es.length
def MX(f:Bool)(sz:Nat)(es:List (List AV)):AObj:=bif f then .free else .row true sz es
variable {f ex2 : Bool} {es2 : List (List AV)}
theorem RC(hT:CE P T)(b:Nat)
 (ho:o.op=.call {callee:=.builtin .append,args:= #[x,y],argTypes:= #[t,t']}) (hx:An e x=some (R4 f b es)) (hy:An e y=some (.lst ex2 es2)) (hi:T t=some i) (hk:i.k=.slice u) (hj:T u=some j) (hi':T t'=some i') (hk':i'.k=.slice u')
 (hb:h b=some (MX f sz es)) (hsz:sz=j.size) (hz:j.zero.length=j.size) (hp:0<j.size)
 (hu:∀cs∈es,cs.length=sz) (hpu:∀cs∈es,cs.all AV.isPure1=true) (hu2:∀cs∈es2,cs.length=sz) (hpure:∀cs∈es2,cs.all AV.isPure1=true)
 (hby:(es.length+es2.length)*j.bytes<=140737488355328) (hml:es.length+es2.length<=maxLen):
 OLoc P o e h [b] [(b,MX (f&&es2.isEmpty) sz (es++es2))] (some (R4 (f&&es2.isEmpty) b (es++es2))):=by
 cases f with
 |false=>
  have:=o_append hT ho hx hy hi hk hj hi' hk' hb rfl hsz hz hp (.lst ex2 es2) hu2 (fun _=>hpure) (m:=es2.length) rfl hby hml;simpa[R4,MX]using this
 |true=>
  simp only[R4,MX,qZ7]at hx hb
  cases hes2:es2 with
  |nil=>
   subst hes2;simp only[List.isEmpty_nil,Bool.and_self,q91,MX,R4,qZ7];intro H ι a w s Q hs g1 g2;have hx':An s.env x=some (.lst true es):=by rw[g1 x Fu,hx]
   have hy':An s.env y=some (.lst ex2 []):=by rw[g1 y Fu,hy]
   have hb':s.h b=some .free:=by rw[g2 b z145q,hb]
   obtain⟨info,d,e1,e2,e3,e4,e5,e6⟩:=Am (hT _ _ hi);obtain⟨infou,du,f1,f2,f3,f4,f5,f6⟩:=Am (hT _ _ hj);obtain⟨info',d',e1',e2',e3',e4',e5',e6'⟩:=Am (hT _ _ hi');have hd:=BF (P:=P) (d:=d) (e3▸hk);subst hd;have hd':=BF (P:=P) (d:=d') (e3'▸hk');subst hd';have hvx:=Ao hs hx';have hvy:=Ao hs hy';generalize hva:a.eval x=va at hvx;generalize hvb:a.eval y=vb at hvy;obtain⟨news,hsrcw,hnews⟩:=Ms hs.heap (SrcOf.lst ex2 []) hvy e2' hp (by intro cs h;cases h) w rfl;rw[<-f4]at hsrcw;have hnn:news=[]:=q01 (by rw[hsrcw.newsLen];simp);subst hnn;have hsame:hputs s.h [(b,.free)]=s.h:=by
    funext c;exact m4
   have hexec:∀(v:Value) (w':World),(Builtin.append_ #[t,t'] o.type #[va,vb]).run P w=.ok v w'->(execOp a.eval o).run P w=.ok (.value v) w':=fun v w' hrun=>by
    exact aj
   have hrun:(Builtin.append_ #[t,t'] o.type #[va,vb]).run P w=.ok va w:=by
    rcases hvx.lst_inv with⟨rfl,ad,cap,rfl,h1,h2,h3,h4⟩|⟨hne,b0,off,cap,sz0,c,vals,rfl,hb0,hsz',hv,hr,hc1,hex,hcap,hmax⟩
    . have:=h1 rfl;subst this;exact Ja t t' o.type u infou e2 f1 ad vb hsrcw
    . have hsrc0:Src P infou.size t' vb 0 [] w:=hsrcw;have h1:=hsrc0.len;have h2:=hsrc0.cells;rcases hsrcw.kind with⟨e',hk⟩|hk<;>simp[Builtin.append_,run_underlying e2,run_underlying hk,sizeOf,typeInfo,f1,h1,h2,hcap,storeCells]
   unfold Oper.wp;rw[hexec _ _ hrun,hsame];exact⟨va,H,ι,rfl,(fun x ex=>by have:=q86 ex;subst this;exact hvx),hs.heap,Step.refl _ _ _ _⟩
  |cons y0 r0=>
   rw[<-hes2];have hpos:0<es2.length:=by rw[hes2];simp
   have hie:es2.isEmpty=false:=by rw[hes2];rfl
   simp only[hie,q97,MX,R4,qZ3];subst hsz;refine El hb z145q hp fun H ι a w s hs g1 g2=>?_
   have hx':An s.env x=some (.lst true es):=by rw[g1 x Fu,hx]
   have hy':An s.env y=some (.lst ex2 es2):=by rw[g1 y Fu,hy]
   obtain⟨info,d,e1,e2,e3,e4,e5,e6⟩:=Am (hT _ _ hi);obtain⟨infou,du,f1,f2,f3,f4,f5,f6⟩:=Am (hT _ _ hj);obtain⟨info',d',e1',e2',e3',e4',e5',e6'⟩:=Am (hT _ _ hi');have hd:=BF (P:=P) (d:=d) (e3▸hk);subst hd;have hd':=BF (P:=P) (d:=d') (e3'▸hk');subst hd';obtain⟨z,hz1,hz2⟩:=En f6 hz hp;have hzl:z.cells.size=j.size:=by rw[<-hz];simpa using(DX (H:=H) (ι:=A7) hz2).1.symm
   have hvx:=Ao hs hx';have hvy:=Ao hs hy';generalize hva:a.eval x=va at hvx;generalize hvb:a.eval y=vb at hvy;have hexec:∀(v:Value) (w':World),(Builtin.append_ #[t,t'] o.type #[va,vb]).run P w=.ok v w'->(execOp a.eval o).run P w=.ok (.value v) w':=fun v w' hrun=>by
    exact aj
   obtain⟨news,hsrcw,hnews⟩:=Ms hs.heap (SrcOf.lst ex2 es2) hvy e2' hp hu2 w rfl;rw[<-f4]at hsrcw;have hnl:news.length=es2.length*j.size:=by rw[hsrcw.newsLen,f4]
   have h63:((es.length+es2.length:Nat):Int)<=9223372036854775807:=by
    exact YL
   -- what stands there already
   obtain⟨base,olds,hv,hold,hol,holdr⟩:∃(base:Option Addr) (olds:List Value),va=.slice base es.length es.length/\(Builtin.firstCells infou.size es.length (.slice base es.length es.length)).run P w.drew=.ok olds.toArray w.drew/\olds.length=es.length*j.size/\
    (∀(i:Nat) (cs:List AV) (k:Nat) (x:AV),es[i]?=some cs->cs[k]?=some x->∃v,olds[i*j.size+k]?=some v/\Rel H A7 x v/\x.cell1=true):=by
    rcases hvx.lst_inv with⟨rfl,ad,cap,rfl,h1,h2,h3,h4⟩|⟨hne,b0,off,cap,sz0,c,vals,rfl,hb0,hsz',hv,hr,hc1,hex,hcap,hmax⟩
    . have:=h1 rfl;subst this;refine⟨ad,[],rfl,?_,by simp,fun i cs k x h1=>by simp at h1⟩;exact dS
    . have hcl:=hex rfl;subst hcl;obtain⟨TT,fr,hbw⟩:=hs.heap.know b0 c hb0;have hss:sz0=j.size:=by
       exact d9
      subst hss;have hget:∀k,k<es.length*j.size->∃v,c[off+k]?=some v:=fun k hk=>by
       have hi:k/j.size<es.length:=Nat.div_lt_of_lt_mul (by rw[Nat.mul_comm];exact hk);have hm:k%j.size<j.size:=Nat.mod_lt _ hp;have hjj:k/j.size*j.size+k%j.size=k:=by rw[Nat.mul_comm];exact Nat.div_add_mod k j.size
       have h1:es[k/j.size]?=some es[k/j.size]:=q13 hi;have h2:(es[k/j.size])[k%j.size]?=some ((es[k/j.size])[k%j.size]'(by rw[hsz' _ _ h1];exact hm)):=q13 _;have:=hv _ _ _ _ h1 h2;rw[qQ3,hjj]at this;exact⟨_,this⟩
      have hfit:off+es.length*j.size<=c.size:=by
       rcases Nat.eq_zero_or_pos (es.length*j.size)with h0|h0
       . have:=q43.2 hne;have:=Nat.mul_pos this hp;omega
       . obtain⟨v,hv⟩:=hget (es.length*j.size-1) z144q;have:=(q03.1 hv).1;omega
      have hg:∀k,k<es.length*j.size->((c.toList.drop off).take (es.length*j.size))[k]?=c[off+k]?:=fun k hk=>by
       rw[q14 hk,q49,q29]
      have hl:((c.toList.drop off).take (es.length*j.size)).length=es.length*j.size:=by simp;omega
      refine⟨_,(c.toList.drop off).take (es.length*j.size),rfl,?_,hl,fun i cs k x h1 h2=>?_⟩
      . rw[f4];refine run_firstCells_some (P:=P) w.drew j.size es.length ⟨b0,off,none⟩ es.length es.length _ hl (fun k v hk=>?_);have hkl:k<es.length*j.size:=by
         have:=(q05.1 hk).1;omega
        rw[hg k hkl]at hk;rw[Gl,World.cell?_drew,L6 hbw];exact hk
      . have hi:i<es.length:=(q05.1 h1).1;have hkk:k<j.size:=by rw[<-hsz' i cs h1];exact(q05.1 h2).1
        have h3:=hv i cs k x h1 h2;exact⟨_,by rw[hg _ (CR hi hkk),<-qQ3];exact h3,hr i cs k x h1 h2,hc1 i cs k x h1 h2⟩
   have hfit:Builtin.nextslicecap (es.length+es2.length) es.length*infou.bytes<=281474976710656:=growslice_fits z144q (by rw[f5];exact hby);have hrun:=run_append_grow_src (P:=P) w t t' o.type u infou z e2 f1 hz1 base es.length es.length olds hold vb es2.length news hsrcw z144q h63 hfit;have hge:=grownCap_ge w (es.length+es2.length) es.length u;have hcm:grownCap w (es.length+es2.length) es.length u<=maxLen:=grownCap_le_maxLen w _ es.length u hml;generalize hcc:grownCap w (es.length+es2.length) es.length u=nc at*;generalize hC:(olds++news).toArray++Builtin.zeroCells z.cells (nc-(es.length+es2.length))=C at*;have hCs:C.size=nc*j.size:=by
    exact nD
   have hCg:∀k,k<olds.length+news.length->C[k]?=(olds++news)[k]?:=fun k hk=>by
    rw[<-hC,q04 Df]
    simp
   have hnewsp:∀(i:Nat) (cs:List AV) (k:Nat) (y:AV),es2[i]?=some cs->cs[k]?=some y->∃v,news[i*j.size+k]?=some v/\Rel H A7 y v/\y.cell1=true:=fun i cs k y h1 h2=>by
    obtain⟨v,k1,k2,k3⟩:=hnews i cs k y h1 h2;exact⟨v,k1,Dp (q67.1 (hpure cs (q33 h1)) y (q33 h2)) k2,k3⟩
   refine⟨_,C,u,w.drew,rfl,rfl,rfl,?_,Gc hol hnl hu2 (fun i cs h=>hu cs (q33 h)) holdr hnewsp hCg,hexec _ _ (hv▸hrun),?_⟩
   . rw[q48,hCs];exact q34 _ hge
   . have:=Rel.refL (H:=H) (D1 ι b ⟨w.heap.size,j.size,(es++es2).length,C.size⟩) b (es++es2).length 0 (es++es2).length nc _ (Br _ _ _) rfl z144q (by rw[q48];exact hge) (by simp[hCs]) hcm;simpa using this
theorem Ghost.trans{s s' s'':Al}(g1:Ghost s s')(g2:Ghost s' s''):Ghost s s'':=fun H ι a w hs=>by
 obtain⟨H1,ι1,h1,s1⟩:=g1 H ι a w hs;obtain⟨H2,ι2,h2,s2⟩:=g2 H1 ι1 a w h1;exact⟨H2,ι2,h2,Step.trans hs.heap s1 h1.heap s2⟩
theorem Ghost.weakSlot(t:Nat){x y:AV}(ht:e t=some x)(hxy:∀H ι v,Rel H ι x v->Rel H ι y v):Ghost ⟨n,e,h⟩ ⟨n,Aa e t y,h⟩:=fun H ι a w hs=>
 ⟨H,ι,⟨hs.n,hs.d,fun u z hz=>by
  by_cases hu:u=t
  . subst hu;simp only[C0,q53]at hz;subst hz;obtain⟨v,h1,h2⟩:=hs.env u _ ht;exact⟨v,h1,hxy _ _ _ h2⟩
  . simp only[EQ _ _ hu]at hz;exact hs.env u z hz,hs.heap⟩,Step.refl _ _ _ _⟩
theorem ca(h:Rel H ι .nil v):Rel H ι (.lst false []) v:=by
 rw[h.nil_inv];exact .lst0 _ _ _ _ EU (qZ1 _) (fun _=>rfl) trivial
variable {es' : List (List AV)}
theorem KB(b:Nat)(hb:h b=some (.row true sz es))(hl:es'.length=es.length)
 (hw:∀(i:Nat) (cs cs':List AV),es[i]?=some cs->es'[i]?=some cs'->cs'.length=cs.length/\∀(j:Nat) (x y:AV),cs[j]?=some x->cs'[j]?=some y->y.cell1=true/\∀H v,Rel H A7 x v->Rel H A7 y v):Ghost ⟨n,e,h⟩ ⟨n,e,hput h b (.row true sz es')⟩:=fun H ι a w hs=>by
 obtain⟨r,hr,⟨r1,r2,r3,r4,r5,r6⟩,r7⟩:=hs.heap.obj b _ hb rfl;have hlput:D1 ι b r=ι:=by
  funext c
  by_cases hc:c=b
  . subst hc;rw[Br,hr]
  . rw[DE _ _ hc]
 have old:∀(i:Nat) (cs':List AV),es'[i]?=some cs'->∃cs,es[i]?=some cs:=fun i cs' h=>by
  have:=(q05.1 h).1;exact⟨_,q13 z144q⟩
 have hlen:∀(i:Nat) (cs':List AV),es'[i]?=some cs'->cs'.length=sz:=fun i cs' h=>by
  obtain⟨cs,hc⟩:=old i cs' h;rw[(hw i cs cs' hc h).1,r5 i cs hc]
 have:=hs.heap.upd (w':=w) (o0:=.row true sz es) (o':=.row true sz es') (r':=r) hb rfl (.inr ⟨r,hr,rfl,.inl rfl⟩) (fun hs'=>.inr ⟨r,hr,rfl,hs',rfl⟩) (fun _ _ _=>rfl) (qZ0 _) rfl rfl
  ⟨r1,r2,by rw[hl];exact r3,by rw[hl];exact r4,hlen,fun hsol=>by
   obtain⟨c,TT,w1,w2,w3⟩:=r6 hsol;exact⟨c,TT,w1,w2,hlen,fun k ds q z hk hq=>by
    obtain⟨cs,hc⟩:=old k ds hk;obtain⟨e1,e2⟩:=hw k cs ds hc hk;have hq':q<cs.length:=by rw[<-e1];exact(q05.1 hq).1
    have hx:cs[q]?=some cs[q]:=q13 hq';obtain⟨v,f1,f2,f3⟩:=w3.2 k cs q _ hc hx;obtain⟨g1,g2⟩:=e2 q _ z hx hq;exact⟨v,f1,g2 _ _ f2,g1⟩⟩⟩
 exact dT
theorem BD{k:Nat}(hh:HSub (Bc k) h)(hb:b<k):HSub (Bc k) (hrm h b):=fun c x hx=>by
 have hne:c≠b:=fun e=>by
  subst e;have h1:Nat.blt c k=true:=by rw[qZ6];exact hb
  simp only[Bc,h1,qZ7]at hx
  cases hx
 rw[FJ _ hne];exact hh c x hx
theorem Ghost.endJ(t b:Nat)(ht:e t=some (R4 f b es))(hb:h b=some (MX f sz es)):Ghost ⟨n,e,h⟩ ⟨n,Aa e t (.lst false es),hrm h b⟩:=by
 cases f with
 |false=>
  have:=Ghost.freeze (n:=n) t b ht hb rfl;rwa[q95,q71]at this
 |true=>
  refine(Ghost.weakSlot t ht (fun H ι v h=>rel_unex h)).trans (.of_sub ⟨rfl,fun _ _ h=>h,fun c x hx=>?_⟩)
  by_cases hc:c=b
  . subst hc;have:hrm h c c=some x:=hx;rw[G2]at this;cases this
  . have:hrm h b c=some x:=hx;rwa[FJ _ hc]at this
def arrAV(K:IntKind)(l:List Int):List AV:=l.map fun n=>.int K n
def Ey(K:IntKind)(l:List Int):Array Value:=(l.map fun n=>Value.int K n).toArray
variable {l : List Int} {K : IntKind}
theorem cu(hl:(arrAV K l).length=us.size)(h:∀(j:Nat) (x:AV) (v:Value),(arrAV K l)[j]?=some x->us[j]?=some v->Rel H ι x v):us=Ey K l:=by
 apply Array.ext
 . simpa[arrAV,Ey]using hl.symm
 . intro j h1 h2;have hj:j<l.length:=by simpa[Ey]using h2
   have:=h j (.int K l[j]) us[j] (by simp[arrAV,hj]) (q12 h1);rw[this.int_inv];simp[Ey]
theorem I8(hu:P.underlying t=some (.int K)){j:Nat}{n:Int}(h:l[j]?=some n):(part t (Ey K l) j).run P w=.ok (.int K n) w:=
 Mx hu rfl (by simp[Ey,h])
theorem OV{w:World}{t:TypeId}{K:IntKind}(hu:P.underlying t=some (.int K))(d:Nat)(l1 l2:List Int):∀(m k:Nat),l1.length=k+m->l2.length=k+m->
 (Op.eqItems (d+1) t 1 (Ey K l1) (Ey K l2) (List.range' k m)).run P w=.ok (decide (l1.drop k=l2.drop k)) w
 |0,k,h1,h2=>by
  rw[List.drop_of_length_le z144q,List.drop_of_length_le z144q];simp[Op.eqItems]
 |m+1,k,h1,h2=>by
  have g1:k<l1.length:=by omega
  have g2:k<l2.length:=by omega
  have ih:=OV (w:=w) hu d l1 l2 m (k+1) z144q z144q;rw[List.range'_succ];simp only[Op.eqItems,Nat.mul_one,qQ9,I8 hu (q13 g1),I8 hu (q13 g2),q57,run_equalIn_int w d t _ _ _ _ hu];have hd:(l1.drop k=l2.drop k)↔(l1[k]=l2[k]/\l1.drop (k+1)=l2.drop (k+1)):=by
   rw[q07 g1,q07 g2,q88]
  by_cases he:l1[k]=l2[k]
  . simp only[he,qZ8,q57];simp only[hd,he,true_and];simp[ih]
  . simp[hd,he]
variable {l1 l2 : List Int}
theorem Kq{e:TypeId}(hu:P.underlying t=some (.array n e))(he:P.underlying e=some (.int K))(hc:P.cellsOf e=1)(d:Nat)(h1:l1.length=n)(h2:l2.length=n):
 (Op.equalIn (d+2) t (.agg (Ey K l1)) (.agg (Ey K l2))).run P w=.ok (decide (l1=l2)) w:=by
 obtain⟨i,hi⟩:=info_of_underlying he;rw[run_equalIn_array w (d+1) _ _ hu hi,hc,List.range_eq_range'];have:=OV (w:=w) he d l1 l2 n 0 z144q z144q;simpa using this
variable {kt : TypeId}
theorem QG(hk:P.underlying kt=some (.int K))(em:Bool)(n:Nat)(z:Int):(Instr.checkKey em (n+1) kt (.int K z)).run P w=.ok () w:=by
 rw[Instr.checkKey];simp[Aq hk]
theorem FR{e:TypeId}(hu:P.underlying t=some (.array n e))(he:P.underlying e=some (.int K))(hc:P.cellsOf e=1)(em:Bool)(h:l.length=n):(Instr.checkKey em 10000 t (.agg (Ey K l))).run P w=.ok () w:=by
 obtain⟨i,hi⟩:=info_of_underlying he;rw[Instr.checkKey];simp only[qQ9,Aq hu,q57];simp only[Std.Legacy.Range.forIn_eq_forIn_range',Std.Legacy.Range.size,Nat.sub_zero,Nat.add_one_sub_one,Nat.div_one];have key:∀(m k:Nat),l.length=k+m->((forIn (List.range' k m) PUnit.unit fun i r=>do let a<-sizeOf e;let b<-part e (Ey K l) (i*a);Instr.checkKey em 9999 e b;pure (ForInStep.yield PUnit.unit)):Sem PUnit).run P w=.ok PUnit.unit w:=by
  intro m
  induction m with
  |zero=>intro k hk;simp
  |succ m ih=>
   intro k hk;have hkl:k<l.length:=by omega
   have ih':=ih (k+1) z144q;rw[List.range'_succ];simp only[List.forIn_cons,qQ9,run_sizeOf w hi,hc,Nat.mul_one,q57,I8 he (q13 hkl),QG he em 9998];simpa using ih'
 have h0:=key n 0 z144q;simp at h0|-;rw[h0];rfl
abbrev IU:=List (List Int×AV)
def GC(K:IntKind)(m:IU):List (AV×AV):=m.map fun p=>(.agg (arrAV K p.1),p.2)
def alook(z:List Int):IU->Option (Nat×AV)
  | []=>none
  |(k,v)::r=>bif z==k then some (0,v)else(alook z r).map fun p=>(p.1+1,p.2)
def dA(z:List Int)(m:IU):Option AV:=(alook z m).map (·.2)
def QQ(z:List Int)(v:AV):IU->IU
  | []=>[(z,v)]
  |(k,u)::r=>bif z==k then(k,v)::r else(k,u)::QQ z v r
inductive EntRelA(H:AA)(K:IntKind):IU->List MapEntry->Prop
  |nil:EntRelA H K [] []
  |cons (z:List Int) (v:AV) (m:IU) (e:MapEntry) (es:List MapEntry) (hk:e.key=.agg (Ey K z)) (hv:Rel H A7 v e.val) (h:EntRelA H K m es):EntRelA H K ((z,v)::m) (e::es)
theorem lS(H:AA)(K:IntKind)(z:List Int):Rel H A7 (.agg (arrAV K z)) (.agg (Ey K z)):=
 .agg _ _ _ (by simp[arrAV,Ey]) fun j x u h1 h2=>by
  simp only[arrAV,q54,q22]at h1;obtain⟨n,hn,rfl⟩:=h1;have:u=.int K n:=by simpa[Ey,hn]using h2.symm
  subst this;exact .int _ _ _
variable {z : List Int}
theorem Rel.ints(h:Rel H ι (.agg (arrAV K z)) v):v=.agg (Ey K z):=by
 obtain⟨us,rfl,h1,h2⟩:=h.agg_inv;rw[cu h1 h2]
theorem P2{H:AA}{K:IntKind}:∀{m:IU} {es:List MapEntry},(GC K m).length=es.length->(∀(j:Nat) (k v:AV),(GC K m)[j]?=some (k,v)->∃e,es[j]?=some e/\Rel H A7 k e.key/\Rel H A7 v e.val)->EntRelA H K m es
 | [],es,h1,_=>by
  have:es=[]:=q18.1 (by simpa[GC]using h1.symm);subst this;exact .nil
 |(z,v)::m,[],h1,_=>by simp[GC]at h1
 |(z,v)::m,e::es,h1,h2=>by
  obtain⟨e',g1,g2,g3⟩:=h2 0 (.agg (arrAV K z)) v rfl;simp at g1;subst g1;exact .cons z v m e es g2.ints g3 (P2 (by simpa[GC]using h1) fun j k u hj=>by
   obtain⟨e',k1,k2⟩:=h2 (j+1) k u (by simpa[GC]using hj);exact⟨e',by simpa using k1,k2⟩)
variable {m : IU} {es : List MapEntry}
theorem EntRelA.out(h:EntRelA H K m es):(GC K m).length=es.length/\∀(j:Nat) (k v:AV),(GC K m)[j]?=some (k,v)->∃e,es[j]?=some e/\Rel H A7 k e.key/\Rel H A7 v e.val:=by
 induction h with
 |nil=>exact⟨rfl,fun j k v h=>by simp[GC]at h⟩
 |cons z v m e es hk hv h ih=>
  refine⟨by simpa[GC]using ih.1,fun j k u hj=>?_⟩
  cases j with
  |zero=>
   simp[GC]at hj;obtain⟨rfl,rfl⟩:=hj;exact⟨e,rfl,by rw[hk];exact lS _ _ _,hv⟩
  |succ j=>
   obtain⟨e',k1,k2⟩:=ih.2 j k u (by simpa[GC]using hj);exact⟨e',by simpa using k1,k2⟩
theorem mapCellsA_iff{es:Array MapEntry}:Pz H (GC K m) es↔EntRelA H K m es.toList:=by
 constructor
 . rintro⟨h1,h2⟩
   exact P2 Kl fun j k v hj=>by
    obtain⟨e,g1,g2⟩:=h2 j k v hj;exact⟨e,by simpa using g1,g2⟩
 . intro h;exact zt150
variable {e0 : TypeId}
theorem EntRelA.find(hu:P.underlying t=some (.array n e0))(he:P.underlying e0=some (.int K))(hc:P.cellsOf e0=1)
 (h:EntRelA H K m es) (hz:z.length=n) (hm:∀p∈m,p.1.length=n):∀i,∃r,(Instr.findAsking t (.agg (Ey K z)) es i).run P w=.ok r w/\
 ((alook z m=none/\r=none)\/∃j v e,alook z m=some (j,v)/\r=some (i+j,e.val)/\es[j]?=some e/\e.key=.agg (Ey K z)/\Rel H A7 v e.val):=by
 induction h with
 |nil=>exact fun i=>⟨none,by simp[Instr.findAsking],.inl ⟨rfl,rfl⟩⟩
 |cons k v m e es hk hv h ih=>
  intro i;obtain⟨r,r1,r2⟩:=ih (fun p hp=>hm p (by simp[hp])) (i+1);have heq:(Op.equal t (.agg (Ey K z)) e.key).run P w=.ok (decide (z=k)) w:=by
   rw[hk];exact Kq hu he hc 9998 hz (hm (k,v) z145q)
  by_cases hzk:z=k
  . subst hzk;refine⟨some (i,e.val),by simp[Instr.findAsking,heq],.inr ⟨0,v,e,by simp[alook],rfl,rfl,hk,hv⟩⟩
  . have hb:(z==k)=false:=by simpa using hzk
    refine⟨r,by simp[Instr.findAsking,heq,hzk,r1],?_⟩;rcases r2 with⟨g1,g2⟩|⟨j,u,e',g1,g2,g3,g4⟩
    . exact .inl ⟨by simp[alook,hb,g1],g2⟩
    . exact .inr ⟨j+1,u,e',by simp[alook,hb,g1],by rw[g2];congr 2;omega,by simpa using g3,g4⟩
theorem EntRelA.set_new(h:EntRelA H K m es){v:AV}{val:Value}(hv:Rel H A7 v val)(clk:Nat)(hn:alook z m=none):EntRelA H K (QQ z v m) (es++[{key:=.agg (Ey K z),val:=val,born:=clk}]):=by
 induction h with
 |nil=>exact .cons z v [] _ [] rfl hv .nil
 |cons k u m e es hk hu h ih=>
  unfold alook at hn
  cases hz:z==k with
  |true=>rw[hz]at hn;cases hn
  |false=>
   rw[hz]at hn;have:alook z m=none:=by simpa using hn
   unfold QQ;rw[hz];exact .cons k u _ e _ hk hu (ih this)
theorem EntRelA.set_old(h:EntRelA H K m es){v:AV}{val:Value}(hv:Rel H A7 v val):∀{j:Nat} {v0:AV},alook z m=some (j,v0)->EntRelA H K (QQ z v m) (es.modify j fun e=>{e with key:=.agg (Ey K z),val:=val}):=by
 induction h with
 |nil=>intro j v0 hn;cases hn
 |cons k u m e es hk hu h ih=>
  intro j v0 hn;unfold alook at hn
  cases hz:z==k with
  |true=>
   rw[hz]at hn;simp at hn;obtain⟨rfl,rfl⟩:=hn;unfold QQ;exact mQ
  |false=>
   rw[hz]at hn;simp only[qZ3,q22]at hn;obtain⟨⟨j',v'⟩,g1,g2⟩:=hn;simp at g2;obtain⟨rfl,rfl⟩:=g2;unfold QQ;rw[hz];exact .cons k u _ e _ hk hu (ih g1)
theorem Gy(hu:P.underlying t=some (.array n e0))(x:Value)(es:List MapEntry):(Instr.findKey t x es).run P w=(Instr.findAsking t x es).run P w:=
 run_findKey_eq w (by rw[hu]) x es
theorem S8(K:IntKind)(z:List Int):Instr.sameBits 10000 (.agg (Ey K z)) (.agg (Ey K z))=true:=by
 rw[Instr.sameBits];simp only[beq_self_eq_true,qQ5,q67]
 rintro⟨a,b⟩ hab
 have h1:∀(l:List Value) (a b:Value),(a,b)∈l.zip l->a=b/\a∈l:=by
  intro l
  induction l with
  |nil=>intro a b h;simp at h
  |cons x l ih=>
   intro a b h;simp only[List.zip_cons_cons,q99,q98]at h;rcases h with⟨rfl,rfl⟩|h
   . exact⟨rfl,by simp⟩
   . obtain⟨g1,g2⟩:=ih a b h;exact⟨g1,by simp[g2]⟩
 obtain⟨rfl,hm⟩:=h1 _ a b hab;simp only[Ey,qX3]at hm;obtain⟨n,_,rfl⟩:=hm;rw[Instr.sameBits]
 simp
theorem QF(z:List Int):(Instr.keyThatStays (.agg (Ey K z)) (.agg (Ey K z))).run P w=.ok (.agg (Ey K z)) w:=by
 unfold Instr.keyThatStays;rw[qK0 (S8 K z)];rfl
variable {e0 : Nat}
theorem U6(hT:CE P T)(neg:Bool)(ho:o.op=.binOp (bif neg then .neq else .eql) t x y t')(hx:An e x=some (.agg (arrAV K l1)))(hy:An e y=some (.agg (arrAV K l2)))(hp:P.eqGuardType P.depth t=false)(hi:T t=some i)(hk:i.k=.array n e0)
 (hj:T e0=some j) (hjk:j.k=.int K) (h1:l1.length=n) (h2:l2.length=n) (hc:P.cellsOf e0=1):QLoc P o e h [] (.bool (bif neg then !(decide (l1=l2))else decide (l1=l2))):=by
 intro H ι a w s hs g1 g2;have hx':An s.env x=some (.agg (arrAV K l1)):=by rw[g1 x Bx,hx]
 have hy':An s.env y=some (.agg (arrAV K l2)):=by rw[g1 y Bx,hy]
 have hvx:=(Ao hs hx').ints;have hvy:=(Ao hs hy').ints;obtain⟨info,d,e1,e2,e3,e4,e5,e6⟩:=Am (hT _ _ hi);obtain⟨info',d',e1',e2',e3',e4',e5',e6'⟩:=Am (hT _ _ hj);have hd:=I1 (P:=P) (d:=d) (e3▸hk);subst hd;have hd':=Hw (P:=P) (d:=d') (e3'▸hjk);subst hd';have hrun:(Op.equalIn 10000 t (.agg (Ey K l1)) (.agg (Ey K l2))).run P w=.ok (decide (l1=l2)) w:=Kq e2 e2' hc 9998 h1 h2;refine⟨_,.bool _ _,?_⟩
 cases neg with
 |true=>
  simp only[qZ7]at ho|-;simp only[execOp,ho,hvx,hvy,qQ9,run_eqGuard_agg w .neq t x y _ _ hp,q57,run_neq_struct,hrun,qX1]
 |false=>
  simp only[qZ3]at ho|-;simp only[execOp,ho,hvx,hvy,qQ9,run_eqGuard_agg w .eql t x y _ _ hp,q57,run_eql_struct,hrun,qX1]
theorem U4(hT:CE P T){et:TypeId}{j0:Av}{zv:Value}{z0:AV}(ho:o.op=.lookup t x y true)(hx:An e x=some (.map b))(hy:An e y=some (.agg (arrAV K z)))(hb:h b=some (.map (GC K m)))
 (hi:T t=some i) (hk:i.k=.map kt et) (hj:T kt=some j) (hjk:j.k=.array n e0) (hj0:T e0=some j0) (hjk0:j0.k=.int K) (hc:P.cellsOf e0=1) (hzl:z.length=n) (hm:∀p∈m,p.1.length=n) (hz:(P.info? et).bind (·.zero)=some zv) (hz0:JA zv=some z0):QLoc P o e h [b] (.tup [(dA z m).getD z0,.bool (dA z m).isSome]):=by
 intro H ι a w s hs h1 h2;have hx':An s.env x=some (.map b):=by rw[h1 x Bx,hx]
 have hy':An s.env y=some (.agg (arrAV K z)):=by rw[h1 y Bx,hy]
 have hb':s.h b=some (.map (GC K m)):=by rw[h2 b z145q,hb]
 obtain⟨info,d,e1,e2,e3,e4,e5,e6⟩:=Am (hT _ _ hi);obtain⟨info',d',e1',e2',e3',e4',e5',e6'⟩:=Am (hT _ _ hj);obtain⟨info0,d0,e10,e20,e30,e40,e50,e60⟩:=Am (hT _ _ hj0);have hd:=Il (P:=P) (d:=d) (e3▸hk);subst hd;have hd':=I1 (P:=P) (d:=d') (e3'▸hjk);subst hd';have hd0:=Hw (P:=P) (d:=d0) (e30▸hjk0);subst hd0;have hvy:=(Ao hs hy').ints;obtain⟨r,hr,hr0,hvx⟩:=(Ao hs hx').map_inv;obtain⟨r',hl,⟨r1,r2,es,clk,r3,r4,r6⟩,r5⟩:=hs.heap.obj b _ hb' rfl;rw[hr]at hl;cases hl;obtain⟨rr,f1,f2⟩:=(mapCellsA_iff.1 r4).find (w:=w) e2' e20 hc hzl hm 0;have hzero:(zeroValue et).run P w=.ok zv w:=by
  exact nK
 rcases f2 with⟨g1,rfl⟩|⟨p,v,en,g1,rfl,g3,g4,g5⟩
 . refine⟨.tuple #[zv,.bool false],?_,?_⟩
   . simp only[dA,g1,Option.map_none,Option.getD_none,Option.isSome_none];exact n7
   . simp[execOp,ho,Instr.lookup,hvx,hvy,Aq e2,q23 r3,FR e2' e20 hc _ hzl,Gy e2',f1,hzero]
 . refine⟨.tuple #[en.val,.bool true],?_,?_⟩
   . simp only[dA,g1,q80,q72,Option.isSome_some];exact od
   . simp[execOp,ho,Instr.lookup,hvx,hvy,Aq e2,q23 r3,FR e2' e20 hc _ hzl,Gy e2',f1]
theorem Py(hs:Sim H ι s a w){m':IU}{r:Ent}{es es':Array MapEntry}{clk clk':Nat}(hb:s.h b=some (.map (GC K m)))(hr:ι b=some r)(r1:r.sz=0)(r2:r.solid)
 (r3:w.heap[r.rb]?=some (.map es clk)) (hm:EntRelA H K m' es'.toList) (hbo:BornOk clk' (es'.toList.map (·.born))):
 HeapRel H ι (hput s.h b (.map (GC K m'))) {w with heap:=w.heap.setIfInBounds r.rb (.map es' clk')}/\Step H ι s.h w H ι (hput s.h b (.map (GC K m'))) {w with heap:=w.heap.setIfInBounds r.rb (.map es' clk')}:=by
 have hlt:r.rb<w.heap.size:=(q03.1 r3).1;have:=hs.heap.upd (o':=.map (GC K m')) (r':=r) (w':={w with heap:=w.heap.setIfInBounds r.rb (.map es' clk')}) hb rfl (.inr ⟨r,hr,rfl,.inl rfl⟩) (fun _=>.inr ⟨r,hr,rfl,r2,rfl⟩)
  (fun rb _ hne=>by
   have:rb≠r.rb:=hne r hr rfl r2;simp[q00 (Ne.symm this)]) z145q rfl rfl
  ⟨r1,r2,es',clk',by simp[hlt],mapCellsA_iff.2 hm,hbo⟩
 rwa[show D1 ι b r=ι from by
  funext c
  by_cases hc:c=b
  . subst hc;rw[Br,hr]
  . rw[DE _ _ hc]]at this
theorem o_mapUpdateA(hT:CE P T){et:TypeId}{u:Operand}{j0:Av}(ho:o.op=.mapUpdate t x y u)(hd:o.dst=none)(hx:An e x=some (.map b))(hy:An e y=some (.agg (arrAV K z)))(hu:An e u=some q)(hp:q.isPure=true)
 (hb:h b=some (.map (GC K m))) (hi:T t=some i) (hk:i.k=.map kt et) (hj:T kt=some j) (hjk:j.k=.array n e0) (hj0:T e0=some j0) (hjk0:j0.k=.int K) (hc:P.cellsOf e0=1) (hzl:z.length=n) (hm:∀p∈m,p.1.length=n):OLoc P o e h [b] [(b,.map (GC K (QQ z q m)))] none:=by
 intro H ι a w s Q hs h1 h2;have hx':An s.env x=some (.map b):=by rw[h1 x Bx,hx]
 have hy':An s.env y=some (.agg (arrAV K z)):=by rw[h1 y Bx,hy]
 have hu':An s.env u=some q:=by rw[h1 u Bx,hu]
 have hb':s.h b=some (.map (GC K m)):=by rw[h2 b z145q,hb]
 obtain⟨info,d,e1,e2,e3,e4,e5,e6⟩:=Am (hT _ _ hi);obtain⟨info',d',e1',e2',e3',e4',e5',e6'⟩:=Am (hT _ _ hj);obtain⟨info0,d0,e10,e20,e30,e40,e50,e60⟩:=Am (hT _ _ hj0);have hd1:=Il (P:=P) (d:=d) (e3▸hk);subst hd1;have hd':=I1 (P:=P) (d:=d') (e3'▸hjk);subst hd';have hd0:=Hw (P:=P) (d:=d0) (e30▸hjk0);subst hd0;have hvy:=(Ao hs hy').ints;obtain⟨r,hr,hr0,hvx⟩:=(Ao hs hx').map_inv;obtain⟨r',hl,⟨r1,r2,es,clk,r3,r4,r6⟩,r5⟩:=hs.heap.obj b _ hb' rfl;rw[hr]at hl;cases hl;have hrv:=GQ (ι':=A7) hp (Ao hs hu');have hE:=mapCellsA_iff.1 r4;obtain⟨rr,f1,f2⟩:=hE.find (w:=w) e2' e20 hc hzl hm 0;unfold Oper.wp;rcases f2 with⟨g1,rfl⟩|⟨p,v,en,g1,rfl,g3,g4,g5⟩
 . have hrun:(execOp a.eval o).run P w=.ok .skip {w with heap:=w.heap.setIfInBounds r.rb (.map (es.push {key:=.agg (Ey K z),val:=a.eval u,born:=clk}) (clk+1))}:=by
    simp[execOp,ho,Instr.mapUpdate,hvx,hvy,Aq e2,q23 r3,FR e2' e20 hc _ hzl,Gy e2',f1,q24 _ r3]
   rw[hrun];obtain⟨u1,u2⟩:=Py hs (es':=es.push {key:=.agg (Ey K z),val:=a.eval u,born:=clk}) (clk':=clk+1) hb' hr r1 r2 r3 (m':=QQ z q m) (by rw[Array.toList_push];exact hE.set_new hrv clk g1) (by rw[Array.toList_push,q77];exact r6.snoc);exact YO
 . have hrun:(execOp a.eval o).run P w=.ok .skip {w with heap:=w.heap.setIfInBounds r.rb (.map (es.modify p fun e=>{e with key:=.agg (Ey K z),val:=a.eval u}) clk)}:=by
    have g3':es[p]?=some en:=by simpa using g3
    simp[execOp,ho,Instr.mapUpdate,hvx,hvy,Aq e2,q23 r3,FR e2' e20 hc _ hzl,Gy e2',f1,q24 _ r3,g3',g4,QF]
   rw[hrun];obtain⟨u1,u2⟩:=Py hs (es':=es.modify p fun e=>{e with key:=.agg (Ey K z),val:=a.eval u}) (clk':=clk) hb' hr r1 r2 r3 (m':=QQ z q m) (by rw[Array.toList_modify];exact hE.set_old hrv g1) (by rw[NR];exact r6);exact YO
def A6(b:Nat)(es:List (List AV)):AV:=R4 es.isEmpty b es
def By(sz:Nat)(es:List (List AV)):AObj:=MX es.isEmpty sz es
def wT(b:Nat)(es:List (List AV)):AV:=bif es.isEmpty then .lst false []else .ref b es.length 0 es.length
def yY(es:List (List AV)):AObj:=bif es.isEmpty then .free else .row true 1 es
theorem N2(l:List α)(x:α):(l++[x]).isEmpty=false:=by cases l<;>rfl
theorem PK{l:List α}{k:Nat}(h:k<l.length):l.isEmpty=false:=by cases l with|nil=>simp at h|cons=>rfl
theorem I6(b:Nat)(es:List (List AV))(x:List AV):A6 b (es++[x])=.ref b (es.length+1) 0 (es.length+1):=by
 simp[A6,N2,R4]
variable {es : List (List AV)}
theorem OL{k:Nat}(h:k<es.length):A6 b es=.ref b es.length 0 es.length:=by simp[A6,PK h,R4]
theorem I5{k:Nat}(h:k<es.length):By sz es=.row true sz es:=by simp[By,PK h,MX]
theorem cr(f:Bool)(b:Nat)(es:List (List AV)):(R4 f b es).cells=[R4 f b es]:=by cases f<;>rfl
theorem B1(b:Nat)(es:List (List AV)):(A6 b es).cells=[A6 b es]:=cr _ _ _
theorem Cj(b:Nat)(es:List (List AV)):(A6 b es).cell1=true:=by unfold A6 R4;cases es.isEmpty<;>rfl
theorem BV(es:List (List AV))(h:k b=true):(A6 b es).avoid k=true:=by unfold A6 R4;cases es.isEmpty<;>simp[AV.avoid,AV.flat,h]
theorem Ml(es:List (List AV))(h:k b=true):(wT b es).avoid k=true:=by unfold wT;cases es.isEmpty<;>simp[AV.avoid,AV.flat,h]
theorem CJ(sz:Nat)(es:List (List AV)):(By sz es).avoid k=true:=by unfold By MX;cases es.isEmpty<;>rfl
theorem Q6(es:List (List AV)):(yY es).avoid k=true:=by unfold yY;cases es.isEmpty<;>rfl
theorem DD(hT:CE P T)(ho:o.op=.call {callee:=.builtin .len,args:= #[x],argTypes:= #[t]})(hx:An e x=some (A6 b es))(hi:T t=some i)(hk:i.k=.slice u):QLoc P o e h [] (.int .i64 (es.length:Int)):=by
 unfold A6 R4 at hx
 cases hf:es.isEmpty with
 |true=>rw[hf]at hx;exact gt hT ho hx hi (by rw[hk];rfl) rfl
 |false=>rw[hf]at hx;exact gt hT ho hx hi (by rw[hk];rfl) rfl
theorem AR(hT:CE P T){k:IntKind}{n:Int}(ho:o.op=.indexAddr t x y)(hx:An e x=some (A6 b es))(hy:An e y=some (.int k n))
 (hi:T t=some i) (hk:i.k=.slice u) (hj:T u=some j) (hb:h b=some (By sz es)) (hsz:sz=j.size) (h0:0<=n) (hn:n<es.length):QLoc P o e h [b] (.ptr b es.length n.toNat 0):=by
 have hlt:n.toNat<es.length:=by omega
 rw[OL hlt]at hx;rw[I5 hlt]at hb;have:=Ae hT ho hx hy hi hk hj hb rfl hsz h0 hn;rwa[qQ8]at this
theorem ptsJ{k:Nat}(hb:h b=some (By sz es))(hi:es[k]?=some cs):PtsTo h (.ptr b es.length k 0) [b] cs:=by
 have hlt:k<es.length:=(q05.1 hi).1;rw[I5 hlt]at hb;exact .ptr b es.length k 0 true sz es cs hb rfl hi
variable {off : Nat}
theorem CQ(hT:CE P T){m k:Nat}(ho:o.op=.store t x y)(hd:o.dst=none)(hx:An e x=some (.ptr b m k off))(hy:An e y=some q)(hi:T t=some i)(his:i.size=1)
 (hb:h b=some (.row p sz es)) (hm:m=es.length) (hk:es[k]?=some cs) (hq:q.cells=[q]) (hfit:off+1<=sz) (h1:q.cell1=true) (hp:p=true->q.isPure1=true):
 OLoc P o e h [b] [(b,.row p sz (es.set k (D0 cs off [q])))] none:=by
 have:=o_store hT ho hd hx hy hi hb hm hk (by rw[hq,his];rfl) (by rw[his];exact hfit) (by rw[hq];simp[h1]) (fun h=>by rw[hq];simp[hp h]);rwa[hq]at this
variable {x0 : List AV}
theorem o_append1J(hT:CE P T)
 (ho:o.op=.call {callee:=.builtin .append,args:= #[x,y],argTypes:= #[t,t']}) (hx:An e x=some (A6 b es)) (hy:An e y=some (.lst ex2 [x0])) (hi:T t=some i) (hk:i.k=.slice u) (hj:T u=some j) (hi':T t'=some i') (hk':i'.k=.slice u')
 (hb:h b=some (By sz es)) (hsz:sz=j.size) (hz:j.zero.length=j.size) (hp:0<j.size)
 (hu:∀cs∈es,cs.length=sz) (hpu:∀cs∈es,cs.all AV.isPure1=true) (hu2:x0.length=sz) (hpure:x0.all AV.isPure1=true)
 (hby:(es.length+1)*j.bytes<=140737488355328) (hml:es.length+1<=maxLen):
 OLoc P o e h [b] [(b,By sz (es++[x0]))] (some (A6 b (es++[x0]))):=by
 have:=RC (f:=es.isEmpty) hT b ho hx hy hi hk hj hi' hk' hb hsz hz hp hu hpu (by simpa using hu2) (by simpa using hpure) hby hml;have e1:(es.isEmpty&&[x0].isEmpty)=(es++[x0]).isEmpty:=by rw[N2];simp
 rw[e1]at this;exact this
theorem Ghost.weakRowF(b:Nat)(hb:h b=some (.row false sz es))(hl:es'.length=es.length)
 (hw:∀(i:Nat) (cs cs':List AV),es[i]?=some cs->es'[i]?=some cs'->cs'.length=cs.length/\∀(j:Nat) (x y:AV),cs[j]?=some x->cs'[j]?=some y->(x.cell1=true->y.cell1=true)/\∀H ι v,Rel H ι x v->Rel H ι y v):Ghost ⟨n,e,h⟩ ⟨n,e,hput h b (.row false sz es')⟩:=fun H ι a w hs=>by
 obtain⟨r,hr,⟨r1,r2,r3,r4,r5,r6⟩,r7⟩:=hs.heap.obj b _ hb rfl;have hlput:D1 ι b r=ι:=by
  funext c
  by_cases hc:c=b
  . subst hc;rw[Br,hr]
  . rw[DE _ _ hc]
 have hget:∀(i:Nat) (cs':List AV),es'[i]?=some cs'->∃cs,es[i]?=some cs:=fun i cs' hi=>by
  have:i<es'.length:=(q05.1 hi).1;exact⟨es[i]'z144q,q13 z144q⟩
 have:=hs.heap.upd (o':=.row false sz es') (r':=r) (w':=w) hb rfl (.inr ⟨r,hr,rfl,.inl rfl⟩) (fun hsol=>.inr ⟨r,hr,rfl,hsol,rfl⟩) (fun _ _ _=>rfl) (qZ0 _) rfl rfl
  ⟨r1,r2,by rw[hl];exact r3,by rw[hl];exact r4,fun i cs' hi=>by
   obtain⟨cs,hc⟩:=hget i cs' hi;rw[(hw i cs cs' hc hi).1];exact r5 i cs hc,fun hsol=>by
   obtain⟨c,T,c1,c2,c3,c4⟩:=r6 hsol;refine⟨c,T,c1,c2,fun i cs' hi=>?_,?_⟩
   . obtain⟨cs,hc⟩:=hget i cs' hi;rw[(hw i cs cs' hc hi).1];exact r5 i cs hc
   rw[hlput];intro i cs' j y hi hj;obtain⟨cs,hc⟩:=hget i cs' hi;obtain⟨w1,w2⟩:=hw i cs cs' hc hi;have hjlt:j<cs'.length:=(q05.1 hj).1;have hx:cs[j]?=some (cs[j]'z144q):=q13 z144q;obtain⟨v,v1,v2,v3⟩:=c4 i cs j _ hc hx;obtain⟨g1,g2⟩:=w2 j _ y hx hj;exact⟨v,v1,g2 _ _ _ v2,g1 v3⟩⟩
 exact dT
theorem Tt(h:Rel H ι .nil v):Rel H ι (.lst true []) v:=by
 rw[h.nil_inv];exact .lst0 _ _ _ _ (fun _=>rfl) (qZ1 _) (fun _=>rfl) trivial
def Qx(sz:Nat)(es:List (List AV)):AObj:=bif es.isEmpty then .free else .row false sz es
theorem bX(hT:CE P T)(b:Nat)
 (ho:o.op=.call {callee:=.builtin .append,args:= #[x,y],argTypes:= #[t,t']}) (hx:An e x=some (.lst true [])) (hy:An e y=some q) (hi:T t=some i) (hk:i.k=.slice u) (hj:T u=some j) (hi':T t'=some i') (hk':i'.k=.slice u')
 (hb:h b=some .free) (hz:j.zero.length=j.size) (hp:0<j.size) (hsrc:SrcOf h q R es2) (hu2:∀cs∈es2,cs.length=j.size) (hne:0<es2.length)
 (hby:es2.length*j.bytes<=140737488355328) (hml:es2.length<=maxLen):
 OLoc P o e h (b::R) [(b,.row false j.size es2)] (some (.ref b es2.length 0 es2.length)):=by
 refine El hb z145q hp fun H ι a w s hs g1 g2=>?_
 have hx':An s.env x=some (.lst true []):=by rw[g1 x Fu,hx]
 have hy':An s.env y=some q:=by rw[g1 y Fu,hy]
 have hsrc':=hsrc.agree (h':=s.h) (fun c hc=>g2 c K4);obtain⟨info,d,e1,e2,e3,e4,e5,e6⟩:=Am (hT _ _ hi);obtain⟨infou,du,f1,f2,f3,f4,f5,f6⟩:=Am (hT _ _ hj);obtain⟨info',d',e1',e2',e3',e4',e5',e6'⟩:=Am (hT _ _ hi');have hd:=BF (P:=P) (d:=d) (e3▸hk);subst hd;have hd':=BF (P:=P) (d:=d') (e3'▸hk');subst hd';obtain⟨z,hz1,hz2⟩:=En f6 hz hp;have hzl:z.cells.size=j.size:=by rw[<-hz];simpa using(DX (H:=H) (ι:=A7) hz2).1.symm
 have hvx:=Ao hs hx';have hvy:=Ao hs hy';generalize hva:a.eval x=va at hvx;generalize hvb:a.eval y=vb at hvy;have hexec:∀(v:Value) (w':World),(Builtin.append_ #[t,t'] o.type #[va,vb]).run P w=.ok v w'->(execOp a.eval o).run P w=.ok (.value v) w':=fun v w' hrun=>by
  exact aj
 obtain⟨news,hsrcw,hnews⟩:=Ms hs.heap hsrc' hvy e2' hp hu2 w rfl;rw[<-f4]at hsrcw;have hnl:news.length=es2.length*j.size:=by rw[hsrcw.newsLen,f4]
 have h63:((0+es2.length:Nat):Int)<=9223372036854775807:=by
  exact YL
 obtain⟨base,hv,hold⟩:∃(base:Option Addr),va=.slice base 0 0/\(Builtin.firstCells infou.size 0 (.slice base 0 0)).run P w.drew=.ok ([]:List Value).toArray w.drew:=by
  rcases hvx.lst_inv with⟨_,ad,cap,rfl,h1,h2,h3,h4⟩|⟨hne,_⟩
  . have:=h1 rfl;subst this;refine⟨ad,rfl,?_⟩;exact dS
  . exact absurd rfl hne
 exact rN
theorem KQ(hT:CE P T)
 (ho:o.op=.call {callee:=.builtin .append,args:= #[x,y],argTypes:= #[t,t']}) (hx:An e x=some (A6 b es)) (hy:An e y=some q) (hi:T t=some i) (hk:i.k=.slice u) (hj:T u=some j) (hi':T t'=some i') (hk':i'.k=.slice u')
 (hb:h b=some (Qx sz es)) (hsz:sz=j.size) (hz:j.zero.length=j.size) (hp:0<j.size) (hsrc:SrcOf h q R [x0]) (hu2:x0.length=sz)
 (hby:(es.length+1)*j.bytes<=140737488355328) (hml:es.length+1<=maxLen):
 OLoc P o e h (b::R) [(b,.row false sz (es++[x0]))] (some (A6 b (es++[x0]))):=by
 subst hsz;rw[I6]
 cases hes:es.isEmpty with
 |true=>
  have e1:es=[]:=List.isEmpty_iff.1 hes;subst e1;exact bX hT b ho hx hy hi hk hj hi' hk' hb hz hp hsrc (by intro cs hc;simp at hc;rw[hc];exact hu2) z145q (by simpa using hby) (by simpa using hml)
 |false=>
  have ex:A6 b es=.ref b es.length 0 es.length:=by simp[A6,hes,R4]
  have eo:Qx j.size es=.row false j.size es:=by simp[Qx,hes]
  rw[ex]at hx;rw[eo]at hb;exact o_append hT ho hx hy hi hk hj hi' hk' hb rfl rfl hz hp hsrc (by intro cs hc;simp at hc;rw[hc];exact hu2) D9 (m:=1) rfl hby hml
def Ig(base:Ad)(F:Nat->AObj):Ad:=fun c=>bif Nat.ble 16 c then some (F (c-16))else base c
theorem As(base:Ad)(F:Nat->AObj)(x:Nat):Ig base F (x+16)=some (F x):=by
 have:Nat.ble 16 (x+16)=true:=by rw[qZ5];omega
 simp only[Ig,this,qZ7,Nat.add_sub_cancel]
variable {c : Nat}
theorem KX(base:Ad)(F:Nat->AObj)(h:c<16):Ig base F c=base c:=by
 have:Nat.ble 16 c=false:=by rw[<-Bool.not_eq_true,qZ5];omega
 simp only[Ig,this,qZ3]
def WA:List AObj->Nat->AObj
  | [],_=>.free
  |o::_,0=>o
  |_::L,n+1=>WA L n
def nb(L:List AObj):Ad:=fun c=>some (WA L c)
def kf(k0:Nat):Nat->Bool:=fun c=>Nat.blt c k0||Nat.ble 16 c
variable {k0 : Nat}
theorem oD(h:c<k0):kf k0 c=true:=by
 have:Nat.blt c k0=true:=by rw[qZ6];exact h
 simp[kf,this]
theorem VB(k0 x:Nat):kf k0 (x+16)=true:=by
 have:Nat.ble 16 (x+16)=true:=by rw[qZ5];omega
 simp[kf,this]
theorem iq(h:kf k0 c=false):k0<=c/\c<16:=by
 simp only[kf,q38]at h;obtain⟨h1,h2⟩:=h;rw[<-Bool.not_eq_true,qZ6]at h1;rw[<-Bool.not_eq_true,qZ5]at h2;omega
theorem nth_out:∀{L:List AObj} {c:Nat},L.length<=c->WA L c=.free
 | [],_,_=>rfl
 |_::L,0,h=>absurd h z145q
 |_::L,c+1,h=>nth_out (L:=L) He
def LowAt(h:Ad)(k:Nat->Bool):Nat->List AObj->Prop
  |_,[]=>True
  |i,o::L=>(h i=some o/\o.avoid k=true)/\LowAt h k (i+1) L
theorem LowAt.get{h:Ad}{k:Nat->Bool}:∀{L:List AObj} {i c:Nat},LowAt h k i L->c<L.length->h (i+c)=some (WA L c)/\(WA L c).avoid k=true
 | [],_,_,_,hc=>absurd hc z145q
 |o::L,i,0,hl,_=>hl.1
 |o::L,i,c+1,hl,hc=>by
  have:=LowAt.get (L:=L) (i:=i+1) (c:=c) hl.2 (by simpa using hc);rw[show i+(c+1)=i+1+c by omega];exact this
variable {L : List AObj} {F : Nat -> AObj}
theorem BP(hk:L.length=k0)(h:kf k0 c=false):Ig (nb L) F c=some .free:=by
 obtain⟨h1,h2⟩:=iq h;rw[KX _ _ h2];show some (WA L c)=_;rw[nth_out z144q]
theorem Bw(hk:L.length=k0)(h1:LowAt h (kf k0) 0 L)(h2:∀x,h (x+16)=some (F x))(h3:∀x,(F x).avoid (kf k0)=true):Qq (kf k0) (Ig (nb L) F) h:=by
 intro c o ho
 cases hc:kf k0 c with
 |false=>
  rw[BP hk hc]at ho
  cases ho
  exact .inr ⟨rfl,rfl⟩
 |true=>
  by_cases h16:16<=c
  . obtain⟨x,rfl⟩:∃x,c=x+16:=⟨c-16,by omega⟩
    rw[As]at ho;cases ho;exact .inl ⟨h2 x,fun _=>⟨rfl,h3 x⟩⟩
  . have hlt:c<k0:=by
     simp only[kf,q81,qZ6,qZ5]at hc;omega
    rw[KX _ _ z144q]at ho;have ho':some (WA L c)=some o:=ho
    cases ho'
    have:=h1.get (c:=c) z144q;rw[qQ8]at this;exact .inl ⟨this.1,fun _=>⟨rfl,this.2⟩⟩
theorem Ca(hk:L.length=k0)(h1:LowAt h (kf k0) 0 L)(h2:∀x,h (x+16)=some (F x))(h3:∀c,k0<=c->c<16->h c=some .free):HSub (Ig (nb L) F) h:=by
 intro c o ho
 by_cases h16:16<=c
 . obtain⟨x,rfl⟩:∃x,c=x+16:=⟨c-16,by omega⟩
   rw[As]at ho;cases ho;exact h2 x
 . rw[KX _ _ z144q]at ho;have ho':some (WA L c)=some o:=ho
   cases ho'
   by_cases hlt:c<k0
   . have:=h1.get (c:=c) z144q;rw[qQ8]at this;exact this.1
   . rw[nth_out z144q];exact h3 c z144q z144q
theorem D5(hh:∀x,h (x+16)=some (F x))(z:Nat)(o:AObj):∀x,hput h (z+16) o (x+16)=some (if x=z then o else F x):=fun x=>by
 by_cases hx:x=z
 . subst hx;rw[At,qK0 rfl]
 . rw[AU _ _ z144q,qZ9 hx];exact hh x
def Bj(φ:Nat->Nat)(l:List Nat)(m:List Nat):Prop:=∀b∈l,φ b∈m
def OS(φ:Nat->Nat):List (List Nat×List Nat)->List (List Nat×List Nat)->Prop
  | [],[]=>True
  |s::S,m::M=>Bj φ s.1 m.1/\Bj φ s.2 m.2/\OS φ S M
  |_,_=>False
theorem KH{φ:Nat->Nat}:∀{S M:List (List Nat×List Nat)} {i:Nat} {s:List Nat×List Nat},OS φ S M->S[i]?=some s->∃m,M[i]?=some m/\Bj φ s.1 m.1/\Bj φ s.2 m.2
 | [],_,_,_,_,h=>by simp at h
 |_::_,[],_,_,hs,_=>hs.elim
 |s::S,m::M,0,_,hs,h=>by simp at h;subst h;exact⟨m,rfl,hs.1,hs.2.1⟩
 |s::S,m::M,i+1,t,hs,h=>by
  simp only[q17]at h|-;exact KH hs.2.2 h
theorem I7{φ:Nat->Nat}:∀{S M:List (List Nat×List Nat)} {i:Nat},OS φ S M->S[i]?=none->M[i]?=none
 | [],[],_,_,_=>by simp
 | [],_::_,_,hs,_=>hs.elim
 |_::_,[],_,hs,_=>hs.elim
 |s::S,m::M,0,_,h=>by simp at h
 |s::S,m::M,i+1,hs,h=>by
  simp only[q17]at h|-;exact I7 hs.2.2 h
theorem dw{φ:Nat->Nat}{x y x' y':List Nat×List Nat}(hx1:Bj φ x.1 x'.1)(hx2:Bj φ x.2 x'.2)(hy1:Bj φ y.1 y'.1)(hy2:Bj φ y.2 y'.2)(h:CO x' y'=true):CO x y=true:=by
 simp only[CO,q66,q67,q61,List.contains_eq_mem,q16]at h|-;exact⟨fun b hb=>⟨fun hc=>(h.1 (φ b) (hx2 b hb)).1 (hy1 b hc),fun hc=>(h.1 (φ b) (hx2 b hb)).2 (hy2 b hc)⟩,fun b hb hc=>h.2 (φ b) (hy2 b hb) (hx1 b hc)⟩
theorem mn(φ:Nat->Nat){S M:List (List Nat×List Nat)}(hs:OS φ S M)(h:jT ops M=true):jT ops S=true:=by
 unfold jT at h|-;rw[q67]at h|-;intro j hj;have hjj:=h j hj
 cases ho:ops[j]? with
 |none=>rw[ho]at hjj;cases hjj
 |some oj=>
  rw[ho]at hjj
  cases hsj:S[j]? with
  |none=>rw[I7 hs hsj]at hjj;cases hjj
  |some sj=>
   obtain⟨mj,hmj,c1,c2⟩:=KH hs hsj;rw[hmj]at hjj;simp only[q66]at hjj|-;refine⟨hjj.1,?_⟩;rw[q67];intro i hi;have hii:=q67.1 hjj.2 i hi
   cases hoi:ops[i]? with
   |none=>rw[hoi]at hii;cases hii
   |some oi=>
    rw[hoi]at hii
    cases hsi:S[i]? with
    |none=>rw[I7 hs hsi]at hii;cases hii
    |some si=>
     obtain⟨mi,hmi,d1,d2⟩:=KH hs hsi;rw[hmi]at hii;simp only[q81,q66]at hii|-;rcases hii with hii|hii
     . exact .inl hii
     . exact .inr ⟨hii.1,dw d1 d2 c1 c2 hii.2⟩
theorem FP{acc:List (List Nat×List Nat)}{K:Al->Prop}(φ:Nat->Nat)(M:List (List Nat×List Nat))(hs:OS φ acc M)(hc:jT ops M=true)(hk:K ⟨n,e,h⟩):DOps P ops n [] e h acc K:=DOps.nil (mn φ hs hc) hk
def wl(f:Nat->Nat)(o:Nat->AObj)(n:Nat):List (Nat×AObj):=(List.range n).map fun i=>(f i,o i)
theorem CV{f:Nat->Nat}{o:Nat->AObj}(h:Ad)(hb:∀i,i<n->b≠f i):hputs h (wl f o n) b=h b:=by
 refine Sb fun p hp=>?_
 unfold wl at hp;simp only[qX3,q94]at hp;obtain⟨i,hi,rfl⟩:=hp;exact fun e=>hb i hi e.symm
theorem N7(z:Nat):mem [z] z=true:=mem_iff.2 z145q
theorem jA{a b:Bool}(ha:a=true)(hb:b=true):(a&&b)=true:=by rw[ha,hb];rfl
theorem RA{g:FuncId}(z:Nat){q:AObj}
 (ho:o.op=.call {callee:=.value (.func g),args:=args,argTypes:=tys}) (hf:P.funcs[g]?=some fn) (hn:(fn.name== "runtime.NumGoroutine")=false) (hb:fn.body.isSome=true) (hx:A8 e args.toList=some xs)
 (hxa:xs.all (AV.avoid (mem [z]))=true) (hz:h z=some q) (hq:q.avoid (mem [z])=true) (hra:r.avoid (mem [z])=true)
 (hcall:ACall P g xs (hput hNew z q) (fun r' h'=>r'=r/\HSub (hput hNone z q) h')):OLoc P o e h [z] [] (some r):=
 Jf (hc:=hput hNew z q) (hw:=hput hNone z q) [z] [] ho hf hn hb hx hxa ⟨⟨q,hz,hq⟩,trivial⟩ rfl (Ac hz (AE h)) ⟨⟨q,At _ _ _,hz,hq⟩,trivial⟩ hra hcall
theorem ZD(hT:CE P T){f:Nat}{fs:List (Nat×Nat)}(ho:o.op=.field t x f)(hx:An e x=some (.agg cs))(hi:T t=some i)(hk:i.k=.struct fs)
 (hf:fs[f]?=some (off,u)) (hj:T u=some j) (hc:j.k.isCell=true) (hr:cs[off]?=some r):QLoc P o e h [] r:=by
 intro H ι a w s hs h1 h2;have hx':An s.env x=some (.agg cs):=by rw[h1 x Bx,hx]
 obtain⟨info,d,e1,e2,e3,e4,e5,e6⟩:=Am (hT _ _ hi);obtain⟨info',d',f1,f2,f3,f4,f5,f6⟩:=Am (hT _ _ hj);obtain⟨A,rfl,rfl,hz⟩:=Fx (P:=P) (d:=d) (e3▸hk);rw[q54,q29]at hf
 cases ef:A[f]? with
 |none=>rw[ef]at hf;cases hf
 |some g=>
  rw[ef]at hf;simp only[q80,q53,q98]at hf;obtain⟨rfl,rfl⟩:=hf;obtain⟨us,hv,hl,hrel⟩:=(Ao hs hx').agg_inv;have hlt:g.offset<us.size:=by rw[<-hl];exact(q05.1 hr).1
  have hagg:PL d'=false:=by
   have:=Zc (P:=P) (d:=d') (by rw[<-f3];exact hc)
   cases d'<;>first|rfl|exact absurd rfl (this.1 _)|exact absurd rfl (this.2 _ _)
  refine⟨us[g.offset],hrel g.offset r _ hr (q12 hlt),?_⟩;simp only[execOp,ho,Instr.field,hv,qQ9,qX1,q57,Aq e2,ef,asAgg,part,JP f2,hagg,q50,if_false,q12 hlt]
def ZG(h:Ad):AV->Option (List Nat×List AV)
  | .loc cs=>some ([],cs)
  | .ptr b n i o=>match h b with
    |some (.row p sz es)=>match Nat.beq n es.length,es[i]? with
      |true,some cs=>some ([b],cs.drop o)
      |_,_=>none
    |_=>none
  |_=>none
theorem Pd{p:AV}(e:ZG h p=some (R,cs)):PtsTo h p R cs:=by
 unfold ZG at e;split at e
 . simp only[q53,q98]at e;obtain⟨rfl,rfl⟩:=e;exact .loc _
 . split at e
   . rename_i b n i o p sz es hb;split at e
     . rename_i cs h1 h2;simp only[q53,q98]at e;obtain⟨rfl,rfl⟩:=e;exact .ptr _ _ _ _ _ _ _ _ hb (q25 h1) h2
     . cases e
   . cases e
 . cases e
def vW(T:Nat->Option Av)(o:Op)(e:Ax)(h:Ad):Option (List Nat×AV):=
  match o with
  | .move x=>match An e x with
    |some p=>some ([],p)
    |none=>none
  | .assign x=>match An e x with
    |some p=>some ([],p)
    |none=>none
  | .load t x=>match An e x,T t with
    |some p,some i=>match ZG h p with
      |some (R,cs)=>match Jk i cs with
        |some r=>some (R,r)
        |none=>none
      |none=>none
    |_,_=>none
  | .fieldAddr t x f=>match An e x,T t with
    |some p,some i=>match i.k with
      | .struct fs=>match fs[f]? with
        |some (off,u)=>match Ji p off with
          |some r=>some ([],r)
          |none=>none
        |none=>none
      |_=>none
    |_,_=>none
  | .binOp op t x y t'=>match An e x,An e y with
    |some p,some q=>match AX op p q with
      |some r=>some ([],r)
      |none=>none
    |_,_=>none
  | .unOp .not t x=>match An e x with
    |some (.bool b)=>some ([],.bool (!b))
    |_=>none
  | .pick c x y=>match An e c with
    |some (.bool true)=>match An e x with
      |some p=>some ([],p)
      |none=>none
    |some (.bool false)=>match An e y with
      |some p=>some ([],p)
      |none=>none
    |_=>none
  | .extract x k=>match An e x with
    |some (.tup vs)=>match vs[k]? with
      |some r=>some ([],r)
      |none=>none
    |_=>none
  | .nilCheck x=>match An e x with
    |some p=>match(match p with| .loc _| .ptr .. =>true|_=>false)with
      |true=>some ([],p)
      |false=>none
    |none=>none
  | .field t x f=>match An e x,T t with
    |some (.agg cs),some i=>match i.k with
      | .struct fs=>match fs[f]? with
        |some (off,u)=>match T u with
          |some j=>match j.k.isCell,cs[off]? with
            |true,some r=>some ([],r)
            |_,_=>none
          |none=>none
        |none=>none
      |_=>none
    |_,_=>none
  | .convert t u x=>match An e x,T t,T u with
    |some (.int k' n),some i,some j=>match j.k with
      | .int k=>some ([],.int k (k.wrap n))
      |_=>none
    |_,_,_=>none
  | .call ⟨.builtin .len,args,tys⟩=>match args.toList,tys.toList with
    | [x],[t]=>match An e x,T t with
      |some p,some i=>match(match p with| .str _=>(match i.k with| .string=>true|_=>false)|_=>(match i.k with| .slice _=>true|_=>false)),PC p with
        |true,some n=>some ([],.int .i64 n)
        |_,_=>none
      |_,_=>none
    |_,_=>none
  |_=>none
theorem Z6{a:Array α}{x:α}(h:a.toList=[x]):a= #[x]:=Array.ext' h
theorem qEv_spec(hT:CE P T)(hq:vW T o.op e h=some (R,r)):QLoc P o e h R r:=by
 unfold vW at hq;split at hq
 . rename_i x ho;split at hq
   . rename_i p hp;simp only[q53,q98]at hq;obtain⟨rfl,rfl⟩:=hq;exact ME (.inl ho) hp
   . cases hq
 . rename_i x ho;split at hq
   . rename_i p hp;simp only[q53,q98]at hq;obtain⟨rfl,rfl⟩:=hq;exact ME (.inr ho) hp
   . cases hq
 . rename_i t x ho;split at hq
   . rename_i p i hp hi;split at hq
     . rename_i R' cs hc;split at hq
       . rename_i r' hr;simp only[q53,q98]at hq;obtain⟨rfl,rfl⟩:=hq;exact Ar hT ho hp hi (Pd hc) hr
       . cases hq
     . cases hq
   . cases hq
 . rename_i t x f ho;split at hq
   . rename_i p i hp hi;split at hq
     . rename_i fs hk;split at hq
       . rename_i off u hf;split at hq
         . rename_i r' hr;simp only[q53,q98]at hq;obtain⟨rfl,rfl⟩:=hq;exact Jd hT ho hp hi hk hf hr
         . cases hq
       . cases hq
     . cases hq
   . cases hq
 . rename_i op t x y t' ho;split at hq
   . rename_i p q hp hq';split at hq
     . rename_i r' hr;simp only[q53,q98]at hq;obtain⟨rfl,rfl⟩:=hq;exact A1 ho hp hq' hr
     . cases hq
   . cases hq
 . rename_i t x ho;split at hq
   . rename_i b hp;simp only[q53,q98]at hq;obtain⟨rfl,rfl⟩:=hq;exact Nu ho hp
   . cases hq
 . rename_i c x y ho;split at hq
   . rename_i hc;split at hq
     . rename_i p hp;simp only[q53,q98]at hq;obtain⟨rfl,rfl⟩:=hq;exact F0 true ho hc rfl hp
     . cases hq
   . rename_i hc;split at hq
     . rename_i p hp;simp only[q53,q98]at hq;obtain⟨rfl,rfl⟩:=hq;exact Et false ho hc rfl hp
     . cases hq
   . cases hq
 . rename_i x k ho;split at hq
   . rename_i vs hp;split at hq
     . rename_i r' hr;simp only[q53,q98]at hq;obtain⟨rfl,rfl⟩:=hq;exact MG ho hp hr
     . cases hq
   . cases hq
 . rename_i x ho;split at hq
   . rename_i p hp;split at hq
     . rename_i hc;simp only[q53,q98]at hq;obtain⟨rfl,rfl⟩:=hq;exact XH ho hp (by cases p<;>first|rfl|cases hc)
     . cases hq
   . cases hq
 . rename_i t x f ho;split at hq
   . rename_i cs i hp hi;split at hq
     . rename_i fs hk;split at hq
       . rename_i off u hf;split at hq
         . rename_i j hj;split at hq
           . rename_i r' hc hr;simp only[q53,q98]at hq;obtain⟨rfl,rfl⟩:=hq;exact ZD hT ho hp hi hk hf hj hc hr
           . cases hq
         . cases hq
       . cases hq
     . cases hq
   . cases hq
 . rename_i t u x ho;split at hq
   . rename_i k' n i j hp hi hj;split at hq
     . rename_i k hk;simp only[q53,q98]at hq;obtain⟨rfl,rfl⟩:=hq;exact Rs hT ho hp hi hj hk
     . cases hq
   . cases hq
 . rename_i args tys ho;split at hq
   . rename_i x t ha ht;split at hq
     . rename_i p i hp hi;split at hq
       . rename_i n hk hn;simp only[q53,q98]at hq;obtain⟨rfl,rfl⟩:=hq;exact gt hT (ho.trans (by rw[Z6 ha,Z6 ht])) hp hi (by cases p<;>exact hk) hn
       . cases hq
     . cases hq
   . cases hq
 . cases hq
def gv(T:Nat->Option Av)(ops:Array Oper)(n:Nat):Nat->List Oper->Ax->Ad->Option (List Oper×Ax)
  |0,l,e,_=>some (l,e)
  |k+1,o::l,e,h=>match o.dst with
    |some d=>match Nat.blt d n,A0 ops o e with
      |true,some true=>match vW T o.op e h with
        |some (_,r)=>gv T ops n k l (Aa e d r) h
        |none=>none
      |true,some false=>gv T ops n k l (Aa e d (.tup [])) h
      |_,_=>none
    |none=>none
  |_+1,[],_,_=>none
variable {K : Al -> Prop}
theorem aQ(hT:CE P T):∀(k:Nat) {l l':List Oper} {e e':Ax},gv T ops n k l e h=some (l',e')->AOps P ops l' ⟨n,e',h⟩ K->AOps P ops l ⟨n,e,h⟩ K
 |0,l,l',e,e',hq,hr=>by
  simp only[gv,q53,q98]at hq;obtain⟨rfl,rfl⟩:=hq;exact hr
 |k+1,[],_,_,_,hq,_=>by cases hq
 |k+1,o::l,l',e,e',hq,hr=>by
  unfold gv at hq;split at hq
  . rename_i d hd;split at hq
    . rename_i hb hg;split at hq
      . rename_i R r hv;exact AOps.s d hd hb hg (qEv_spec hT hv) (aQ hT k hq hr)
      . cases hq
    . rename_i hb hg;exact AOps.k d hd hb hg (aQ hT k hq hr)
    . cases hq
  . cases hq
def U9(T:Nat->Option Av)(ops:Array Oper)(n:Nat):Nat->List Oper->Ax->Ad->List (List Nat×List Nat)->Option (List Oper×Ax×List (List Nat×List Nat))
  |0,l,e,_,acc=>some (l,e,acc)
  |k+1,o::l,e,h,acc=>match o.dst with
    |some d=>match Nat.blt d n,A0 ops o e with
      |true,some true=>match vW T o.op e h with
        |some (R,r)=>U9 T ops n k l (Aa e d r) h (acc++[(R,[])])
        |none=>none
      |true,some false=>U9 T ops n k l (Aa e d (.tup [])) h (acc++[([],[])])
      |_,_=>none
    |none=>none
  |_+1,[],_,_,_=>none
theorem dQ(hT:CE P T):∀(k:Nat) {l l':List Oper} {e e':Ax} {acc acc':List (List Nat×List Nat)},U9 T ops n k l e h acc=some (l',e',acc')->DOps P ops n l' e' h acc' K->DOps P ops n l e h acc K
 |0,l,l',e,e',acc,acc',hq,hr=>by
  simp only[U9,q53,q98]at hq;obtain⟨rfl,rfl,rfl⟩:=hq;exact hr
 |k+1,[],_,_,_,_,_,hq,_=>by cases hq
 |k+1,o::l,l',e,e',acc,acc',hq,hr=>by
  unfold U9 at hq;split at hq
  . rename_i d hd;split at hq
    . rename_i hb hg;split at hq
      . rename_i R r hv;exact DOps.s d hd hb hg (qEv_spec hT hv) (dQ hT k hq hr)
      . cases hq
    . rename_i hb hg;exact YF d hd hb hg (dQ hT k hq hr)
    . cases hq
  . cases hq
section
variable {P : Program} {T : Nat -> Option Av} {ops : Array Oper} {rest : List Oper} {n : Nat} {e : Ax} {h : Ad} {K : Al -> Prop} {acc : List (List Nat × List Nat)} {d : Nat} {t ty : TypeId} {ps : String} {af : Array Edge} {x y : Operand}
theorem wK{op:Op}{g:Nat×Bool}(hr:AOps P ops rest ⟨n,Aa e d (.tup []),h⟩ K)(hb:Nat.blt d n=true:=by exact rfl)(hg:A0 ops ⟨some d,op,ty,ps,af,some g⟩ e=some false:=by exact rfl):AOps P ops (⟨some d,op,ty,ps,af,some g⟩::rest) ⟨n,e,h⟩ K:=ak d hr rfl hb hg
variable {cs : List AV} {p : Bool} {es : List (List AV)} {i : Av} {q : AV}
theorem wS{b m k off sz:Nat}(hT:CE P T)(hr:AOps P ops rest ⟨n,e,hputs h [(b,.row p sz (es.set k (D0 cs off q.cells)))]⟩ K)(hx:An e x=some (.ptr b m k off):=by exact rfl)(hy:An e y=some q:=by exact rfl)(hi:T t=some i:=by exact rfl)
 (hb:h b=some (.row p sz es):=by exact rfl) (hm:m=es.length:=by exact rfl) (hk:es[k]?=some cs:=by exact rfl) (hq:q.cells.length=i.size:=by exact rfl) (hfit:off+i.size<=sz:=by decide) (h1:q.cells.all AV.cell1=true:=by exact rfl) (hp:p=true->q.cells.all AV.isPure1=true:=by first|exact fun _=>rfl|(intro h;cases h)):
 AOps P ops (⟨none,.store t x y,ty,ps,af,none⟩::rest) ⟨n,e,h⟩ K:=AOps.w rfl rfl (o_store hT rfl rfl hx hy hi hb hm hk hq hfit h1 hp) hr
theorem vS{b m k off sz:Nat}(hT:CE P T)(hr:DOps P ops n rest e (hputs h [(b,.row p sz (es.set k (D0 cs off q.cells)))]) (acc++[([b],[b])]) K)(hx:An e x=some (.ptr b m k off):=by exact rfl)(hy:An e y=some q:=by exact rfl)(hi:T t=some i:=by exact rfl)
 (hb:h b=some (.row p sz es):=by exact rfl) (hm:m=es.length:=by exact rfl) (hk:es[k]?=some cs:=by exact rfl) (hq:q.cells.length=i.size:=by exact rfl) (hfit:off+i.size<=sz:=by decide) (h1:q.cells.all AV.cell1=true:=by exact rfl) (hp:p=true->q.cells.all AV.isPure1=true:=by first|exact fun _=>rfl|(intro h;cases h)):
 DOps P ops n (⟨none,.store t x y,ty,ps,af,none⟩::rest) e h acc K:=DOps.w rfl rfl (o_store hT rfl rfl hx hy hi hb hm hk hq hfit h1 hp) hr
end
inductive Gs:Nat->Prop
  |mk (n:Nat):Gs n
theorem wz{n:Nat}(_:Gs (n+1)):Gs n:=.mk n
theorem wk(n:Nat){p q:Prop}(k:q)(w:Gs n->q->p:=by
 intro g_ k_;repeat(replace g_:=wz g_;first|refine aQ Ai 1 rfl ?_|refine an ?_|refine asq ?_|refine dJ ?_|refine act ?_|refine acf ?_|refine mx ?_|refine wK ?_|refine DY ?_|refine dQ Ai 1 rfl ?_|refine wS Ai ?_|refine DOps.nil AF ?_|refine Wx mix ?_|refine AGo.block ?_|refine AGo.exit ?_|refine vS Ai ?_|refine aq _ (Lt Ai rfl rfl rfl rfl rfl Aj rfl rfl rfl) ?_|refine dq _ (Lt Ai rfl rfl rfl rfl rfl Aj rfl rfl rfl) ?_|refine ak _ ?_|refine dk _ ?_)
 exact k_):p:=w (.mk n) k
end Go.Proofs.YtbbfelelocccmaaGreat.Sv
namespace Go.Proofs.YtbbfelelocccmaaGreat.Sv
open Go Go.ChangeShapes Go.WideShapes Go.ChangeAt Go.RowKit
def C8(W:World):AA:=fun b=>match W.heap[b]? with
  |some (.cells c _ _)=>some c
  |_=>none
theorem VQ(W:World)(hg:GlobOk (C8 W)):T8 (C8 W) W where
 know:=fun b c h=>by
  unfold C8 at h;split at h
  . rename_i c' T fr e;cases h;exact⟨T,fr,e⟩
  . cases h
 glob:=hg
variable {v : Value}
theorem Kv{W:World}{a:Addr}(h:W.cell? a=some v):∃c,C8 W a.block=some c/\a.spot=none/\c[a.off]?=some v:=by
 unfold World.cell? at h;split at h
 . rename_i c T fr e;split at h
   . cases h
   . rename_i hs;refine⟨c,by simp[C8,e],?_,h⟩
     cases e2:a.spot with
     |none=>rfl
     |some x=>simp[e2]at hs
 . cases h
def Reads(W:World)(cs:List Value)(xs:List AV):Prop:=xs.length=cs.length/\∀(j:Nat) (x:AV) (v:Value),xs[j]?=some x->cs[j]?=some v->Rel (C8 W) A7 x v/\x.cell1=true
variable {H : Type}
def Dec(enc:TypeId×Value->H)(P:Program)(W:World)(t:TypeId){α:Type}(f:α->List AV)(Q:α->Prop):Prop:=
  ∀(fuel:Nat) (cs:List Value) (x:DataW H×List MemPlace),DataW.trod enc P W 0 (fun _=>true) true fuel t cs=some x->(x.1.weights P t).all (· <=reachBytes)=true->∃a,Reads W cs (f a)/\Q a
variable {enc : TypeId × Value -> H} {P : Program} {W : World} {t e : TypeId}
theorem Reads.one{x:AV}(h:Rel (C8 W) A7 x v)(h1:x.cell1=true):Reads W [v] [x]:=⟨rfl,fun j y u hy hu=>by
 cases j with
 |zero=>simp at hy hu;subst hy;subst hu;exact⟨h,h1⟩
 |succ j=>simp at hy⟩
theorem Dec.int{k:IntKind}(ht:P.underlying t=some (.int k)):Dec enc P W t (fun n:Int=>[.int k n]) (fun n=>(Lit.int k n).wf=true):=fun fuel cs x h _=>by
 obtain⟨n,rfl,rfl,hw⟩:=DataW.trod_int ht h;exact⟨n,.one (.int _ _ _) rfl,hw⟩
theorem Jr{α:Type}{R:Nat->α->Prop}:∀n:Nat,(∀i,i<n->∃a,R i a)->∃l:List α,l.length=n/\∀i a,l[i]?=some a->R i a
 |0,_=>⟨[],rfl,fun i a h=>by simp at h⟩
 |n+1,h=>by
  obtain⟨l,h1,h2⟩:=Jr n (fun i hi=>h i z144q);obtain⟨a,ha⟩:=h n z144q;refine⟨l++[a],by simp[h1],fun i b hb=>?_⟩
  by_cases hi:i<n
  . rw[q06 z144q]at hb;exact h2 i b hb
  . rw[q02 z144q]at hb;have:i=n:=by
     rcases qX4 (i-l.length) 1 with h|h
     . omega
     . rw[q26 He]at hb;cases hb
    subst this;simp[h1]at hb;subst hb;exact ha
theorem weightsAll_get:∀{ds:List (DataW H)} {d:DataW H} {i:Nat},(DataW.weightsAll P e ds).all (· <=reachBytes)=true->ds[i]?=some d->(d.weights P e).all (· <=reachBytes)=true
 | [],_,_,_,h=>by simp at h
 |d::r,d',0,hw,h=>by
  simp at h;subst h;simp only[DataW.weightsAll,q92,q66]at hw;exact hw.1
 |d::r,d',i+1,hw,h=>by
  simp only[DataW.weightsAll,q92,q66]at hw;exact weightsAll_get (ds:=r) hw.2 He
variable {α : Type}
theorem Dec.slice{f:α->List AV}{Q:α->Prop}(ht:P.underlying t=some (.slice e))(hc:0<P.cellsOf e)(he:Dec enc P W e f Q):
 Dec enc P W t (fun l:List α=>[.lst false (l.map f)]) (fun l=>l.length*P.bytesOf e<=reachBytes/\∀a∈l,Q a):=fun fuel cs x h hw=>by
 rcases DataW.trod_slice ht h with⟨rfl,rfl⟩|⟨a,len,cap,elems,rest,n,rfl,rfl,rfl,hb,hl,hm,hlen,hel,hsp,hns⟩
 . exact⟨[],.one (.lst0 _ _ _ _ EU (qZ1 _) (fun _=>rfl) trivial) rfl,by simp,fun a h=>by cases h⟩
 simp only[DataW.weights,ht,qQ1,q92,q66,q56,q76]at hw;obtain⟨w1,w2,w3⟩:=hw;have key:∀i,i<len->∃y,∃cs',W.cells? 0 (a.add (i*P.cellsOf e)) (P.cellsOf e)=some cs'/\Reads W cs' (f y)/\Q y:=fun i hi=>by
  have h1:=hel i hi;have hlt:i<elems.length:=by omega
  rw[q13 hlt]at h1;rw[Option.bind_eq_some_iff]at h1;obtain⟨cs',c1,c2⟩:=h1;obtain⟨y,y1,y2⟩:=he _ _ _ c2 (weightsAll_get w2 (i:=i) (by rw[q54,q13 hlt];rfl));exact⟨y,cs',c1,y1,y2⟩
 obtain⟨l,l1,l2⟩:=Jr len key;have hQ:∀y∈l,Q y:=fun y hy=>by
  obtain⟨i,hi⟩:=q27.1 hy;obtain⟨cs',_,_,q⟩:=l2 i y hi;exact q
 exact zt15
variable {T : Nat -> Option Av}
variable {i : Av}
theorem G8(hT:CE P T)(hi:T t=some i):P.cellsOf t=i.size:=by
 obtain⟨info,d,e1,e2,e3,e4,e5,e6⟩:=Am (hT _ _ hi);simp[Program.cellsOf,e1,e4]
theorem Qf(hT:CE P T)(hi:T t=some i):P.bytesOf t=i.bytes:=by
 obtain⟨info,d,e1,e2,e3,e4,e5,e6⟩:=Am (hT _ _ hi);simp[Program.bytesOf,e1,e5]
theorem Cb{k:IntKind}(hT:CE P T)(hi:T t=some i)(hk:i.k=.int k):Dec enc P W t (fun n:Int=>[.int k n]) (fun n=>(Lit.int k n).wf=true):=by
 obtain⟨info,d,e1,e2,e3,e4,e5,e6⟩:=Am (hT _ _ hi);have hd:=Hw (P:=P) (d:=d) (e3▸hk);subst hd;exact Dec.int e2
variable {j : Av}
theorem Dec.slice'{f:α->List AV}{Q:α->Prop}{u:Nat}(hT:CE P T)(hi:T t=some i)(hk:i.k=.slice u)(hj:T u=some j)(hp:0<j.size)(he:Dec enc P W u f Q):
 Dec enc P W t (fun l:List α=>[.lst false (l.map f)]) (fun l=>l.length*j.bytes<=reachBytes/\∀a∈l,Q a):=by
 obtain⟨info,d,e1,e2,e3,e4,e5,e6⟩:=Am (hT _ _ hi);have hd:=BF (P:=P) (d:=d) (e3▸hk);subst hd;have:=Dec.slice (enc:=enc) (W:=W) e2 (by rw[G8 hT hj];exact hp) he;rwa[Qf hT hj]at this
theorem weightsEach_get:∀{ts:List TypeId} {ds:List (DataW H)} {t:TypeId} {d:DataW H} {i:Nat},(DataW.weightsEach P ts ds).all (· <=reachBytes)=true->ts[i]?=some t->ds[i]?=some d->(d.weights P t).all (· <=reachBytes)=true
 | [],_,_,_,_,_,h,_=>by simp at h
 |_::_,[],_,_,_,_,_,h=>by simp at h
 |t::ts,d::ds,t',d',0,hw,h1,h2=>by
  simp at h1 h2;subst h1;subst h2;simp only[DataW.weightsEach,q92,q66]at hw;exact hw.1
 |t::ts,d::ds,t',d',i+1,hw,h1,h2=>by
  simp only[DataW.weightsEach,q92,q66]at hw;exact weightsEach_get (ts:=ts) (ds:=ds) hw.2 Kl K7
def wv(enc:TypeId×Value->H)(P:Program)(W:World)(T:Nat->Option Av)(cs:List Value)(fs:List (Nat×Nat)):Prop:=
  ∀(i off u:Nat),fs[i]?=some (off,u)->∀{α:Type} {f:α->List AV} {Q:α->Prop},Dec enc P W u f Q->∃a,Reads W ((cs.drop off).take (P.cellsOf u)) (f a)/\Q a
variable {cs : List Value} {fs : List (Nat × Nat)}
theorem Li(hT:CE P T)(hi:T t=some i)(hk:i.k=.struct fs){fuel:Nat}{x:DataW H×List MemPlace}(h:DataW.trod enc P W 0 (fun _=>true) true fuel t cs=some x)(hw:(x.1.weights P t).all (· <=reachBytes)=true):
 cs.length=i.size/\wv enc P W T cs fs:=by
 obtain⟨info,d,e1,e2,e3,e4,e5,e6⟩:=Am (hT _ _ hi);obtain⟨A,rfl,rfl,_⟩:=Fx (P:=P) (d:=d) (e3▸hk);obtain⟨xs,n,rfl,rfl,hl,hxl,hx⟩:=DataW.trod_struct e2 h;refine⟨by rw[hl,G8 hT hi],fun j off u hj α f Q hd=>?_⟩;rw[q54,q22]at hj;obtain⟨F,hF,hF2⟩:=hj;simp only[q98]at hF2;obtain⟨rfl,rfl⟩:=hF2;have hFa:A[j]?=some F:=by simpa using hF
 have hjlt:j<xs.length:=by rw[hxl];exact(q03.1 hFa).1
 have h1:=hx j F hFa;rw[q13 hjlt]at h1;simp only[DataW.weights,e2]at hw;exact hd _ _ _ h1 (weightsEach_get hw (i:=j) (by rw[q54,hF];rfl) (by rw[q54,q13 hjlt];rfl))
theorem Reads.nil(W:World)(cs:List Value):Reads W (cs.take 0) []:=⟨by simp,fun j x v h=>by simp at h⟩
variable {xs : List AV}
theorem Reads.app{off n:Nat}{ys:List AV}(h1:Reads W (cs.take off) xs)(h2:Reads W ((cs.drop off).take n) ys)(ho:off<=cs.length):Reads W (cs.take (off+n)) (xs++ys):=by
 have hl1:xs.length=off:=by rw[h1.1,q69];omega
 refine⟨by rw[q48,h2.1,hl1];simp only[q69,List.length_drop];omega,fun j x v hx hv=>?_⟩;rw[List.take_add]at hv
 by_cases hj:j<off
 . rw[q06 z144q]at hx;rw[q06 Ul]at hv;exact h1.2 j x v hx hv
 . rw[q02 z144q]at hx;rw[q02 Ul]at hv;have hll:(List.take off cs).length=off:=by rw[q69];omega
   rw[hll]at hv;rw[hl1]at hx;exact h2.2 _ x v hx hv
theorem Reads.all{n:Nat}(h:Reads W (cs.take n) xs)(hn:cs.length=n):Reads W cs xs:=by
 rwa[q20 z144q]at h
theorem Reads.val(h:Reads W v.cells.toList xs)(hv:∃cs,v=.agg cs):Rel (C8 W) A7 (.agg xs) v:=by
 obtain⟨cs,rfl⟩:=hv;exact .agg _ _ _ (by simpa[Value.cells]using h.1) fun j x u h1 h2=>(h.2 j x u h1 (by simpa[Value.cells]using h2)).1
theorem Reads.val1{x:AV}(h:Reads W v.cells.toList [x])(hv:∀cs,v≠ .agg cs):Rel (C8 W) A7 x v:=by
 have hc:v.cells.toList=[v]:=by cases v<;>first|rfl|exact absurd rfl (hv _)
 rw[hc]at h;exact(h.2 0 x v rfl rfl).1
theorem XU{b0:Nat}(hT:CE P T)(hi:T t=some i)(hk:i.k=.struct fs)(h:Value.okWide P W .any b0 t v):∃cs,v=.agg cs:=by
 obtain⟨info,d,e1,e2,e3,e4,e5,e6⟩:=Am (hT _ _ hi);obtain⟨A,rfl,_,_⟩:=Fx (P:=P) (d:=d) (e3▸hk);unfold Value.okWide at h;rw[e2]at h;obtain⟨cs,h1,_⟩:=h;exact⟨cs,h1⟩
variable {H' H0 : AA} {W' : World}
theorem Grow.kept(g:Grow H0 W H' W')(may:MemPlace->Prop):W.keptBut W' may:=by
 refine⟨g.os,g.out,fun i hi=>?_⟩;rw[g.keep i hi];split<;>simp_all
variable {s : ChangeSpec} {args : Array Value} {fresh handsOn : Bool} {ds gs : List (DataW H)} {before : List MemPlace}
theorem gB{f:Func}{apart:Bool}{pa pv:List MemPlace}
 (hW:DataW.Whole enc P f.params.toList s.vars apart W args.toList ds gs before)
 (hres:∀(b:Nat) (sp:Nat->Bool) (hd:Bool),DataW.TrodAll enc P W' b sp hd f.resultTypes.toList (v.resultList f.resultTypes.size) (s.fn H (ds++gs)).results [])
 (hargs:∀sp:Nat->Bool,(∀p∈before,sp p.block=true)->DataW.TrodAll enc P W' 0 sp true f.params.toList args.toList (s.fn H (ds++gs)).args pa)
 (hvars:∀sp:Nat->Bool,(∀p∈before,sp p.block=true)->DataW.TrodVars enc P W' sp s.vars (s.fn H (ds++gs)).vars pv)
 (hps:before=pa++pv) (hk:∀may:MemPlace->Prop,W.keptBut W' may):s.post enc P f apart fresh handsOn false W args v W':=by
 have hold:∀p∈before,(fun b=>decide (b<W.heap.size)) p.block=true:=fun p hp=>by simpa using hW.lt p hp
 exact⟨ds,gs,before,[],pa,pv,hW,hres _ _ _,hargs _ hold,hvars _ hold,hk _,fun h=>by cases h⟩
theorem Kn(hl:laidOutB P=true){W':World}{sp:Nat->Bool}:∀{ts:List TypeId} {vs:List Value} {ds:List (DataW H)} {ps:List MemPlace},ts.all (fun t=>P.readableRec t&&decide (t<P.types.size))=true->
 DataW.TrodAll enc P W 0 (fun _=>true) true ts vs ds ps->(∀p∈ps,W.sameAt W' p)->(∀p∈ps,sp p.block=true)->DataW.TrodAll enc P W' 0 sp true ts vs ds ps
 | [],vs,ds,ps,_,h,_,_=>by
  obtain⟨rfl,rfl,rfl⟩:=trodAll_nil h;rfl
 |t::ts,vs,ds,ps,hr,h,h1,h2=>by
  obtain⟨v,vs',d,ds',p,q,rfl,rfl,rfl,hd,hrest⟩:=trodAll_cons h;simp only[qQ1,q66,q56]at hr;exact⟨p,q,WideElems.Trod_stays hl hr.1.1 hr.1.2 hd (fun x hx=>h1 x HI) (fun x hx=>h2 x HI),Kn hl hr.2 hrest (fun x hx=>h1 x HI) (fun x hx=>h2 x HI),rfl⟩
theorem Grow.same(g:Grow H0 W H' W'){p:MemPlace}(hp:p.block<W.heap.size):W.sameAt W' p:=by
 cases p with
 |cell b off=>
  have:=g.keep b hp;show W'.cell? _=W.cell? _;unfold World.cell?;simp only[this]
 |map b=>exact g.keep b hp
theorem cp{f:FuncId}{fn:Func}{tb:TypeId}(hl:laidOutB P=true)(hvs:s.vars=[])(hr:fn.params.toList.all (fun t=>P.readableRec t&&decide (t<P.types.size))=true)
 (hres:fn.resultTypes= #[tb]) (hb:P.underlying tb=some .bool) (hs1:(s.fn H (ds++gs)).results=[.lit (.bool true)]) (hs2:(s.fn H (ds++gs)).args=ds) (hs3:(s.fn H (ds++gs)).vars=[])
 (hW:DataW.Whole enc P fn.params.toList s.vars false W args.toList ds gs before) (hrel:RelAll (C8 W) A7 xs args) (hc:APure P f xs (fun r=>r=.bool true)) (hg:GlobOk (C8 W)):
 Calls P f args W fun e W'=>∃v,e=.returned v/\s.post enc P fn false fresh handsOn false W args v W':=by
 have hW':=hW;obtain⟨p,q,hA,hV,rfl,hfz,hnd⟩:=hW;rw[hvs]at hV;obtain⟨rfl,rfl⟩:=trodVars_none hV;have hlt:∀x∈p++[],x.block<W.heap.size:=fun x hx=>hW'.lt x hx
 refine(hc (C8 W) W args hrel (VQ W hg)).mono fun e W' hx=>?_
 obtain⟨v,r,H',rfl,rfl,h3,h4⟩:=hx;have hv:=h3.bool_inv;subst hv;refine⟨_,rfl,gB (pa:=p) (pv:=[]) hW' (fun b sp hd=>?_) (fun sp hsp=>?_) (fun sp hsp=>?_) rfl (fun may=>h4.kept may)⟩
 . rw[hs1,hres];exact trodAll_mk1 (shut_bool hb true)
 . rw[hs2];exact Kn hl hr hA (fun x hx=>h4.same (hlt x HI)) (fun x hx=>hsp x HI)
 . rw[hs3,hvs];rfl
variable {ι : Bp}
theorem RelAll.nil{K:AA}:RelAll K ι [] #[]:=⟨rfl,fun j x v h=>by simp at h⟩
theorem RelAll.cons{K:AA}{x:AV}{vs:List Value}(h:Rel K ι x v)(hs:RelAll K ι xs ⟨vs⟩):RelAll K ι (x::xs) ⟨v::vs⟩:=by
 refine⟨by have:=hs.1;simp at this|-;exact this,fun j y u h1 h2=>?_⟩
 cases j with
 |zero=>simp at h1 h2;subst h1;subst h2;exact h
 |succ j=>exact hs.2 j y u Kl K7
def setsOp(op:Int):Bool:=op==1||(op==2||(op==3||(op==4||(op==6||op==8))))
def Tac.sets(t:Tac):Int:=bif setsOp t.op then t.d else -1
def use1(op:Int):Bool:=op==2||(op==5||(op==6||op==9))
def use2(op:Int):Bool:=op==3||op==7
def Tac.uses(t:Tac):List Int:=bif use1 t.op then [t.a]else bif use2 t.op then [t.a,t.b]else []
theorem Uw(t:Tac):t.uses.length<=2:=by
 unfold Tac.uses
 cases use1 t.op<;>cases use2 t.op<;>simp
def A3(i n:Int):Bool:=decide (0<=i)&&decide (i<n)
theorem Nl(op:Int):(use1 op&&use2 op)=false:=by
 rw[q64];intro h;simp only[use1,use2,q66,q81,qZ4]at h;omega
def baseOp(op:Int):Bool:=op==4||op==5
def Ie(op:Int):Bool:=op==6||op==7
def Tac.want(t:Tac):Tac where
  op:=t.op
  d:=bif setsOp t.op then t.d else 0
  a:=bif use1 t.op||use2 t.op then t.a else 0
  b:=bif use2 t.op then t.b else 0
  k:=bif t.op==3 then t.k else 0
  base:=bif baseOp t.op||(Ie t.op||t.op==10)then t.base else 0
  size:=bif Ie t.op then t.size else 0
  n:=bif t.op==1 then t.n else 0
def Tac.same(x y:Tac):Bool:=x.op==y.op&&(x.d==y.d&&(x.a==y.a&&(x.b==y.b&&(x.k==y.k&&(x.base==y.base&&(x.size==y.size&&(x.n==y.n&&true)))))))
theorem Tac.same_iff(x y:Tac):x.same y=true↔x=y:=by
 have h1:=Tac.eqCells x y;have h2:Sv.eqCells x.cells y.cells=some (x.same y):=rfl;rw[h1]at h2;have h3:decide (x=y)=x.same y:=by simpa using h2
 rw[<-h3,decide_eq_true_iff]
def Tac.rest(t:Tac)(f words:Int):Bool:=
  bif t.op==3 then decide (4<=t.k)&&decide (t.k<=15)
  else bif baseOp t.op then A3 t.base words
  else bif Ie t.op then decide (1<=t.size)&&(decide (t.size<=4096)&&(decide (0<=t.base)&&decide (t.base<=words-t.size)))
  else bif t.op==10 then A3 t.base f
  else true
def Tac.fits(t:Tac)(f regs words:Int):Bool:=
  decide (1<=t.op)&&(decide (t.op<=10)&&((!setsOp t.op||A3 t.d regs)&&(t.uses.all (fun r=>A3 r regs)&&(t.rest f words&&t.same t.want))))
theorem E8{t:Tac}(h:decide (t.sets>=0)=true):setsOp t.op=true:=by
 unfold Tac.sets at h
 cases e:setsOp t.op with
 |true=>rfl
 |false=>rw[e]at h;simp at h
variable {f regs words : Int}
theorem fits_op{t:Tac}(h:¬(1<=t.op/\t.op<=10)):t.fits f regs words=false:=by
 rw[q64];intro h2;simp only[Tac.fits,q66,q56]at h2;exact h ⟨h2.1,h2.2.1⟩
theorem qD{t:Tac}(h:setsOp t.op=true)(h2:A3 t.d regs=false):t.fits f regs words=false:=by
 simp[Tac.fits,h,h2]
theorem iQ{t:Tac}(h:t.uses.all (fun r=>A3 r regs)=false):t.fits f regs words=false:=by
 simp only[Tac.fits,h,Bool.false_and,q97]
theorem Sm{t:Tac}(h:t.rest f words=false):t.fits f regs words=false:=by
 simp only[Tac.fits,h,Bool.false_and,q97]
theorem cG{t:Tac}(h1:decide (t.op<1)=false)(h2:decide (t.op>10)=false)(hd:(!setsOp t.op||A3 t.d regs)=true)(hu:t.uses.all (fun r=>A3 r regs)=true)(hr:t.rest f words=true):t.fits f regs words=t.same t.want:=by
 have h1':decide (1<=t.op)=true:=by simp at h1|-;omega
 have h2':decide (t.op<=10)=true:=by simp at h2|-;omega
 simp only[Tac.fits,h1',h2',hd,hu,hr,qQ5]
def Block.ends(b:Block)(blocks regs:Int):Bool:=
  bif b.fin==1 then A3 b.to blocks&&(b.v==0&&b.els==0)
  else bif b.fin==2 then A3 b.to blocks&&(A3 b.els blocks&&A3 b.v regs)
  else b.fin==3&&(b.v==0&&(b.to==0&&b.els==0))
def Block.ok(x:Block)(blocks regs number words:Int):Bool:=x.ends blocks regs&&x.ins.all (fun t=>t.fits number regs words)
def BFunc.one(f:BFunc)(number words:Int):Bool:=
  decide (0<=f.regs)&&(decide (f.regs<=4000)&&(!f.blocks.isEmpty&&f.blocks.all (fun x=>x.ok f.blocks.length f.regs number words)))
def Blocks.right(b:Blocks):Bool:=
  decide (0<=b.words)&&(decide (b.words<=1048576)&&(!b.funcs.isEmpty&&b.funcs.zipIdx.all (fun p=>p.1.one (p.2:Int) b.words)))
def Block.count(x:Block):Nat:=1+x.ins.length
def BFunc.count(f:BFunc):Nat:=(f.blocks.map Block.count).sum
def Blocks.count(b:Blocks):Nat:=(b.funcs.map BFunc.count).sum
variable {f : BFunc} {number : Int}
theorem ly(h:¬(0<=f.regs/\f.regs<=4000/\f.blocks.length≠0)):f.one number words=false:=by
 rw[q64];intro h2;simp only[BFunc.one,q66,q56,q61,q10]at h2;exact h ⟨h2.1,h2.2.1,fun e=>h2.2.2.1 (q18.1 e)⟩
theorem LC(h1:0<=f.regs)(h2:f.regs<=4000)(h3:f.blocks.length≠0):f.one number words=f.blocks.all (fun x=>x.ok f.blocks.length f.regs number words):=by
 have h3':f.blocks.isEmpty=false:=by
  rw[q10];intro e;rw[e]at h3;exact h3 rfl
 simp only[BFunc.one,q96 h1,q96 h2,h3',Bool.not_false,qQ5]
variable {b : Blocks}
theorem bA(h:¬(0<=b.words/\b.words<=1048576/\b.funcs.length≠0)):b.right=false:=by
 rw[q64];intro h2;simp only[Blocks.right,q66,q56,q61,q10]at h2;exact h ⟨h2.1,h2.2.1,fun e=>h2.2.2.1 (q18.1 e)⟩
theorem My(h1:0<=b.words)(h2:b.words<=1048576)(h3:b.funcs.length≠0):b.right=b.funcs.zipIdx.all (fun p=>p.1.one (p.2:Int) b.words):=by
 have h3':b.funcs.isEmpty=false:=by
  rw[q10];intro e;rw[e]at h3;exact h3 rfl
 simp only[Blocks.right,q96 h1,q96 h2,h3',Bool.not_false,qQ5]
variable {k : Nat}
theorem Dw{l:List α}{p:α->Bool}{x:α}(hx:l[k]?=some x)(h:(l.take k).all p=true)(hp:p x=true):(l.take (k+1)).all p=true:=by
 rw[AY hx,q92,h];simp[hp]
theorem D7{l:List α}{p:α->Bool}{x:α}(hx:l[k]?=some x)(hp:p x=false):l.all p=false:=by
 rw[q64];intro h;rw[q67.1 h x (q33 hx)]at hp
 cases hp
theorem all_end{l:List α}{p:α->Bool}(h:(l.take k).all p=true)(hk:l.length<=k):l.all p=true:=by
 rwa[q20 hk]at h
theorem sum_succ{l:List α}{p:α->Nat}{x:α}(hx:l[k]?=some x):((l.take (k+1)).map p).sum=((l.take k).map p).sum+p x:=by
 rw[AY hx,q77,q82];simp
theorem kK{l:List α}{p:α->Nat}(hk:l.length<=k):((l.take k).map p).sum=(l.map p).sum:=by
 rw[q20 hk]
theorem B8{l:List α}{x:α}(hx:l[k]?=some x):l.zipIdx[k]?=some (x,k):=by
 rw[q37,hx];simp
theorem BFunc.ext'{g:BFunc}(h1:f.regs=g.regs)(h2:f.blocks=g.blocks):f=g:=by cases f;cases g;simp_all
theorem OI{l l':List α}(h:l.take k=l'.take k)(h1:l.length<=k)(h2:l'.length<=k):l=l':=by
 rwa[q20 h1,q20 h2]at h
def wdivide(op a b:Int):Int×Int:=bif b==0 then(0,14)else bif op==7 then(IntKind.u32.wrap (a.tdiv b),0)else(a.tmod b,0)
def Ga(op a b:Int):Int:=bif decide (b>31)then 0 else bif op==12 then IntKind.u32.wrap (a*2^(min b.toNat IntKind.u32.bits))else a.fdiv (2^(min b.toNat IntKind.u32.bits))
def HJ(op a b:Int):Int:=bif (op==14&&decide (a<b))||(op==15&&a==b)then 1 else 0
def wapp(op a b:Int):Int×Int:=
  bif op==4 then(IntKind.u32.wrap (a+b),0)
  else bif op==5 then(IntKind.u32.wrap (a-b),0)
  else bif op==6 then(IntKind.u32.wrap (a*b),0)
  else bif op==7||op==8 then wdivide op a b
  else bif op==9 then(IntKind.u32.wrap ((BitVec.ofInt IntKind.u32.bits a&&&BitVec.ofInt IntKind.u32.bits b).toNat),0)
  else bif op==10 then(IntKind.u32.wrap ((BitVec.ofInt IntKind.u32.bits a|||BitVec.ofInt IntKind.u32.bits b).toNat),0)
  else bif op==11 then(IntKind.u32.wrap ((BitVec.ofInt IntKind.u32.bits a^^^BitVec.ofInt IntKind.u32.bits b).toNat),0)
  else bif op==12||op==13 then(Ga op a b,0)
  else bif op==14||op==15 then(HJ op a b,0)
  else(0,1)
def YX(p:Int×Int):AV:=.tup [.int .u32 p.1,.int .i64 p.2]
def Gp(n:Int):Prop:=0<=n/\n<4294967296
theorem F2(n:Int):Gp (IntKind.u32.wrap n):=by
 rw[q75];constructor<;>omega
theorem wapp_word{op a b:Int}(ha:Gp a)(hb:Gp b):Gp (wapp op a b).1:=by
 unfold wapp
 cases op==4<;>simp only[qZ7,qZ3]<;>try exact F2 _
 cases op==5<;>simp only[qZ7,qZ3]<;>try exact F2 _
 cases op==6<;>simp only[qZ7,qZ3]<;>try exact F2 _
 cases op==7||op==8
 . simp only[qZ3]
   cases op==9<;>simp only[qZ7,qZ3]<;>try exact F2 _
   cases op==10<;>simp only[qZ7,qZ3]<;>try exact F2 _
   cases op==11<;>simp only[qZ7,qZ3]<;>try exact F2 _
   cases op==12||op==13
   . simp only[qZ3]
     cases op==14||op==15
     . simp only[qZ3];constructor<;>omega
     . simp only[qZ7,HJ]
       cases (op==14&&decide (a<b))||(op==15&&a==b)<;>simp only[qZ7,qZ3]<;>constructor<;>omega
   . simp only[qZ7,Ga]
     cases decide (b>31)<;>simp only[qZ7,qZ3]
     . cases op==12<;>simp only[qZ7,qZ3]
       . have hp:(0:Int)<2^(min b.toNat IntKind.u32.bits):=Int.pow_pos z144q;rw[Int.fdiv_eq_ediv_of_nonneg _ (Int.le_of_lt hp)];refine⟨Int.ediv_nonneg ha.1 (Int.le_of_lt hp),?_⟩;have:=Int.ediv_le_self (2^(min b.toNat IntKind.u32.bits)) ha.1;have:=ha.2;omega
       . exact F2 _
     . constructor<;>omega
 . simp only[qZ7,wdivide]
   cases hz:b==0<;>simp only[qZ7,qZ3]
   . cases op==7<;>simp only[qZ7,qZ3]
     . rw[Int.tmod_eq_emod_of_nonneg ha.1];have hb0:b≠0:=by simpa using hz
       refine⟨Int.emod_nonneg _ hb0,?_⟩;have:=Int.emod_lt_of_pos a (show 0<b by have:=hb.1;omega);have:=hb.2;omega
     . exact F2 _
   . constructor<;>omega
abbrev CC:=List (Int×Int)
def nm(K:CC):Ft:=K.map fun p=>(p.1,AV.int .u32 p.2)
def pget(z:Int):CC->Option Int
  | []=>none
  |(k,v)::r=>bif z==k then some v else pget z r
def pset(z v:Int):CC->CC
  | []=>[(z,v)]
  |(k,u)::r=>bif z==k then(k,v)::r else(k,u)::pset z v r
def pdel(z:Int):CC->CC
  | []=>[]
  |(k,u)::r=>bif z==k then r else(k,u)::pdel z r
theorem ZS(z:Int):∀K:CC,VA z (nm K)=(pget z K).map (AV.int .u32)
 | []=>rfl
 |(k,v)::r=>by
  have ih:=ZS z r;unfold VA at ih|-;simp only[nm,qQ0,klook,pget]
  cases z==k with
  |true=>rfl
  |false=>
   simp only[qZ3,Option.map_map];rw[<-ih];rfl
theorem ZP(z v:Int):∀K:CC,Kj z (.int .u32 v) (nm K)=nm (pset z v K)
 | []=>rfl
 |(k,u)::r=>by
  have ih:=ZP z v r;simp only[nm,qQ0,Kj,pset]at ih|-
  grind
theorem ZT(z:Int):∀K:CC,kdel z (nm K)=nm (pdel z K)
 | []=>rfl
 |(k,u)::r=>by
  have ih:=ZT z r;simp only[nm,qQ0,kdel,pdel]at ih|-
  grind
def Ma(K:CC):Prop:=∀p∈K,Gp p.2
theorem Fi:Gp 0:=by constructor<;>omega
theorem Tp{K:CC}(h:Ma K)(z:Int):Gp ((pget z K).getD 0):=by
 induction K with
 |nil=>exact Fi
 |cons p r ih=>
  unfold pget
  cases z==p.1 with
  |true=>exact h p z145q
  |false=>exact ih fun q hq=>h q (by simp[hq])
variable {v : Int}
theorem qj{K:CC}(h:Ma K)(z:Int)(hv:Gp v):Ma (pset z v K):=by
 induction K with
 |nil=>intro p hp;simp[pset]at hp;subst hp;exact hv
 |cons p r ih=>
  unfold pset
  cases z==p.1 with
  |true=>
   intro q hq;simp only[qZ7,q99]at hq;rcases hq with rfl|hq
   . exact hv
   . exact h q (by simp[hq])
  |false=>
   intro q hq;exact zt153
theorem pdel_w{K:CC}(h:Ma K)(z:Int):Ma (pdel z K):=by
 induction K with
 |nil=>exact h
 |cons p r ih=>
  unfold pdel
  cases z==p.1 with
  |true=>exact fun q hq=>h q (by simp only[qZ7]at hq;simp[hq])
  |false=>
   intro q hq;exact zt153
variable {o : Oper} {e : Ax} {h : Ad}
variable {b : Nat} {z : Int} {kt et : TypeId}
theorem MF(hT:CE P T){x y:Operand}{K:CC}(ho:o.op=.lookup t x y true)(hx:An e x=some (.map b))(hy:An e y=some (.int .i64 z))(hb:h b=some (.map (kvs .i64 (nm K))))
 (hi:T t=some i) (hk:i.k=.map kt et) (hj:T kt=some j) (hjk:j.k=.int .i64) (hz:(P.info? et).bind (·.zero)=some (.int .u32 0)):QLoc P o e h [b] (.tup [.int .u32 ((pget z K).getD 0),.bool (pget z K).isSome]):=by
 have:=O8 hT ho hx hy hb hi hk hj hjk hz (z0:=.int .u32 0) rfl;rw[ZS]at this
 cases e:pget z K<;>rw[e]at this<;>exact this
theorem Ts(hT:CE P T){x y u:Operand}{K:CC}(ho:o.op=.mapUpdate t x y u)(hd:o.dst=none)(hx:An e x=some (.map b))(hy:An e y=some (.int .i64 z))(hu:An e u=some (.int .u32 v))
 (hb:h b=some (.map (kvs .i64 (nm K)))) (hi:T t=some i) (hk:i.k=.map kt et) (hj:T kt=some j) (hjk:j.k=.int .i64):OLoc P o e h [b] [(b,.map (kvs .i64 (nm (pset z v K))))] none:=by
 have:=o_mapUpdate hT ho hd hx hy hu rfl hb hi hk hj hjk;rwa[ZP]at this
theorem o_deleteW(hT:CE P T){tk:TypeId}{x y:Operand}{K:CC}(ho:o.op=.call {callee:=.builtin .delete,args:= #[x,y],argTypes:= #[t,tk]})(hd:o.dst=none)(hx:An e x=some (.map b))(hy:An e y=some (.int .i64 z))
 (hb:h b=some (.map (kvs .i64 (nm K)))) (hi:T t=some i) (hk:i.k=.map kt et) (hj:T kt=some j) (hjk:j.k=.int .i64):OLoc P o e h [b] [(b,.map (kvs .i64 (nm (pdel z K))))] none:=by
 have:=Pn hT ho hd hx hy hb hi hk hj hjk;rwa[ZT]at this
variable {z : List AV}
theorem fill_get{F:List α}{f:α->List AV}{n:Nat}(hF:F.length=n)(hk:k<n):((F.take k).map f++List.replicate (n-k) z)[0+((k:Nat):Int).toNat]?=some z:=by
 grind
theorem B4{F:List α}{f:α->List AV}{n:Nat}{x:α}(hF:F.length=n)(hx:F[k]?=some x):((F.take k).map f++List.replicate (n-k) z).set (0+((k:Nat):Int).toNat) (f x)=(F.take (k+1)).map f++List.replicate (n-(k+1)) z:=by
 have hk:k<n:=by rw[<-hF];exact(q05.1 hx).1
 have hl:((F.take k).map f).length=k:=by simp;omega
 rw[q55,qQ8,List.set_append,qZ9 z144q,hl,Nat.sub_self,AY hx,q77,q63];congr 1;obtain⟨m,hm⟩:∃m,n-k=m+1:=⟨n-k-1,by omega⟩
 have hm2:n-(k+1)=m:=by omega
 rw[hm,hm2];rfl
theorem AG{F:List α}{f:α->List AV}{n:Nat}(hF:F.length=n)(hk:k<=n):n=((F.take k).map f++List.replicate (n-k) z).length:=by
 simp;omega
theorem CU{F:List α}{f:α->List AV}{n:Nat}(hF:F.length=n)(hk:n<=k):((((F.take k).map f++List.replicate (n-k) z).drop 0).take n)=F.map f:=by
 rw[Nat.sub_eq_zero_of_le hk,q95,List.replicate_zero,q91,q20 Df,q20 z144q]
def CT(t:Tac)(K:CC):Int×Bool:=
  bif t.op==2 then((pget t.a K).getD 0,(pget t.a K).isSome)
  else bif t.op==3 then bif (pget t.a K).isSome&&(pget t.b K).isSome then((wapp t.k ((pget t.a K).getD 0) ((pget t.b K).getD 0)).1,(wapp t.k ((pget t.a K).getD 0) ((pget t.b K).getD 0)).2==0)else(0,false)
  else(0,false)
def Jn(d n:Int):Tac:=⟨1,d,0,0,0,0,0,n⟩
def CG(K:CC)(t:Tac):Tac:=bif (CT t K).2 then Jn t.d (CT t K).1 else t
def Gq(K:CC)(t:Tac):CC:=bif decide (t.sets<0)then K else bif t.op==1 then pset t.sets t.n K else pdel t.sets K
def Dk(K:CC):List Tac->List Tac
  | []=>[]
  |t::r=>CG K t::Dk (Gq K (CG K t)) r
def fknow(l:List Tac)(k:Nat):CC:=(l.take k).foldl (fun K t=>Gq K (CG K t)) []
theorem BX:∀(l:List Tac) (K:CC),(Dk K l).length=l.length
 | [],_=>rfl
 |t::r,K=>by simp only[Dk,q70,BX r]
theorem Jo:∀(l:List Tac) (K:CC) {k:Nat} {x:Tac},l[k]?=some x->(Dk K l)[k]?=some (CG ((l.take k).foldl (fun K t=>Gq K (CG K t)) K) x)
 | [],_,_,_,h=>by simp at h
 |t::r,K,0,x,h=>by simp at h;subst h;rfl
 |t::r,K,k+1,x,h=>by
  simp only[q17]at h;simp only[Dk,q17,List.take_succ_cons,q85];exact Jo r _ h
variable {l : List Tac}
theorem Yf{x:Tac}(h:l[k]?=some x):fknow l (k+1)=Gq (fknow l k) (CG (fknow l k) x):=by
 unfold fknow;rw[AY h,List.foldl_append];rfl
def H6(l:List Tac):Prop:=∀t∈l,Gp t.n
theorem iN{t:Tac}{K:CC}(h:Ma K):Gp (CT t K).1:=by
 unfold CT
 cases t.op==2 with
 |true=>exact Tp h _
 |false=>
  cases t.op==3 with
  |false=>exact Fi
  |true=>
   simp only[qZ7,qZ3]
   cases (pget t.a K).isSome&&(pget t.b K).isSome with
   |false=>exact Fi
   |true=>exact wapp_word (Tp h _) (Tp h _)
theorem fstep_w{t:Tac}{K:CC}(h:Ma K)(ht:Gp t.n):Gp (CG K t).n:=by
 unfold CG
 cases (CT t K).2 with
 |true=>exact iN h
 |false=>exact ht
theorem l8{t:Tac}{K:CC}(h:Ma K)(ht:Gp t.n):Ma (Gq K t):=by
 unfold Gq
 cases decide (t.sets<0)with
 |true=>exact h
 |false=>
  cases t.op==1 with
  |true=>exact qj h _ ht
  |false=>exact pdel_w h _
theorem Z3(hl:H6 l):∀k,Ma (fknow l k):=by
 intro k;unfold fknow;have:∀(m:List Tac) (K:CC),(∀t∈m,Gp t.n)->Ma K->Ma (m.foldl (fun K t=>Gq K (CG K t)) K):=by
  intro m
  induction m with
  |nil=>exact fun K _ h=>h
  |cons t r ih=>exact fun K hm hK=>ih _ (fun u hu=>hm u IY) (l8 hK (fstep_w hK (hm t z145q)))
 grind[H6,Ma,fknow]
def Block.fold(b:Block):Block:={b with ins:=Dk [] b.ins}
def BFunc.fold(f:BFunc):BFunc:={f with blocks:=f.blocks.map Block.fold}
def BFunc.mild(f:BFunc):Prop:=0<=f.regs/\f.regs<=100000/\f.blocks.length<=100000/\∀x∈f.blocks,x.ins.length<=100000/\H6 x.ins
def Bg(b:Bool):List AV:=[.bool b]
def Dj(r:List Bool):List AV:=[Cf r]
def BFunc.all(f:BFunc):Cert:=⟨List.replicate f.blocks.length (List.replicate f.regs.toNat true)⟩
end Go.Proofs.YtbbfelelocccmaaGreat.Sv
namespace Go.Proofs.YtbbfelelocccmaaGreat.Sv
open Go Go.ChangeShapes Go.WideShapes Go.ChangeAt Go.RowKit
def Ue(n:Int):Prop:= -9223372036854775808<=n/\n<=9223372036854775807
theorem DC{n:Int}(h:(Lit.int .i64 n).wf=true):Ue n:=by
 simpa[Lit.wf,IntKind.min,IntKind.max,IntKind.signed,IntKind.bits,Ue]using h
theorem pJ{n:Int}(h:(Lit.int .u32 n).wf=true):Gp n:=by
 simp[Lit.wf,IntKind.min,IntKind.max,IntKind.signed,IntKind.bits]at h;exact⟨h.1,by omega⟩
structure Tac.Ok(t:Tac):Prop where
  op:Ue t.op
  d:Ue t.d
  a:Ue t.a
  b:Ue t.b
  k:Ue t.k
  base:Ue t.base
  size:Ue t.size
  n:Gp t.n
structure Block.Ok(x:Block):Prop where
  len:x.ins.length*64<=reachBytes
  ins:∀t∈x.ins,t.Ok
  fin:Ue x.fin
  v:Ue x.v
  to:Ue x.to
  els:Ue x.els
structure BFunc.Ok(f:BFunc):Prop where
  regs:Ue f.regs
  len:f.blocks.length*56<=reachBytes
  blocks:∀x∈f.blocks,x.Ok
structure Blocks.Ok(b:Blocks):Prop where
  words:Ue b.words
  len:b.funcs.length*32<=reachBytes
  funcs:∀f∈b.funcs,f.Ok
variable {f : BFunc}
theorem BFunc.Ok.insW(h:f.Ok){x:Block}(hx:x∈f.blocks):H6 x.ins:=fun t ht=>((h.blocks x hx).ins t ht).n
variable {H : Type} {enc : TypeId × Value -> H} {P : Program} {W : World} {T : Nat -> Option Av}
theorem Hd{cs:List Value}{off u:Nat}{xs ys:List AV}{j:Av}(hT:CE P T)(hj:T u=some j){n:Nat}(hn:j.size=n)(h1:Reads W (cs.take off) xs)(h2:Reads W ((cs.drop off).take (P.cellsOf u)) ys)(ho:off<=cs.length):Reads W (cs.take (off+n)) (xs++ys):=by
 rw[G8 hT hj,hn]at h2;exact h1.app h2 ho
theorem mh{t p q:Nat}(hT:CE P T){i j1 j2:Av}(hi:T t=some i)(hk:i.k=.struct [(0,p),(1,p),(2,p),(3,p),(4,p),(5,p),(6,p),(7,q)])(hs:i.size=8)(h1:T p=some j1)(k1:j1.k=.int .i64)(s1:j1.size=1)(h2:T q=some j2)(k2:j2.k=.int .u32)(s2:j2.size=1):
 Dec enc P W t Tac.cells Tac.Ok:=fun fuel cs x h hw=>by
 obtain⟨hl,hp⟩:=Li hT hi hk h hw;rw[hs]at hl;obtain⟨x0,a0,b0⟩:=hp 0 _ _ rfl (Cb hT h1 k1);obtain⟨x1,a1,b1⟩:=hp 1 _ _ rfl (Cb hT h1 k1);obtain⟨x2,a2,b2⟩:=hp 2 _ _ rfl (Cb hT h1 k1);obtain⟨x3,a3,b3⟩:=hp 3 _ _ rfl (Cb hT h1 k1);obtain⟨x4,a4,b4⟩:=hp 4 _ _ rfl (Cb hT h1 k1);obtain⟨x5,a5,b5⟩:=hp 5 _ _ rfl (Cb hT h1 k1);obtain⟨x6,a6,b6⟩:=hp 6 _ _ rfl (Cb hT h1 k1);obtain⟨x7,a7,b7⟩:=hp 7 _ _ rfl (Cb hT h2 k2);have c0:=Hd hT h1 s1 (Reads.nil W cs) a0 z144q;have c1:=Hd hT h1 s1 c0 a1 z144q;have c2:=Hd hT h1 s1 c1 a2 z144q;have c3:=Hd hT h1 s1 c2 a3 z144q;have c4:=Hd hT h1 s1 c3 a4 z144q;have c5:=Hd hT h1 s1 c4 a5 z144q;have c6:=Hd hT h1 s1 c5 a6 z144q;have c7:=Hd hT h2 s2 c6 a7 z144q;exact⟨⟨x0,x1,x2,x3,x4,x5,x6,x7⟩,c7.all hl,⟨DC b0,DC b1,DC b2,DC b3,DC b4,DC b5,DC b6,pJ b7⟩⟩
theorem cX{t p s u:Nat}(hT:CE P T){i j1 j2 j3:Av}(hi:T t=some i)(hk:i.k=.struct [(0,s),(1,p),(2,p),(3,p),(4,p)])(hs:i.size=5)(h1:T p=some j1)(k1:j1.k=.int .i64)(s1:j1.size=1)
 (h2:T s=some j2) (k2:j2.k=.slice u) (s2:j2.size=1) (h3:T u=some j3) (s3:j3.size=8) (b3:j3.bytes=64) (hd:Dec enc P W u Tac.cells Tac.Ok):
 Dec enc P W t Block.cells Block.Ok:=fun fuel cs x h hw=>by
 obtain⟨hl,hp⟩:=Li hT hi hk h hw;rw[hs]at hl;obtain⟨x0,a0,b0⟩:=hp 0 _ _ rfl (Dec.slice' hT h2 k2 h3 z144q hd);obtain⟨x1,a1,b1⟩:=hp 1 _ _ rfl (Cb hT h1 k1);obtain⟨x2,a2,b2⟩:=hp 2 _ _ rfl (Cb hT h1 k1);obtain⟨x3,a3,b3'⟩:=hp 3 _ _ rfl (Cb hT h1 k1);obtain⟨x4,a4,b4⟩:=hp 4 _ _ rfl (Cb hT h1 k1);have c0:=Hd hT h2 s2 (Reads.nil W cs) a0 z144q;have c1:=Hd hT h1 s1 c0 a1 z144q;have c2:=Hd hT h1 s1 c1 a2 z144q;have c3:=Hd hT h1 s1 c2 a3 z144q;have c4:=Hd hT h1 s1 c3 a4 z144q;rw[b3]at b0;exact⟨⟨x0,x1,x2,x3,x4⟩,c4.all hl,⟨b0.1,b0.2,DC b1,DC b2,DC b3',DC b4⟩⟩
theorem KM{b:Blocks}(h:b.right=true):0<=b.words/\b.words<=1048576/\b.funcs≠[]/\∀(i:Nat) (f:BFunc),b.funcs[i]?=some f->f.one (i:Int) b.words=true:=by
 simp only[Blocks.right,q66,q56,q61,q10]at h;exact⟨h.1,h.2.1,h.2.2.1,fun i f hf=>q67.1 h.2.2.2 (f,i) (q33 (B8 hf))⟩
theorem Cs{i w:Int}(h:f.one i w=true):0<=f.regs/\f.regs<=4000/\f.blocks≠[]/\∀x∈f.blocks,x.ends f.blocks.length f.regs=true/\∀t∈x.ins,t.fits i f.regs w=true:=by
 simp only[BFunc.one,q66,q56,q61,q10]at h;refine⟨h.1,h.2.1,h.2.2.1,fun x hx=>?_⟩;have:=q67.1 h.2.2.2 x hx;simp only[Block.ok,q66]at this;exact⟨this.1,fun t ht=>q67.1 this.2 t ht⟩
theorem PE{α:Type}{p:α->Nat}:∀{l:List α} {x:α},x∈l->p x<=(l.map p).sum
 |y::l,x,h=>by
  rcases q99.1 h with rfl|h
  . simp
  . have:=PE (p:=p) h;simp;omega
end Go.Proofs.YtbbfelelocccmaaGreat.Sv
namespace Go.Proofs.YtbbfelelocccmaaGreat
open Go.ChangeShapes Go.WideShapes Go.ChangeAt Go.RowKit Sv
theorem own':ownKnob Tryz.prog.godebug=none:=by kernel_rfl
theorem laidOut':laidOutB Tryz.prog=true:=by kernel_rfl
theorem bool':Tryz.prog.underlying 4=some .bool:=by kernel_rfl
theorem okWide_cell{P:Program}{W:World}{T:Nat->Option Av}{t u b0:Nat}{v:Value}{i:Av}(hT:CE P T)(hi:T t=some i)(hk:i.k=.slice u)(h:Value.okWide P W .any b0 t v):∀cs,v≠ .agg cs:=by
 obtain⟨info,d,e1,e2,e3,e4,e5,e6⟩:=Am (hT _ _ hi);have hd:=BF (P:=P) (d:=d) (e3▸hk);subst hd;obtain⟨a,len,cap,rfl⟩:=okWide_slice e2 h;intro cs h
 cases h
variable {H : Type} {enc : TypeId × Value -> H} {W : World}
theorem decTac:Dec enc Tryz.prog W 91 Tac.cells Tac.Ok:=mh Ai rfl rfl rfl rfl rfl rfl rfl rfl rfl
theorem decBlock:Dec enc Tryz.prog W 80 Block.cells Block.Ok:=cX Ai rfl rfl rfl rfl rfl rfl rfl rfl rfl rfl rfl rfl decTac
end Go.Proofs.YtbbfelelocccmaaGreat
namespace Go.Proofs.YtbbfelelocccmaaGreat.Sv
open Go
def valB:List Nat->Nat
  | []=>0
  |b::r=>b+2*valB r
theorem La:∀(l:List Nat) (j:Nat),(∀b∈l,b<2)->(valB l).testBit j=((l[j]?).getD 0==1)
 | [],j,_=>by simp[valB]
 |b::r,0,h=>by
  have hb:=h b z145q
  grind[valB]
 |b::r,j+1,h=>by
  have hb:=h b z145q;have ih:=La r j (fun c hc=>h c K4)
  grind[valB]
theorem Y7:∀(l:List Nat),(∀b∈l,b<2)->valB l<2^l.length
 | [],_=>by simp[valB]
 |b::r,h=>by
  have hb:=h b z145q;have ih:=Y7 r (fun c hc=>h c K4)
  grind[valB]
def EO(n k:Nat):List Nat:=(List.range k).map fun i=>n/2^i%2
variable {i : Nat}
theorem M9{n k:Nat}(h:i<k):(EO n k)[i]?=some (n/2^i%2):=by
 simp[EO,h]
def dt(op:Int)(x y:Nat):Nat:=bif (x+y==2&&op !=11)||(!(x+y==2&&op !=11)&&(x+y==1&&op !=9))then 1 else 0
def Fm(op:Int)(a b:Nat):List Nat:=(List.range 32).map fun i=>dt op (a/2^i%2) (b/2^i%2)
theorem jq(op:Int)(x y:Nat):dt op x y<2:=by
 grind[dt]
theorem EV(n i:Nat):n.testBit i=(n/2^i%2==1):=by
 grind
variable {b a : Nat} {op : Int}
theorem HE{j:Nat}:(valB (Fm op a b)).testBit j=(decide (j<32)&&(dt op (a/2^j%2) (b/2^j%2)==1)):=by
 grind[La,Fm,jq,valB,dt]
theorem jo(ha:a<2^32)(hb:b<2^32):valB (Fm 9 a b)=a&&&b:=by
 apply Nat.eq_of_testBit_eq;intro j;rw[HE,Nat.testBit_and,EV a,EV b]
 by_cases hj:j<32
 . rcases(by omega:a/2^j%2=0\/a/2^j%2=1)with h1|h1<;>rcases(by omega:b/2^j%2=0\/b/2^j%2=1)with h2|h2<;>simp[h1,h2,hj,dt]
 . have:a/2^j=0:=Nat.div_eq_of_lt (q51 ha (Nat.pow_le_pow_right Aj z144q));simp[hj,this]
theorem mr(ha:a<2^32)(hb:b<2^32):valB (Fm 10 a b)=a|||b:=by
 apply Nat.eq_of_testBit_eq;intro j;rw[HE,Nat.testBit_or,EV a,EV b];exact rf
theorem jn(ha:a<2^32)(hb:b<2^32):valB (Fm 11 a b)=a^^^b:=by
 apply Nat.eq_of_testBit_eq;intro j;rw[HE,Nat.testBit_xor,EV a,EV b];exact rf
variable {a : Int}
theorem J0(h:Gp a):BitVec.ofInt IntKind.u32.bits a=BitVec.ofNat 32 a.toNat:=by
 obtain⟨h1,h2⟩:=h;obtain⟨n,rfl⟩:=Int.eq_ofNat_of_zero_le h1;show BitVec.ofInt 32 (n:Int)=_
 grind
theorem pI{n:Nat}(h:n<2^32):IntKind.u32.wrap (n:Int)=(n:Int):=by
 rw[q75];omega
theorem g9(h:Gp a):a.toNat<2^32:=by
 grind[Gp]
theorem di{b:Int}(ha:Gp a)(hb:Gp b)(ho:op=9\/op=10\/op=11):wapp op a b=((valB (Fm op a.toNat b.toNat):Int),0):=by
 have h1:=g9 ha;have h2:=g9 hb;have e1:(BitVec.ofNat 32 a.toNat).toNat=a.toNat:=by rw[BitVec.toNat_ofNat];omega
 have e2:(BitVec.ofNat 32 b.toNat).toNat=b.toNat:=by rw[BitVec.toNat_ofNat];omega
 rcases ho with rfl|rfl|rfl
 . have:wapp 9 a b=(IntKind.u32.wrap ((BitVec.ofInt IntKind.u32.bits a&&&BitVec.ofInt IntKind.u32.bits b).toNat),0):=rfl;rw[this,J0 ha,J0 hb,jo h1 h2];have h3:(BitVec.ofNat 32 a.toNat&&&BitVec.ofNat 32 b.toNat).toNat=a.toNat&&&b.toNat:=by rw[BitVec.toNat_and,e1,e2]
   exact dR
 . have:wapp 10 a b=(IntKind.u32.wrap ((BitVec.ofInt IntKind.u32.bits a|||BitVec.ofInt IntKind.u32.bits b).toNat),0):=rfl;rw[this,J0 ha,J0 hb,mr h1 h2];have h3:(BitVec.ofNat 32 a.toNat|||BitVec.ofNat 32 b.toNat).toNat=a.toNat|||b.toNat:=by rw[BitVec.toNat_or,e1,e2]
   exact dR
 . have:wapp 11 a b=(IntKind.u32.wrap ((BitVec.ofInt IntKind.u32.bits a^^^BitVec.ofInt IntKind.u32.bits b).toNat),0):=rfl;rw[this,J0 ha,J0 hb,jn h1 h2];have h3:(BitVec.ofNat 32 a.toNat^^^BitVec.ofNat 32 b.toNat).toNat=a.toNat^^^b.toNat:=by rw[BitVec.toNat_xor,e1,e2]
   exact dR
def shN(op:Int):Nat->Nat->Nat
  |n,0=>n
  |n,k+1=>bif op==12 then 2*shN op n k%4294967296 else shN op n k/2
theorem S7{op:Int}{n:Nat}(h:n<4294967296):∀k,shN op n k<4294967296
 |0=>h
 |k+1=>by
  unfold shN;have:=S7 (op:=op) h k
  grind
theorem Zr{n:Nat}:∀k,shN 12 n k%4294967296=n*2^k%4294967296
 |0=>by simp[shN]
 |k+1=>by
  have ih:=Zr (n:=n) k;have e:shN 12 n (k+1)=2*shN 12 n k%4294967296:=rfl;rw[e,Nat.mod_mod,Nat.mul_mod,ih,<-Nat.mul_mod,Nat.pow_succ]
  grind
theorem Zq{op:Int}(ho:(op==12)=false){n:Nat}:∀k,shN op n k=n/2^k
 |0=>by simp[shN]
 |k+1=>by
  have ih:=Zq ho (n:=n) k;have e:shN op n (k+1)=shN op n k/2:=by rw[shN,ho];rfl
  rw[e,ih,Nat.div_div_eq_div_mul,Nat.pow_succ]
theorem Xi{b:Int}(ha:Gp a)(hb:0<=b)(hb2:¬b>31)(ho:op=12\/op=13):Ga op a b=((shN op a.toNat b.toNat:Nat):Int):=by
 have h1:=g9 ha;have hd:decide (b>31)=false:=by simpa using hb2
 have hmin:min b.toNat IntKind.u32.bits=b.toNat:=by
  show min b.toNat 32=b.toNat;omega
 obtain⟨n,rfl⟩:=Int.eq_ofNat_of_zero_le ha.1;unfold Ga;rw[hd,hmin];simp only[qZ3,q55];rcases ho with rfl|rfl
 . have h3:=Zr (n:=n) b.toNat;have h4:=S7 (op:=12) (n:=n) Kl b.toNat;show IntKind.u32.wrap ((n:Int)*2^b.toNat)=_;rw[Nat.mod_eq_of_lt h4]at h3;rw[h3,q75,Int.natCast_emod,Int.natCast_mul,Int.natCast_pow];rfl
 . rw[Zq (by rfl)];show Int.fdiv (n:Int) (2^b.toNat)=_;have hp:(0:Int)<=2^b.toNat:=Int.le_of_lt (Int.pow_pos z144q);rw[Int.fdiv_eq_ediv_of_nonneg _ hp,Int.natCast_ediv,Int.natCast_pow];rfl
theorem JJ{n:Nat}(h:n<9223372036854775808):IntKind.i64.wrap (n:Int)=(n:Int):=Cq z144q z144q
theorem Ct{n:Nat}(h:n<18446744073709551616):IntKind.u64.wrap (n:Int)=(n:Int):=by
 rw[IntKind.wrap_u64];omega
theorem DQ{n:Nat}(h:n<4294967296):IntKind.u32.wrap (n:Int)=(n:Int):=by
 rw[q75];omega
variable {k : IntKind} {a : Nat}
theorem F5(hb:0<b):AX .rem (.int k (a:Int)) (.int k (b:Int))=some (.int k ((a%b:Nat):Int)):=by
 have h0:¬(b:Int)=0:=by omega
 simp only[AX,BH,isShift,qZ3,qZ8,qZ9 h0];rw[Int.tmod_eq_emod_of_nonneg z144q,Int.natCast_emod]
theorem L2(hb:0<b)(hw:k.wrap ((a/b:Nat):Int)=((a/b:Nat):Int)):AX .quo (.int k (a:Int)) (.int k (b:Int))=some (.int k ((a/b:Nat):Int)):=by
 have h0:¬(b:Int)=0:=by omega
 simp only[AX,BH,isShift,qZ3,qZ8,qZ9 h0];rw[Int.tdiv_eq_ediv_of_nonneg z144q,<-Int.natCast_ediv,hw]
theorem H9(hw:k.wrap ((a+b:Nat):Int)=((a+b:Nat):Int)):AX .add (.int k (a:Int)) (.int k (b:Int))=some (.int k ((a+b:Nat):Int)):=by
 simp only[AX,BH,isShift,qZ3,qZ8];rw[<-Int.natCast_add,hw]
theorem P3(hw:k.wrap ((a*b:Nat):Int)=((a*b:Nat):Int)):AX .mul (.int k (a:Int)) (.int k (b:Int))=some (.int k ((a*b:Nat):Int)):=by
 simp only[AX,BH,isShift,qZ3,qZ8];rw[<-Int.natCast_mul,hw]
variable {P : Program} {T : Nat -> Option Av} {o : Oper} {e : Ax} {h : Ad}
theorem Cx(hT:CE P T){t u:TypeId}{x:Operand}{k':IntKind}{n:Int}{i j:Av}(ho:o.op=.convert t u x)(hx:An e x=some (.int k' n))(hi:T t=some i)(hj:T u=some j)(hk:j.k=.int k)(hw:k.wrap n=n):QLoc P o e h [] (.int k n):=by
 have:=Rs (h:=h) hT ho hx hi hj hk;rwa[hw]at this
def natCells(l:List Nat):List (List AV):=l.map fun(b:Nat)=>[AV.int .i64 (b:Int)]
theorem Yw(n k:Nat):EO n (k+1)=EO n k++[n/2^k%2]:=by
 simp[EO,q79]
theorem C9(n k:Nat):(EO n k).length=k:=by simp[EO]
variable {l : List Nat}
theorem aL(h:l[i]?=some b):valB (l.drop i)=b+2*valB (l.drop (i+1)):=by
 have hi:i<l.length:=(q05.1 h).1;rw[q07 hi];have:l[i]=b:=by rw[q13 hi]at h;cases h;rfl
 rw[this];rfl
def Jj(op:Int)(a b i:Nat):List Nat:=(Fm op a b).take i++(EO a 32).drop i
theorem Ew(op:Int)(a b:Nat):(Fm op a b).length=32:=by simp[Fm]
theorem NA(h:i<=32):(Jj op a b i).length=32:=by
 simp[Jj,Ew,C9];omega
theorem Pu(h:i<32):(Jj op a b i)[i]?=some (a/2^i%2):=by
 have hl:((Fm op a b).take i).length=i:=by simp[Ew];omega
 rw[Jj,q02 z144q,hl,Nat.sub_self,q49,qX5,M9 h]
theorem RL(h:i<32):Jj op a b (i+1)=(Jj op a b i).set i (dt op (a/2^i%2) (b/2^i%2)):=by
 have hl:((Fm op a b).take i).length=i:=by simp[Ew];omega
 have hg:(Fm op a b)[i]?=some (dt op (a/2^i%2) (b/2^i%2)):=by simp[Fm,h]
 have hd:(EO a 32).drop i=(a/2^i%2)::(EO a 32).drop (i+1):=by
  have hi:i<(EO a 32).length:=by rw[C9];exact h
  rw[q07 hi];congr 1;have:=M9 (n:=a) h;rw[q13 hi]at this;exact q86 this
 unfold Jj;rw[List.set_append,qZ9 z144q,hl,Nat.sub_self,AY hg,q63,hd];rfl
theorem cD{f:BFunc}(h:f.mild):f.fold.mild:=by
 refine⟨h.1,h.2.1,by simp only[BFunc.fold,q76];exact h.2.2.1,fun y hy=>?_⟩;simp only[BFunc.fold,qX3]at hy;obtain⟨x,hx,rfl⟩:=hy;obtain⟨h1,h2⟩:=h.2.2.2 x hx;refine⟨by simp only[Block.fold,BX];exact h1,fun t ht=>?_⟩;simp only[Block.fold]at ht;obtain⟨i,hi⟩:=q27.1 ht;have hlt:i<x.ins.length:=by rw[<-BX x.ins []];exact(q05.1 hi).1
 rw[Jo x.ins [] (q13 hlt)]at hi
 cases hi
 exact fstep_w (Z3 h2 i) (h2 _ (List.getElem_mem hlt))
theorem Ghost.freezeAll{n:Nat}(t b:Nat){m sz:Nat}{es:List (List AV)}(ht:e t=some (.ref b m 0 m))(hb:h b=some (.row true sz es))(hm:m=es.length):
 Ghost ⟨n,e,h⟩ ⟨n,Aa e t (.lst false es),hrm h b⟩:=by
 exact mZ
theorem iW(hba:b<=a)(hw:k.wrap ((a-b:Nat):Int)=((a-b:Nat):Int)):AX .sub (.int k (a:Int)) (.int k (b:Int))=some (.int k ((a-b:Nat):Int)):=by
 grind[AX,BH,isShift]
theorem GA(h:l[i]?=some b):(natCells l)[0+((i:Nat):Int).toNat]?=some [AV.int .i64 (b:Int)]:=by
 grind[natCells]
theorem TM{α:Type}{l:List α}{x y:α}(h:l[i]?=some x):(l.set i y)[i]?=some y:=by
 grind
theorem C6(l:List Nat):(natCells l).length=l.length:=by simp[natCells]
theorem NY(l:List Nat)(b:Nat):natCells (l++[b])=natCells l++[[AV.int .i64 (b:Int)]]:=by simp[natCells]
theorem LH(l:List Nat)(i b:Nat):(natCells l).set i [AV.int .i64 (b:Int)]=natCells (l.set i b):=by simp[natCells,List.map_set]
theorem Wl(a k:Nat):natCells (EO a k)++[[AV.int .i64 ((a/2^k%2:Nat):Int)]]=natCells (EO a (k+1)):=by
 rw[Yw,NY]
theorem Lb(hl:l.length=32)(hb:∀b∈l,b<2)(m:Nat):valB (l.drop m)<4294967296:=by
 have h:=Y7 (l.drop m) (fun b h=>hb b (List.mem_of_mem_drop h));have:(2:Nat)^(l.drop m).length<=2^32:=Nat.pow_le_pow_right Aj Df
 grind
theorem dp{k:Nat}(hk:k<32){c:List AV}(h:dt op (a/2^k%2) (b/2^k%2)=0):(natCells (Jj op a b k)).set (0+((k:Nat):Int).toNat) [AV.int .i64 0]=natCells (Jj op a b (k+1)):=by
 grind[RL,LH,dt,natCells,Jj]
theorem dj{k:Nat}(hk:k<32){c:List AV}(h:dt op (a/2^k%2) (b/2^k%2)=1):((natCells (Jj op a b k)).set (0+((k:Nat):Int).toNat) c).set (0+((k:Nat):Int).toNat) [AV.int .i64 1]=natCells (Jj op a b (k+1)):=by
 rw[List.set_set,RL hk,h,<-LH,qQ8,q55];rfl
theorem cj(op:Int)(a b:Nat):Jj op a b 0=EO a 32:=by simp[Jj]
theorem ii(op:Int)(a b:Nat):Jj op a b 32=Fm op a b:=by
 grind[Ew,C9,Jj,List.drop_eq_nil_of_le,Fm]
theorem jp(op:Int)(a b:Nat):∀c∈Fm op a b,c<2:=fun c hc=>by
 grind[Fm,jq]
theorem TB(h:a<4294967296):Gp (a:Int):=by constructor<;>omega
theorem eQ(a b:Nat):wapp 4 a b=((((a+b)%4294967296:Nat):Int),0):=by
 show(IntKind.u32.wrap ((a:Int)+b),(0:Int))=_;rw[q75];rfl
theorem eL(h:b<4294967296):wapp 5 a b=((((a+4294967296-b)%4294967296:Nat):Int),0):=by
 show(IntKind.u32.wrap ((a:Int)-b),(0:Int))=_;rw[q75];congr 1;omega
theorem eM(a b:Nat):wapp 6 a b=(((a*b%4294967296:Nat):Int),0):=by
 show(IntKind.u32.wrap ((a:Int)*b),(0:Int))=_;rw[q75,<-Int.natCast_mul];rfl
theorem aG(op a:Int)(h:op=7\/op=8):wapp op a 0=(0,14):=by
 rcases h with rfl|rfl<;>rfl
theorem eP(ha:a<4294967296)(h:¬b=0):wapp 7 a b=(((a/b:Nat):Int),0):=by
 show wdivide 7 a b=_;have hb:((b:Int)==0)=false:=by simp;omega
 unfold wdivide;rw[hb];show(IntKind.u32.wrap ((a:Int).tdiv b),(0:Int))=_;have h2:a/b<=a:=Nat.div_le_self a b;rw[Int.tdiv_eq_ediv_of_nonneg z144q,<-Int.natCast_ediv,DQ z144q]
theorem eN(h:¬b=0):wapp 8 a b=(((a%b:Nat):Int),0):=by
 grind[wdivide,wapp]
theorem aH(ha:a<4294967296)(hb:b<4294967296)(ho:op=9\/op=10\/op=11):wapp op a b=(((valB (Fm op a b):Nat):Int),0):=di (TB ha) (TB hb) ho
theorem WR(ho:op=12\/op=13):wapp op a b=(Ga op a b,0):=by
 grind[wapp,Ga]
theorem WO(op:Int)(h:32<=b):Ga op a b=0:=by
 grind[Ga]
theorem SO(ha:a<4294967296)(hb:b<32)(ho:op=12\/op=13):Ga op a b=(shN op a b:Nat):=Xi (TB ha) z144q z144q ho
theorem kv(a b:Int):wapp 14 a b=(bif decide (a<b)then 1 else 0,0):=by
 grind[HJ,wapp]
theorem kx(a b:Int):wapp 15 a b=(bif a==b then 1 else 0,0):=by
 grind[HJ,wapp]
theorem MI(z y v:Int):∀K:CC,pget y (pset z v K)=bif y==z then some v else pget y K
 | []=>rfl
 |(k,u)::r=>by
  have ih:=MI z y v r;unfold pset
  cases hz:z==k with
  |true=>
   have hz':z=k:=by simpa using hz
   subst hz';simp only[qZ7,pget]
   cases y==z<;>rfl
  |false=>
   exact n8
def Fv(K:CC):Prop:=(K.map (·.1)).Nodup
theorem Rx{z:Int}:∀{K:CC},z∉K.map (·.1)->pget z K=none
 | [],_=>rfl
 |(k,u)::r,h=>by
  simp only[qQ0,q99,not_or]at h;unfold pget;rw[show(z==k)=false by simp;exact h.1];exact Rx h.2
theorem MJ(z y:Int):∀{K:CC},Fv K->pget y (pdel z K)=bif y==z then none else pget y K
 | [],_=>by simp[pdel,pget]
 |(k,u)::r,h=>by
  unfold Fv at h;simp only[qQ0,q93]at h;have ih:=MJ z y (K:=r) h.2;unfold pdel
  cases hz:z==k with
  |true=>
   have hz':z=k:=by simpa using hz
   subst hz';simp only[qZ7,pget]
   cases hy:y==z with
   |true=>
    have hy':y=z:=by simpa using hy
    subst hy';simp only[qZ7];exact Rx h.1
   |false=>rfl
  |false=>
   exact n8
theorem Rv{z v:Int}{y:Int}:∀{K:CC},y∈(pset z v K).map (·.1)->y=z\/y∈K.map (·.1)
 | [],h=>by simp[pset]at h;exact .inl h
 |(k,u)::r,h=>by
  unfold pset at h
  cases hz:z==k with
  |true=>rw[hz]at h;simp only[qZ7,qQ0,q99]at h|-;rcases h with h|h<;>simp[h]
  |false=>
   rw[hz]at h;simp only[qZ3,qQ0,q99]at h|-;rcases h with h|h
   . exact .inr (.inl h)
   . rcases Rv h with h|h
     . exact .inl h
     . exact .inr (.inr h)
theorem Ry{z:Int}{y:Int}:∀{K:CC},y∈(pdel z K).map (·.1)->y∈K.map (·.1)
 | [],h=>by simp[pdel]at h
 |(k,u)::r,h=>by
  unfold pdel at h
  cases hz:z==k with
  |true=>rw[hz]at h;simp only[qZ7]at h;simp only[qQ0,q99];exact .inr h
  |false=>
   rw[hz]at h;simp only[qZ3,qQ0,q99]at h|-;rcases h with h|h
   . exact .inl h
   . exact .inr (Ry h)
theorem OA{z v:Int}:∀{K:CC},Fv K->Fv (pset z v K)
 | [],_=>by simp[Fv,pset]
 |(k,u)::r,h=>by
  unfold Fv at h|-;simp only[qQ0,q93]at h;unfold pset
  cases hz:z==k with
  |true=>simp only[qZ7,qQ0,q93];exact h
  |false=>
   simp only[qZ3,qQ0,q93];refine⟨fun hm=>?_,OA h.2⟩;rcases Rv hm with e|e
   . simp at hz;omega
   . exact h.1 e
theorem OB{z:Int}:∀{K:CC},Fv K->Fv (pdel z K)
 | [],_=>by simp[Fv,pdel]
 |(k,u)::r,h=>by
  unfold Fv at h|-;simp only[qQ0,q93]at h;unfold pdel
  cases hz:z==k with
  |true=>simp only[qZ7];exact h.2
  |false=>
   simp only[qZ3,qQ0,q93];exact⟨fun hm=>h.1 (Ry hm),OB h.2⟩
theorem Nm{K:CC}(h:Fv K)(t:Tac):Fv (Gq K t):=by
 unfold Gq
 cases decide (t.sets<0)with
 |true=>exact h
 |false=>cases t.op==1 with
  |true=>exact OA h
  |false=>exact OB h
def Tac.inR(t:Tac)(regs:Int):Prop:=(setsOp t.op=true->0<=t.d/\t.d<regs)/\∀u∈t.uses,0<=u/\u<regs
theorem PS{t:Tac}{f regs words:Int}(h:t.fits f regs words=true):t.inR regs:=by
 simp only[Tac.fits,q66,q81,q61,q67,A3,q56]at h;refine⟨fun hs=>?_,fun u hu=>h.2.2.2.1 u hu⟩
 grind
structure Mach where
  words:List Int
  out:List UInt8
  read:Nat
  steps:Nat
  fin:Int
def rget(l:List Int)(z:Int):Int:=(l[z.toNat]?).getD 0
def A5(l:List Int)(z v:Int):List Int:=l.set z.toNat v
def byteOf(n:Int):UInt8:=UInt8.ofNat n.toNat
def inAt(s:ByteArray)(i:Nat):UInt8:=(s.data.toList[i]?).getD 0
def mone(call:Int->Mach->Mach)(s:ByteArray)(t:Tac)(regs:List Int)(m:Mach):List Int×Mach:=
  bif t.op==1 then(A5 regs t.d t.n,m)
  else bif t.op==2 then(A5 regs t.d (rget regs t.a),m)
  else bif t.op==3 then
    (bif (wapp t.k (rget regs t.a) (rget regs t.b)).2==0 then(A5 regs t.d (wapp t.k (rget regs t.a) (rget regs t.b)).1,m)else(regs,{m with fin:=2}))
  else bif t.op==4 then(A5 regs t.d (rget m.words t.base),m)
  else bif t.op==5 then(regs,{m with words:=A5 m.words t.base (rget regs t.a)})
  else bif t.op==6 then(bif decide (rget regs t.a>=t.size)then(regs,{m with fin:=3})else(A5 regs t.d (rget m.words (t.base+rget regs t.a)),m))
  else bif t.op==7 then(bif decide (rget regs t.a>=t.size)then(regs,{m with fin:=3})else(regs,{m with words:=A5 m.words (t.base+rget regs t.a) (rget regs t.b)}))
  else bif t.op==8 then(bif decide (m.read<s.size)then(A5 regs t.d ((inAt s m.read).toNat:Int),{m with read:=m.read+1})else(A5 regs t.d 256,m))
  else bif t.op==9 then(bif decide (m.out.length>=65536)then(regs,{m with fin:=4})else(regs,{m with out:=m.out++[byteOf (rget regs t.a)]}))
  else bif t.op==10 then(regs,call t.base m)
  else(regs,m)
def Block.next(k:Block)(regs:List Int):Int:=bif k.fin==2&&rget regs k.v==0 then k.els else k.to
def m0(b:Blocks):Mach:=⟨List.replicate b.words.toNat 0,[],0,0,0⟩
theorem Hj(l:List Int)(z v:Int):(A5 l z v).length=l.length:=by simp[A5]
def Blocks.insW(b:Blocks):Prop:=∀f∈b.funcs,∀x∈f.blocks,Sv.H6 x.ins
section
variable {call : Int -> Mach -> Mach} {s : ByteArray} {t : Tac} {regs : List Int} {m : Mach}
theorem oB(h:t.op=1):mone call s t regs m=(A5 regs t.d t.n,m):=by simp[mone,h]
theorem wc(h:t.op=2):mone call s t regs m=(A5 regs t.d (rget regs t.a),m):=by simp[mone,h]
theorem wb(h:t.op=3)(hz:((wapp t.k (rget regs t.a) (rget regs t.b)).2 !=0)=false):mone call s t regs m=(A5 regs t.d (wapp t.k (rget regs t.a) (rget regs t.b)).1,m):=by
 grind[wapp,rget,mone,A5]
end
structure wq(t:Tac)(number R:Nat)(words:Nat):Prop where
  op:1<=t.op/\t.op<=10
  d:setsOp t.op=true->0<=t.d/\t.d<R
  a:use1 t.op=true\/use2 t.op=true->0<=t.a/\t.a<R
  b:use2 t.op=true->0<=t.b/\t.b<R
  base:t.op=4\/t.op=5->0<=t.base/\t.base<words
  arr:t.op=6\/t.op=7->1<=t.size/\t.size<=4096/\0<=t.base/\t.base+t.size<=words
  call:t.op=10->0<=t.base/\t.base<number
theorem UD{t:Tac}{f regs words:Int}(h:t.fits f regs words=true):wq t f.toNat regs.toNat words.toNat:=by
 have h0:=h;simp only[Tac.fits,q66,q81,q61,q67,A3,q56]at h;obtain⟨h1,h2,h3,h4,h5,_⟩:=h;refine⟨⟨h1,h2⟩,fun e=>?_,fun e=>?_,fun e=>?_,fun e=>?_,fun e=>?_,fun e=>?_⟩
 . rcases h3 with h3|h3
   . rw[e]at h3;cases h3
   . omega
 . have:=h4 t.a (by rcases e with e|e<;>simp[Tac.uses,e]<;>cases use1 t.op<;>simp);omega
 . have e2:=Nl t.op;rw[e,qQ4]at e2;have:=h4 t.b (by simp[Tac.uses,e,e2]);omega
 . rcases e with e|e<;>simp[Tac.rest,baseOp,e,A3]at h5<;>omega
 . rcases e with e|e<;>simp[Tac.rest,baseOp,Ie,e]at h5<;>omega
 . simp[Tac.rest,baseOp,Ie,e,A3]at h5;omega
structure FG where
  i:Int
  regs:List Int
  m:Mach
  g:Nat
structure IG where
  j:Nat
  regs:List Int
  m:Mach
section
variable {call : Int -> Mach -> Mach} {s : ByteArray} {fuel : Int} {f : BFunc} {W R : Nat} {tgt : Mach} {q : FG} {k : Block} {r : IG}
end
def kidx(k:List Int):List (List Int)->Option Nat
  | []=>none
  |x::r=>bif k==x then some 0 else(kidx k r).map (· +1)
def Ij(first:Int)(K:List (List Int))(k:List Int):Int×List (List Int):=
  match kidx k K with
  |some i=>(first+(i:Int),K)
  |none=>(first+(K.length:Int),K++[k])
theorem ZR{k:List Int}:∀{K:List (List Int)} {i:Nat},kidx k K=some i->i<K.length/\K[i]?=some k
 | [],i,h=>by cases h
 |x::r,i,h=>by
  unfold kidx at h
  cases hx:k==x with
  |true=>rw[hx]at h;cases h;exact⟨by simp,by simp at hx;simp[hx]⟩
  |false=>
   rw[hx]at h;simp only[qZ3,q22]at h;obtain⟨j,hj,rfl⟩:=h;obtain⟨h1,h2⟩:=ZR hj;exact⟨by simp;omega,by simpa using h2⟩
def CD(first:Int)(K:List (List Int))(n:Int):Int×Bool:=
  bif decide (n<first)then(0,false)else(IntKind.u32.wrap (rget ((K[(n-first).toNat]?).getD []) 1),rget ((K[(n-first).toNat]?).getD []) 0==1)
def Hv(first:Int)(K:List (List Int))(op a b:Int):Int×List (List Int):=
  bif (CD first K a).2&&(CD first K b).2&&(wapp op (CD first K a).1 (CD first K b).1).2==0 then Ij first K [1,(wapp op (CD first K a).1 (CD first K b).1).1,0,0]
  else Ij first K [2,op,a,b]
structure VW where
  K:List (List Int)
  vals:List Int
  effs:List (List Int)
  time:Int
def VW.put(w:VW)(z:Int)(p:Int×List (List Int)):VW:={w with K:=p.2,vals:=A5 w.vals z p.1}
def VW.hap(w:VW)(t:Tac)(a b:Int):VW:={w with effs:=w.effs++[[2,t.op,t.base,t.size,a,b]]}
def VW.tick(w:VW):VW:={w with time:=w.time+1}
def eR(first:Int)(w:VW):Int×List (List Int):=Ij first w.K [4,(w.effs.length:Int),0,0]
def SW(first:Int)(w:VW)(t:Tac):Bool:=(t.k==7||t.k==8)&&(!(CD first w.K (rget w.vals t.b)).2||(CD first w.K (rget w.vals t.b)).1==0)
def VW.div(first:Int)(w:VW)(t:Tac):VW:=bif SW first w t then {w with effs:=w.effs++[[1,t.k,rget w.vals t.a,rget w.vals t.b,0,0]]}else w
def VW.bin(first:Int)(w:VW)(t:Tac):VW:=(w.div first t).put t.d (Hv first w.K t.k (rget w.vals t.a) (rget w.vals t.b))
def VW.step(first:Int)(w:VW)(t:Tac):VW:=
  bif t.op==1 then w.put t.d (Ij first w.K [1,t.n,0,0])
  else bif t.op==2 then {w with vals:=A5 w.vals t.d (rget w.vals t.a)}
  else bif t.op==3 then w.bin first t
  else bif t.op==4 then w.put t.d (Ij first w.K [3,t.base,w.time,0])
  else bif t.op==5 then(w.hap t (rget w.vals t.a) 0).tick
  else bif t.op==6 then(w.hap t (rget w.vals t.a) 0).put t.d (eR first (w.hap t (rget w.vals t.a) 0))
  else bif t.op==7 then(w.hap t (rget w.vals t.a) (rget w.vals t.b)).tick
  else bif t.op==8 then(w.hap t 0 0).put t.d (eR first (w.hap t 0 0))
  else bif t.op==9 then w.hap t (rget w.vals t.a) 0
  else bif t.op==10 then(w.hap t 0 0).tick
  else w
theorem wm(first:Int)(w:VW)(t:Tac):(w.div first t).K=w.K:=by unfold VW.div;cases SW first w t<;>rfl
variable {l : List Int} {z : Int}
theorem Zw(h:0<=z/\z<l.length):rget l z∈l:=by
 unfold rget;rw[q13 z144q];exact List.getElem_mem _
theorem yL{x y:Int}(h1: -9223372036854775808<=x+y)(h2:x+y<=9223372036854775807)(hz:z=x+y):AX .add (.int .i64 x) (.int .i64 y)=some (.int .i64 z):=by
 subst hz;show BH .add .i64 x y=_;simp only[BH];rw[Cq h1 h2]
theorem fq{x y:Int}(h1: -9223372036854775808<=x-y)(h2:x-y<=9223372036854775807)(hz:z=x-y):AX .sub (.int .i64 x) (.int .i64 y)=some (.int .i64 z):=by
 subst hz;show BH .sub .i64 x y=_;simp only[BH];rw[Cq h1 h2]
variable {first : Int}
theorem eU{k:List Int}{K:List (List Int)}(h:kidx k K=none):Ij first K k=(first+(K.length:Int),K++[k]):=by unfold Ij;rw[h]
theorem eT{k:List Int}{K:List (List Int)}{i:Nat}(h:kidx k K=some i):Ij first K k=(first+(i:Int),K):=by unfold Ij;rw[h]
theorem Rb{k:Nat->Bool}(x:Int)(es:List (List AV))(h1:k 3=true)(h2:k 9=true):(AObj.row false 3 [[.int .i64 x,.map 3,A6 9 es]]).avoid k=true:=by
 have h:=BV es h2;have g:(AV.map 3).avoid k=true:=h1;have g2:(AV.int .i64 x).avoid k=true:=rfl;simp only[AObj.avoid,qQ1,qX7,h,g,g2,Bool.and_self]
theorem Q0{k:Nat->Bool}{v p:Nat}(es es2:List (List AV))(x:Int)(h1:k 4=true)(h2:k v=true)(h3:k p=true):(AObj.row false 4 [[.ptr 4 1 0 0,wT v es,A6 p es2,.int .i64 x]]).avoid k=true:=by
 have h:=BV es2 h3;have h':=Ml es h2;exact nE
theorem Oz{K:List (List Int)}{n:Int}(h:decide (n<first)=true):CD first K n=(0,false):=by unfold CD;rw[h];rfl
variable {b a op : Int}
theorem eX{K:List (List Int)}(h1:(CD first K a).2=true)(h2:(CD first K b).2=true)(h3:((wapp op (CD first K a).1 (CD first K b).1).2==0)=true):Hv first K op a b=Ij first K [1,(wapp op (CD first K a).1 (CD first K b).1).1,0,0]:=by
 unfold Hv;rw[h1,h2,h3];rfl
theorem aK{K:List (List Int)}(h1:(CD first K a).2=false):Hv first K op a b=Ij first K [2,op,a,b]:=by
 unfold Hv;rw[h1];rfl
theorem aJ{K:List (List Int)}(h1:(CD first K b).2=false):Hv first K op a b=Ij first K [2,op,a,b]:=by
 unfold Hv;rw[h1,q97];rfl
theorem aI{K:List (List Int)}(h3:((wapp op (CD first K a).1 (CD first K b).1).2==0)=false):Hv first K op a b=Ij first K [2,op,a,b]:=by
 unfold Hv;rw[h3,q97];rfl
structure Nb(t:Tac)(R:Nat):Prop where
  d:setsOp t.op=true->0<=t.d/\t.d<R
  a:use1 t.op=true\/use2 t.op=true->0<=t.a/\t.a<R
  b:use2 t.op=true->0<=t.b/\t.b<R
  n:Gp t.n
def Bb(l:List Int):List (List AV):=l.map fun n=>[AV.int .i64 n]
theorem HM(l:List Int):(Bb l).length=l.length:=q76 ..
theorem Cz(l:List Int):∀cs∈Bb l,cs.length=1:=fun cs hc=>by
 obtain⟨n,_,rfl⟩:=qX3.1 hc;rfl
theorem BQ(h:0<=z/\z<l.length):(Bb l)[z.toNat]?=some [AV.int .i64 (rget l z)]:=by
 unfold Bb rget;rw[q54,q13 z144q];rfl
theorem eY(l:List Int)(z v:Int):Bb (A5 l z v)=(Bb l).set z.toNat [AV.int .i64 v]:=by
 unfold Bb A5;rw[List.map_set]
variable {w : VW}
theorem pU{t:Tac}(ho:t.op=1):w.step first t=w.put t.d (Ij first w.K [1,t.n,0,0]):=by
 unfold VW.step;rw[ho];rfl
theorem pT{t:Tac}(ho:t.op=2):w.step first t={w with vals:=A5 w.vals t.d (rget w.vals t.a)}:=by
 unfold VW.step;rw[ho];rfl
theorem pS{t:Tac}(ho:t.op=3):w.step first t=w.bin first t:=by
 unfold VW.step;rw[ho];rfl
theorem pR{t:Tac}(ho:t.op=4):w.step first t=w.put t.d (Ij first w.K [3,t.base,w.time,0]):=by
 unfold VW.step;rw[ho];rfl
theorem pQ{t:Tac}(ho:t.op=5):w.step first t=(w.hap t (rget w.vals t.a) 0).tick:=by
 unfold VW.step;rw[ho];rfl
theorem pP{t:Tac}(ho:t.op=6):w.step first t=(w.hap t (rget w.vals t.a) 0).put t.d (eR first (w.hap t (rget w.vals t.a) 0)):=by
 unfold VW.step;rw[ho];rfl
theorem pO{t:Tac}(ho:t.op=7):w.step first t=(w.hap t (rget w.vals t.a) (rget w.vals t.b)).tick:=by
 unfold VW.step;rw[ho];rfl
theorem pN{t:Tac}(ho:t.op=8):w.step first t=(w.hap t 0 0).put t.d (eR first (w.hap t 0 0)):=by
 unfold VW.step;rw[ho];rfl
theorem pM{t:Tac}(ho:t.op=9):w.step first t=w.hap t (rget w.vals t.a) 0:=by
 unfold VW.step;rw[ho];rfl
theorem kz{t:Tac}(ho:t.op=10):w.step first t=(w.hap t 0 0).tick:=by
 unfold VW.step;rw[ho];rfl
theorem fi{x:Int}(h:0<=x/\x<=90000):AX .add (.int .i64 x) (.int .i64 1)=some (.int .i64 (x+1)):=yL z144q z144q rfl
def wh(R:Nat):List Int:=(List.range R).map fun(v:Nat)=>(v:Int)
def og(R:Nat)(row:List Bool)(v:Nat):Int:=bif (row[v]?).getD false then(v:Int)else((R+v:Nat):Int)
def wg(R:Nat)(row:List Bool):List Int:=(List.range R).map (og R row)
def Cert.at'(c:Cert)(k:Int):List Bool:=(c.same[k.toNat]?).getD []
def eV(first:Int)(l:List Tac)(w:VW):VW:=l.foldl (VW.step first) w
def Oy(R:Nat)(old:Block):VW:=eV (2*R:Nat) old.ins ⟨[],wh R,[],0⟩
def Ut(R:Nat)(old new:Block)(row:List Bool):VW:=eV (2*R:Nat) new.ins ⟨(Oy R old).K,wg R row,[],0⟩
def Fw(x y:VW)(row:List Bool):Bool:=row.zipIdx.all fun p=> !p.1||rget x.vals (p.2:Int)==rget y.vals (p.2:Int)
def eS(R:Nat)(old new:Block)(c:Cert)(i:Int)(next:List Int):Bool:=
  decide ((Oy R old).effs=(Ut R old new (c.at' i)).effs)&&((!(old.fin==2)||rget (Oy R old).vals old.v==rget (Ut R old new (c.at' i)).vals new.v)&&next.all fun k=>Fw (Oy R old) (Ut R old new (c.at' i)) (c.at' k))
theorem S1{α:Type}{l l':List α}{k:Nat}{x:α}(h:l.take k=l'.take k)(hx:l[k]?=some x)(hy:l'[k]?=some x):l.take (k+1)=l'.take (k+1):=by
 rw[AY hx,AY hy,h]
theorem YZ{cs cs':List AV}(hl:cs'.length=cs.length)(h:∀(j:Nat) (x y:AV),cs[j]?=some x->cs'[j]?=some y->x=y\/(x=.nil/\y=.lst true [])):
 ∀(i:Nat) (ds ds':List AV),[cs][i]?=some ds->[cs'][i]?=some ds'->ds'.length=ds.length/\∀(j:Nat) (x y:AV),ds[j]?=some x->ds'[j]?=some y->(x.cell1=true->y.cell1=true)/\∀H ι v,Rel H ι x v->Rel H ι y v:=by
 intro i ds ds' h1 h2
 cases i with
 |succ i=>simp at h1
 |zero=>
  simp at h1 h2;subst h1;subst h2;refine⟨hl,fun j x y hx hy=>?_⟩;rcases h j x y hx hy with rfl|⟨rfl,rfl⟩
  . exact⟨id,fun _ _ _=>id⟩
  . exact⟨fun _=>rfl,fun _ _ _=>Tt⟩
theorem YY{a b d:AV}:∀(i:Nat) (ds ds':List AV),[[a,b,AV.nil,d]][i]?=some ds->[[a,b,AV.lst true [],d]][i]?=some ds'->ds'.length=ds.length/\∀(j:Nat) (x y:AV),ds[j]?=some x->ds'[j]?=some y->(x.cell1=true->y.cell1=true)/\∀H ι v,Rel H ι x v->Rel H ι y v:=
 YZ rfl fun j x y hx hy=>by
  match j with
  |0=>simp at hx hy;exact .inl (hx.symm.trans hy)
  |1=>simp at hx hy;exact .inl (hx.symm.trans hy)
  |2=>simp at hx hy;exact .inr ⟨hx.symm,hy.symm⟩
  |3=>simp at hx hy;exact .inl (hx.symm.trans hy)
  |j+4=>simp at hx
variable {R k : Nat}
theorem On(h:(a !=b)=true):¬a=b:=by simpa using h
theorem Hq(h:(a !=b)=false):a=b:=by simpa using h
def HN(x y:VW)(row:List Bool)(k:Nat):Prop:=∀j,j<k->∀b,row[j]?=some b->b=true->rget x.vals (j:Int)=rget y.vals (j:Int)
variable {row : List Bool}
theorem vagree_zero{x y:VW}:HN x y row 0:=fun j h=>absurd h (Nat.not_lt_zero _)
variable {must : Bool}
theorem Uv{x y:VW}(h:HN x y row k)(hm:row[k]?=some must)(hk:must=true->rget x.vals (k:Int)=rget y.vals (k:Int)):HN x y row (k+1):=fun j hj b hb hbt=>by
 by_cases hjk:j=k
 . subst hjk;rw[hm]at hb;exact hk ((q86 hb).trans hbt)
 . exact h j z144q b hb hbt
theorem vagree_iff{x y:VW}:Fw x y row=true↔ ∀(j:Nat) (b:Bool),row[j]?=some b->b=true->rget x.vals (j:Int)=rget y.vals (j:Int):=by
 unfold Fw;rw[q67];constructor
 . intro h j b hb hbt;have:=h (b,j) (q33 (B8 hb));subst hbt;simpa using this
 . rintro h ⟨b,j⟩ hp
   obtain⟨i,hi⟩:=q27.1 hp;rw[q37,q22]at hi;obtain⟨b',hb',e⟩:=hi;simp only[qQ8,q98]at e;obtain⟨rfl,rfl⟩:=e
   cases b' with
   |false=>rfl
   |true=>simpa using h _ true hb' rfl
theorem WW{x y:VW}(hk:row.length<=k)(h:HN x y row k):Fw x y row=true:=
 vagree_iff.2 fun j b hb hbt=>h j (by have:=(q05.1 hb).1;omega) b hb hbt
theorem aM{x y:VW}(hm:row[k]?=some must)(ht:must=true)(hne:¬rget x.vals (k:Int)=rget y.vals (k:Int)):Fw x y row=false:=by
 rw[q64];intro h;exact hne (vagree_iff.1 h k must hm ht)
section
variable {R : Nat} {old new : Block} {c : Cert} {i : Int} {next : List Int}
end
variable {es : List (List AV)}
theorem Ghost.freezeA{n:Nat}{e:Ax}{h:Ad}(t b:Nat){m sz:Nat}(ht:e t=some (.ref b m 0 m))(hb:h b=some (.row true sz es))(hm:m=es.length):
 Ghost ⟨n,e,h⟩ ⟨n,Aa e t (.lst false es),hrm h b⟩:=by
 exact mZ
def F1(p:List Int):List AV:=[AS p]
def Block.nexts(b:Block):List Int:=bif b.fin==1 then [b.to]else bif b.fin==2 then [b.to,b.els]else []
def BFunc.nexts(f:BFunc):List (List Int):=f.blocks.map Block.nexts
theorem AL(f:BFunc):f.nexts.length=f.blocks.length:=by simp[BFunc.nexts]
theorem CL{f:BFunc}{k:Nat}{x:Block}(h:f.blocks[k]?=some x):f.nexts[k]?=some x.nexts:=by simp[BFunc.nexts,h]
variable {α : Type}
theorem cJ{F:List α}{f:α->List AV}{z:List AV}{k n:Nat}{x:α}(hF:F.length=n)(hx:F[k]?=some x)(hz:f x=z):((F.take k).map f++List.replicate (n-k) z)=(F.take (k+1)).map f++List.replicate (n-(k+1)) z:=by
 have hk:k<n:=by rw[<-hF];exact(q05.1 hx).1
 rw[AY hx,q77,q63];congr 1;obtain⟨m,hm⟩:∃m,n-k=m+1:=⟨n-k-1,by omega⟩
 grind
structure DS where
  been:List Bool
  way:List (Int×Int)
def notBeen(been:List Bool)(b:Int):Bool:=decide (b>=0)&&decide (b<been.length)&& !((been[b.toNat]?).getD true)
def BY(b:Int)(s:DS):DS:=bif notBeen s.been b then⟨s.been.set b.toNat true,s.way++[(b,0)]⟩else s
def BR(next:List (List Int))(b:Int):List Int:=(next[b.toNat]?).getD []
def F6(next:List (List Int))(s:DS):DS:=
  match s.way.getLast? with
  |none=>s
  |some (b,i)=>bif decide (i<(BR next b).length)then BY (((BR next b)[i.toNat]?).getD 0) ⟨s.been,s.way.dropLast++[(b,i+1)]⟩else⟨s.been,s.way.dropLast⟩
def Ju(next:List (List Int)):Nat->DS->DS
  |0,s=>s
  |g+1,s=>if s.way.isEmpty then s else Ju next g (F6 next s)
def nu:List Bool->List (List Int)->Nat
  |x::xs,l::ls=>(bif x then 0 else l.length+2)+nu xs ls
  |_,_=>0
def sO(next:List (List Int))(way:List (Int×Int)):Nat:=(way.map fun p=>(BR next p.1).length-p.2.toNat+1).sum
def TV(next:List (List Int))(s:DS):Nat:=nu s.been next+sO next s.way
theorem gX:∀{been:List Bool} {next:List (List Int)} {i:Nat} {l:List Int},been[i]?=some false->next[i]?=some l->nu (been.set i true) next+(l.length+2)=nu been next
 | [],_,_,_,h,_=>by simp at h
 |_::_,[],_,_,_,h=>by simp at h
 |x::xs,m::ls,0,l,h1,h2=>by
  grind[nu]
 |x::xs,m::ls,i+1,l,h1,h2=>by
  simp only[q17]at h1 h2;have:=gX h1 h2
  grind[nu]
def Y8(l:List Bool):Nat:=(l.map fun x=>bif x then 0 else 1).sum
theorem Lf:∀{been:List Bool} {i:Nat},been[i]?=some false->Y8 (been.set i true)+1=Y8 been
 | [],_,h=>by simp at h
 |x::xs,0,h=>by simp at h;subst h;simp[Y8];omega
 |x::xs,i+1,h=>by
  simp only[q17]at h;have:=Lf h
  grind[Y8]
variable {b : Int}
theorem E0{been:List Bool}(h:notBeen been b=true):0<=b/\b<been.length/\been[b.toNat]?=some false:=by
 grind[notBeen,Af]
theorem Ov(next:List (List Int))(w:List (Int×Int))(p:Int×Int):sO next (w++[p])=sO next w+((BR next p.1).length-p.2.toNat+1):=by simp[sO]
theorem i4{next:List (List Int)}{s:DS}(hn:s.been.length=next.length):TV next (BY b s)<=TV next s:=by
 grind[BY,notBeen,E0,Af,gX,TV,Ov,BR]
variable {p : Int × Int}
theorem HK{w:List (Int×Int)}(h:w.getLast?=some p):w=w.dropLast++[p]:=by
 cases w with
 |nil=>simp at h
 |cons x r=>
  have hne:x::r≠[]:=by simp
  rw[List.getLast?_eq_some_getLast hne]at h
  cases h
  exact(List.dropLast_concat_getLast hne).symm
theorem Jv{l:List α}{n:Nat}(h:n<=l.length):(l.take n).dropLast=l.take (n-1):=by
 rw[List.dropLast_eq_take,List.take_take,q69];congr 1;omega
structure DS.ok(next:List (List Int))(s:DS):Prop where
  len:s.been.length=next.length
  way:∀p∈s.way,0<=p.1/\p.1<next.length/\0<=p.2/\p.2<=(BR next p.1).length
theorem dinto_ok{next:List (List Int)}{s:DS}(h:s.ok next):(BY b s).ok next:=by
 unfold BY
 cases e:notBeen s.been b with
 |false=>exact h
 |true=>
  obtain⟨h1,h2,h3⟩:=E0 e;have:=h.len;refine⟨by simpa using h.len,fun p hp=>?_⟩;simp only[qZ7,q78,q47]at hp;rcases hp with hp|rfl
  . exact h.way p hp
  . exact⟨h1,by omega,Int.le_refl _,q46 _⟩
theorem V7{next:List (List Int)}{s:DS}(h:s.ok next):(F6 next s).ok next:=by
 unfold F6;split
 . exact h
 . rename_i b i e;have hw:=HK e;have hb:=h.way (b,i) (by rw[hw];simp)
   cases hi:decide (i<(BR next b).length)with
   |false=>exact⟨h.len,fun p hp=>h.way p (q39 _ hp)⟩
   |true=>
    simp only[q56]at hi;refine dinto_ok ⟨h.len,fun p hp=>?_⟩;simp only[q78,q47]at hp;rcases hp with hp|rfl
    . exact h.way p (q39 _ hp)
    . exact⟨hb.1,hb.2.1,by show 0<=i+1;have:=hb.2.2.1;simp only at this;omega,by show i+1<=((BR next b).length:Int);omega⟩
theorem V8{next:List (List Int)}{s:DS}(h:s.ok next)(hne:s.way≠[]):TV next (F6 next s)<TV next s:=by
 unfold F6
 cases e:s.way.getLast? with
 |none=>rw[List.getLast?_eq_none_iff]at e;exact absurd e hne
 |some p=>
  obtain⟨b,i⟩:=p;have hw:=HK e;have hb:=h.way (b,i) (by rw[hw];simp);simp only at hb;have e1:TV next s=nu s.been next+(sO next s.way.dropLast+((BR next b).length-i.toNat+1)):=by
   unfold TV;conv=>lhs;rw[hw]
   rw[Ov]
  dsimp only
  cases hi:decide (i<(BR next b).length)with
  |false=>
   rw[e1];simp only[qZ3,TV];omega
  |true=>
   simp only[q56]at hi;simp only[qZ7];refine Nat.lt_of_le_of_lt (i4 h.len) ?_;rw[e1];simp only[TV,Ov];omega
variable {g : Nat}
theorem Ss{next:List (List Int)}{s:DS}(hne:s.way≠[]):Ju next (g+1) s=Ju next g (F6 next s):=by
 grind[Ju,F6]
theorem Wb{next:List (List Int)}{s:DS}(h:s.way=[]):Ju next g s=s:=by
 cases g with
 |zero=>rfl
 |succ g=>simp[Ju,h]
def FM(been:List Bool):DS:=BY 0 ⟨been,[]⟩
def HD(next:List (List Int))(been:List Bool):List Bool:=(Ju next (TV next (FM been)+1) (FM been)).been
def BFunc.reach(f:BFunc):List Bool:=HD f.nexts (List.replicate f.nexts.length false)
def DK(p:Int×Int):List AV:=[.int .i64 p.1,.int .i64 p.2]
structure WayIn(n:Nat)(s:DS)(es:List (List AV)):Prop where
  le:s.way.length<=es.length
  eq:es.take s.way.length=s.way.map DK
  cap:es.length+Y8 s.been<=n
def TG(b:Int)(s:DS)(es:List (List AV)):List (List AV):=bif notBeen s.been b then Dg es s.way.length (DK (b,0))else es
theorem Tl{len:Nat}{cs:List AV}:(Dg es len cs).length<=es.length+1:=by
 grind[Dg]
theorem WayIn.into{n:Nat}{s:DS}(h:WayIn n s es):WayIn n (BY b s) (TG b s es):=by
 unfold BY TG
 cases e:notBeen s.been b with
 |false=>exact h
 |true=>
  obtain⟨h1,h2,h3⟩:=E0 e;have hu:=Lf h3;simp only[qZ7];refine⟨by simpa using MH h.le,?_,?_⟩
  . show(Dg es s.way.length (DK (b,0))).take (s.way++[(b,0)]).length=_;rw[q48];simp only[q70,q84,q77,qQ0,qX9];rw[KP h.le,h.eq]
  . have:=Tl (es:=es) (len:=s.way.length) (cs:=DK (b,0));have:=h.cap;show(Dg es s.way.length (DK (b,0))).length+Y8 (s.been.set b.toNat true)<=n;omega
theorem WayIn.top{n:Nat}{s:DS}(h:WayIn n s es)(hp:s.way.getLast?=some p):es[s.way.length-1]?=some (DK p)/\0<s.way.length:=by
 have hw:=HK hp;have hpos:0<s.way.length:=by rw[hw];simp
 have h1:(es.take s.way.length)[s.way.length-1]?=es[s.way.length-1]?:=q14 z144q;rw[<-h1,h.eq,q54];rw[List.getLast?_eq_getElem?]at hp;rw[hp];exact⟨rfl,hpos⟩
theorem WayIn.seen{n:Nat}{s:DS}(h:WayIn n s es){i:Int}(hp:s.way.getLast?=some (b,i)):WayIn n ⟨s.been,s.way.dropLast++[(b,i+1)]⟩ (es.set (s.way.length-1) (DK (b,i+1))):=by
 obtain⟨h1,h2⟩:=h.top hp;have hl:(s.way.dropLast++[(b,i+1)]).length=s.way.length:=by simp;omega
 have hle:=h.le;refine⟨by simp only[hl,q83];exact hle,?_,by simpa using h.cap⟩;simp only[hl];obtain⟨m,hm⟩:∃m,s.way.length=m+1:=⟨s.way.length-1,by omega⟩
 rw[hm];simp only[Nat.add_sub_cancel];have hlt:m<es.length:=by omega
 rw[AY (q21 hlt),List.take_set_of_le (qZ0 _),q77];congr 1;have:=h.eq;rw[hm]at this;have h3:=congrArg List.dropLast this;rw[List.map_dropLast];rw[<-h3,Jv z144q];rfl
theorem WayIn.pop{n:Nat}{s:DS}(h:WayIn n s es)(hp:s.way.getLast?=some p):WayIn n ⟨s.been,s.way.dropLast⟩ es:=by
 obtain⟨h1,h2⟩:=h.top hp;have hle:=h.le;refine⟨by simp only[List.length_dropLast];omega,?_,h.cap⟩;simp only[List.length_dropLast];have h3:=congrArg List.dropLast h.eq;rw[List.map_dropLast,<-h3,Jv z144q]
def Hp(b:Int):Tac:=⟨10,0,0,0,0,b,0,0⟩
def Tac.callOk(t:Tac):Bool:=t.op !=10||(decide (0<=t.base)&&t.same (Hp t.base))
def EE(l:List Tac):List Tac:=l.filter fun t=>t.op !=10
def Block.bare(x:Block):Block:={x with ins:=EE x.ins}
def BFunc.bare(f:BFunc):BFunc:=⟨f.regs,f.blocks.map Block.bare⟩
def BFunc.stands(f:BFunc):Bool:=f.blocks.all (fun x=>x.ins.all Tac.callOk)&&(Blocks.mk 1048576 [f.bare]).right
def EC(x y:Block):Bool:=x.fin==y.fin&&(x.to==y.to&&x.els==y.els)
def vshaped(old new:BFunc):Bool:=decide (old.regs=new.regs)&&(decide (old.blocks.length=new.blocks.length)&&(old.stands&&(new.stands&&(old.blocks.zip new.blocks).all fun p=>EC p.1 p.2)))
def Y6(old new:BFunc)(c:Cert):Bool:=(old.blocks.zip new.blocks).zipIdx.all fun p=>eS old.regs.toNat p.1.1 p.1.2 c (p.2:Int) p.1.1.nexts
def Ik(old new:BFunc)(c:Cert):Bool:=vshaped old new&&(decide (c.same.length=old.blocks.length)&&((c.same.all fun r=>decide ((r.length:Int)=old.regs))&&Y6 old new c))
def Y5(f:BFunc):Cert:=⟨List.replicate f.blocks.length (List.replicate f.regs.toNat true)⟩
variable {b : Bool}
theorem H3(h:(!b)=false):b=true:=by simpa using h
theorem GV(h:(!b)=true):b=false:=by simpa using h
theorem SC{t:Tac}(h:(t.op !=10)=true):t.callOk=true:=by unfold Tac.callOk;rw[h];rfl
theorem Yt{t:Tac}(h:(t.op !=10)=false)(hb:decide (t.base<0)=false)(h2:t.same (Hp t.base)=true):t.callOk=true:=by
 grind[Tac.callOk,Hp]
variable {l : List Tac}
theorem XX{k:Nat}{t:Tac}(hx:l[k]?=some t)(h:(t.op !=10)=true):EE (l.take (k+1))=EE (l.take k)++[t]:=by
 grind[EE,AY]
theorem bZ{k:Nat}{t:Tac}(hx:l[k]?=some t)(h:(t.op !=10)=false):EE (l.take (k+1))=EE (l.take k):=by
 unfold EE;rw[AY hx,q52];simp[h]
theorem XY(l:List Tac):(EE l).length<=l.length:=List.length_filter_le _ _
theorem Nz(l:List Tac)(k:Nat):(EE (l.take k)).length<=l.length:=qX2 (XY _) Ul
theorem W9{f:BFunc}{k j:Nat}{x:Block}{t:Tac}(hx:f.blocks[k]?=some x)(ht:x.ins[j]?=some t)(h:t.callOk=false):f.stands=false:=by
 grind[BFunc.stands,D7,Block,Tac.callOk]
theorem Xa{f:BFunc}(h:f.blocks.all (fun x=>x.ins.all Tac.callOk)=true):f.stands=(Blocks.mk 1048576 [f.bare]).right:=by
 unfold BFunc.stands;rw[h];rfl
structure jF(f:BFunc):Prop where
  r0:0<=f.regs
  r1:f.regs<=4000
  ne:f.blocks.length≠0
  tacs:∀x∈f.blocks,∀t∈x.ins,Gp t.n->Nb t f.regs.toNat
  fin:∀x∈f.blocks,x.fin=1\/x.fin=2\/x.fin=3
  v:∀x∈f.blocks,x.fin=2->0<=x.v/\x.v<f.regs
  next:∀x∈f.blocks,∀k∈x.nexts,0<=k/\k<f.blocks.length
theorem Fy{f:BFunc}(h:f.stands=true):jF f:=by
 unfold BFunc.stands at h;rw[q66]at h;obtain⟨h1,h2⟩:=h;simp only[Blocks.right,q66,q56,q67]at h2;have h3:=h2.2.2.2 (f.bare,0) z145q;simp only[BFunc.one,q66,q56,q61,q10,q67,BFunc.bare,q76]at h3;obtain⟨a1,a2,a3,a4⟩:=h3;have hb:∀x∈f.blocks,x.ends f.blocks.length f.regs=true/\∀t∈EE x.ins,t.fits 0 f.regs 1048576=true:=fun x hx=>by
  have:=a4 x.bare (qX3.2 ⟨x,hx,rfl⟩);unfold Block.ok at this;rw[q66,q67]at this;exact this
 have hend:∀x∈f.blocks,(x.fin=1/\A3 x.to f.blocks.length=true)\/(x.fin=2/\A3 x.to f.blocks.length=true/\A3 x.els f.blocks.length=true/\A3 x.v f.regs=true)\/x.fin=3:=fun x hx=>by
  have he:=(hb x hx).1;unfold Block.ends at he
  cases e1:x.fin==1 with
  |true=>rw[e1]at he;simp only[qZ7,q66]at he;exact .inl ⟨by simpa using e1,he.1⟩
  |false=>
   cases e2:x.fin==2 with
   |true=>rw[e1,e2]at he;simp only[qZ7,qZ3,q66]at he;exact .inr (.inl ⟨by simpa using e2,he.1,he.2.1,he.2.2⟩)
   |false=>rw[e1,e2]at he;simp only[qZ3,q66,qZ4]at he;exact .inr (.inr he.1)
 have hw:∀{i n:Int},A3 i n=true->0<=i/\i<n:=fun {i n} h=>by simpa[A3]using h
 refine⟨q58 a1,q58 a2,fun e=>a3 (by simp[q01 e]),fun x hx t ht hn=>?_,fun x hx=>?_,fun x hx hf=>?_,fun x hx k hk=>?_⟩
 . by_cases h10:t.op=10
   . exact⟨(fun h=>by rw[h10]at h;cases h),(fun h=>by rw[h10]at h;rcases h with h|h<;>cases h),(fun h=>by rw[h10]at h;cases h),hn⟩
   . have hf:=(hb x hx).2 t (q90.2 ⟨ht,by simpa using h10⟩);have hi:=UD hf;exact⟨hi.d,hi.a,hi.b,hn⟩
 . rcases hend x hx with h|h|h
   . exact .inl h.1
   . exact .inr (.inl h.1)
   . exact .inr (.inr h)
 . rcases hend x hx with h|h|h
   . exact absurd (hf.symm.trans h.1) Aj
   . exact hw h.2.2.2
   . exact absurd (hf.symm.trans h) Aj
 . rcases hend x hx with h|h|h
   . rw[Block.nexts,show(x.fin==1)=true by simp[h.1]]at hk;simp only[qZ7,q47]at hk;rw[hk];exact hw h.2
   . rw[Block.nexts,show(x.fin==1)=false by simp[h.1],show(x.fin==2)=true by simp[h.1]]at hk;simp only[qZ7,qZ3,q99,List.not_mem_nil,or_false]at hk;rcases hk with rfl|rfl
     . exact hw h.2.1
     . exact hw h.2.2.1
   . rw[Block.nexts,show(x.fin==1)=false by simp[h],show(x.fin==2)=false by simp[h]]at hk;simp at hk
theorem nexts_short(x:Block):x.nexts.length<=100000:=by
 grind[Block.nexts]
theorem Mi{β:Type}{l:List α}{m:List β}{k:Nat}{x:α}{y:β}(hx:l[k]?=some x)(hy:m[k]?=some y):(l.zip m)[k]?=some (x,y):=by
 grind
theorem SU{old new:BFunc}(h:(old.regs !=new.regs)=true):vshaped old new=false:=by
 grind[vshaped]
theorem Us{old new:BFunc}(h:¬old.blocks.length=new.blocks.length):vshaped old new=false:=by
 grind[vshaped]
theorem WV{old new:BFunc}(h:old.stands=false):vshaped old new=false:=by unfold vshaped;rw[h];simp
theorem WU{old new:BFunc}(h:new.stands=false):vshaped old new=false:=by unfold vshaped;rw[h];simp
theorem Mk{old new:BFunc}{k:Nat}{x y:Block}(hx:old.blocks[k]?=some x)(hy:new.blocks[k]?=some y)(h:EC x y=false):vshaped old new=false:=by
 unfold vshaped;rw[D7 (Mi hx hy) (p:=fun p:Block×Block=>EC p.1 p.2) h];simp
theorem Nk{old new:BFunc}(h1:old.regs=new.regs)(h2:old.blocks.length=new.blocks.length)(h3:old.stands=true)(h4:new.stands=true)(h5:((old.blocks.zip new.blocks).all fun p=>EC p.1 p.2)=true):vshaped old new=true:=by
 grind[vshaped,EC]
theorem SV{old new:BFunc}(h:((((old.blocks.map Block.cells).length:Nat):Int) !=(((new.blocks.map Block.cells).length:Nat):Int))=true):vshaped old new=false:=
 Us (fun e=>by rw[q76,q76,e]at h;simp at h)
theorem lN{old new:BFunc}(h:((((old.blocks.map Block.cells).length:Nat):Int) !=(((new.blocks.map Block.cells).length:Nat):Int))=false):old.blocks.length=new.blocks.length:=by
 grind
theorem kQ{x y:Block}(h:(x.fin !=y.fin)=true):EC x y=false:=by
 grind[EC]
theorem kP{x y:Block}(h:(x.to !=y.to)=true):EC x y=false:=by
 grind[EC]
theorem kR{x y:Block}(h:(x.els !=y.els)=true):EC x y=false:=by
 grind[EC]
theorem kO{x y:Block}(h1:(x.fin !=y.fin)=false)(h2:(x.to !=y.to)=false)(h3:(x.els !=y.els)=false):EC x y=true:=by
 unfold EC;rw[Hq h1,Hq h2,Hq h3];simp
theorem jj{old:BFunc}{c:Cert}(h:((((c.same.map fun r=>[Cf r]).length:Nat):Int) !=(((old.blocks.map Block.cells).length:Nat):Int))=false):c.same.length=old.blocks.length:=by
 grind
structure qM(old new:BFunc):Prop where
  regs:old.regs=new.regs
  len:old.blocks.length=new.blocks.length
  so:old.stands=true
  sn:new.stands=true
  b:∀(k:Nat) (x y:Block),old.blocks[k]?=some x->new.blocks[k]?=some y->x.fin=y.fin/\x.to=y.to/\x.els=y.els
theorem Ii{old new:BFunc}(h:vshaped old new=true):qM old new:=by
 simp only[vshaped,q66,q56,q67]at h;refine⟨h.1,h.2.1,h.2.2.1,h.2.2.2.1,fun k x y hx hy=>?_⟩;have:=h.2.2.2.2 (x,y) (q33 (Mi hx hy))
 grind[EC,vshaped]
variable {P : Program} {T : Nat -> Option Av} {o : Oper} {e : Ax} {h : Ad}
end Go.Proofs.YtbbfelelocccmaaGreat.Sv
