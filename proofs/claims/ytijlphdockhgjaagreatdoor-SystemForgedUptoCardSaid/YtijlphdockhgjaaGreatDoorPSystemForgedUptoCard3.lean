/-
  THE TYPES OF THE PROGRAM, WRITTEN OUT: printed by a program of our own.
-/
import Derived.Test.YtijlphdockhgjaaGreatDoorPSystemForgedUptoCard1
import Derived.Test.YtijlphdockhgjaaGreatDoorProg
import Derived.KernelRfl
import Derived.Test.YtijlphdockhgjaaGreatDoorPSystemForgedUptoCard2
import Derived.Scope
import Derived.Lib.SliceRun
import Derived.Laws.BytesString
import Derived.Lib.ConvBytes
import Derived.WideKeyRuns
import Derived.ProofKit
import Derived.OpenShut
import Derived.SizedLaws
import Derived.Lib.LaidTab
import Derived.Stop.LaidErr
import Derived.Deep.DeepHandedRow
import Derived.MakeChecks
import Derived.Test.YtijlphdockhgjaaGreatDoorRows
set_option linter.unusedVariables false
set_option linter.unusedSimpArgs false
set_option maxRecDepth 100000
set_option maxHeartbeats 2000000
namespace Go.Proofs.YtijlphdockhgjaaGreatDoor.Sv
open Go
abbrev y4:Ae:=⟨.other,1,0,[]⟩
abbrev y3:Ae:=⟨.fn,1,8,[.val .nilFunc]⟩
abbrev yZ:Ae:=⟨.int .i64,1,8,[.int .i64 0]⟩
abbrev yA:Ae:=⟨.int .i64,1,8,[.int .i64 0]⟩
abbrev yz:Ae:=⟨.bool,1,1,[.bool false]⟩
abbrev yY:Ae:=⟨.int .u8,1,1,[.int .u8 0]⟩
abbrev yX:Ae:=⟨.int .u8,1,1,[.int .u8 0]⟩
abbrev yW:Ae:=⟨.struct [(0,2),(1,3),(2,4),(3,6)],4,24,[.int .i64 0,.int .i64 0,.bool false,.int .u8 0]⟩
abbrev yV:Ae:=⟨.struct [(0,2),(1,3),(2,4),(3,6)],4,24,[.int .i64 0,.int .i64 0,.bool false,.int .u8 0]⟩
abbrev yU:Ae:=⟨.string,1,16,[.str ⟨#[]⟩]⟩
abbrev xB:Ae:=⟨.string,1,16,[.str ⟨#[]⟩]⟩
abbrev xA:Ae:=⟨.string,1,16,[.str ⟨#[]⟩]⟩
abbrev xz:Ae:=⟨.int .u64,1,8,[.int .u64 0]⟩
abbrev xy:Ae:=⟨.struct [(0,9),(1,12)],2,24,[.str ⟨#[]⟩,.int .u64 0]⟩
abbrev xw:Ae:=⟨.struct [(0,9),(1,12)],2,24,[.str ⟨#[]⟩,.int .u64 0]⟩
abbrev xv:Ae:=⟨.ptr 424,1,8,[.nilp]⟩
abbrev xu:Ae:=⟨.ptr 427,1,8,[.nilp]⟩
abbrev xt:Ae:=⟨.ptr 435,1,8,[.nilp]⟩
abbrev xr:Ae:=⟨.struct [(0,17)],1,8,[.nilp]⟩
abbrev xq:Ae:=⟨.struct [(0,17)],1,8,[.nilp]⟩
abbrev xp:Ae:=⟨.other,1,16,[.val .nilIface]⟩
abbrev xn:Ae:=⟨.int .i32,1,4,[.int .i32 0]⟩
abbrev xm:Ae:=⟨.slice 38,1,24,[.nil]⟩
abbrev xl:Ae:=⟨.struct [(0,3),(1,22)],2,32,[.int .i64 0,.nil]⟩
abbrev xk:Ae:=⟨.struct [(0,3),(1,22)],2,32,[.int .i64 0,.nil]⟩
abbrev xj:Ae:=⟨.slice 30,1,24,[.nil]⟩
abbrev xi:Ae:=⟨.struct [(0,24),(2,24),(4,25)],5,88,[.int .i64 0,.nil,.int .i64 0,.nil,.nil]⟩
abbrev p6:Ae:=⟨.struct [(0,24),(2,24),(4,25)],5,88,[.int .i64 0,.nil,.int .i64 0,.nil,.nil]⟩
abbrev xh:Ae:=⟨.fn,1,8,[.val .nilFunc]⟩
abbrev xg:Ae:=⟨.fn,1,8,[.val .nilFunc]⟩
abbrev px:Ae:=⟨.slice 40,1,24,[.nil]⟩
abbrev xf:Ae:=⟨.fn,1,8,[.val .nilFunc]⟩
abbrev xe:Ae:=⟨.slice 279,1,24,[.nil]⟩
abbrev xd:Ae:=⟨.struct [(0,32)],1,24,[.nil]⟩
abbrev oG:Ae:=⟨.struct [(0,32)],1,24,[.nil]⟩
abbrev xc:Ae:=⟨.slice 61,1,24,[.nil]⟩
abbrev xb:Ae:=⟨.slice 67,1,24,[.nil]⟩
abbrev xa:Ae:=⟨.struct [(0,3),(1,36)],2,32,[.int .i64 0,.nil]⟩
abbrev w9:Ae:=⟨.struct [(0,3),(1,36)],2,32,[.int .i64 0,.nil]⟩
abbrev w8:Ae:=⟨.struct [(0,3),(1,34),(2,35),(3,38)],5,88,[.int .i64 0,.nil,.nil,.int .i64 0,.nil]⟩
abbrev ii:Ae:=⟨.struct [(0,3),(1,34),(2,35),(3,38)],5,88,[.int .i64 0,.nil,.nil,.int .i64 0,.nil]⟩
abbrev w7:Ae:=⟨.fn,1,8,[.val .nilFunc]⟩
abbrev wZ:Ae:=⟨.struct [(0,3),(1,9),(2,3)],3,32,[.int .i64 0,.str ⟨#[]⟩,.int .i64 0]⟩
abbrev wY:Ae:=⟨.struct [(0,3),(1,9),(2,3)],3,32,[.int .i64 0,.str ⟨#[]⟩,.int .i64 0]⟩
abbrev wX:Ae:=⟨.fn,1,8,[.val .nilFunc]⟩
abbrev wW:Ae:=⟨.fn,1,8,[.val .nilFunc]⟩
abbrev wV:Ae:=⟨.fn,1,8,[.val .nilFunc]⟩
abbrev wU:Ae:=⟨.slice 9,1,24,[.nil]⟩
abbrev wT:Ae:=⟨.slice 114,1,24,[.nil]⟩
abbrev wR:Ae:=⟨.slice 159,1,24,[.nil]⟩
abbrev wQ:Ae:=⟨.struct [(0,47),(1,48),(2,49)],3,72,[.nil,.nil,.nil]⟩
abbrev wP:Ae:=⟨.struct [(0,47),(1,48),(2,49)],3,72,[.nil,.nil,.nil]⟩
abbrev wO:Ae:=⟨.int .i64,1,8,[.int .i64 0]⟩
abbrev wM:Ae:=⟨.other,1,0,[]⟩
abbrev wL:Ae:=⟨.fn,1,8,[.val .nilFunc]⟩
abbrev wJ:Ae:=⟨.slice 80,1,24,[.nil]⟩
abbrev wI:Ae:=⟨.struct [(0,55),(1,3)],2,32,[.nil,.int .i64 0]⟩
abbrev wH:Ae:=⟨.struct [(0,55),(1,3)],2,32,[.nil,.int .i64 0]⟩
abbrev wG:Ae:=⟨.other,1,0,[]⟩
abbrev wE:Ae:=⟨.fn,1,8,[.val .nilFunc]⟩
abbrev wD:Ae:=⟨.fn,1,8,[.val .nilFunc]⟩
abbrev lF:Ae:=⟨.slice 3,1,24,[.nil]⟩
abbrev wC:Ae:=⟨.fn,1,8,[.val .nilFunc]⟩
abbrev wB:Ae:=⟨.fn,1,8,[.val .nilFunc]⟩
abbrev wA:Ae:=⟨.fn,1,8,[.val .nilFunc]⟩
abbrev wz:Ae:=⟨.slice 82,1,24,[.nil]⟩
abbrev ww:Ae:=⟨.struct [(0,65),(1,3),(2,3),(3,3),(4,3)],5,56,[.nil,.int .i64 0,.int .i64 0,.int .i64 0,.int .i64 0]⟩
abbrev wv:Ae:=⟨.struct [(0,65),(1,3),(2,3),(3,3),(4,3)],5,56,[.nil,.int .i64 0,.int .i64 0,.int .i64 0,.int .i64 0]⟩
abbrev wu:Ae:=⟨.fn,1,8,[.val .nilFunc]⟩
abbrev wt:Ae:=⟨.ptr 73,1,8,[.nilp]⟩
abbrev ws:Ae:=⟨.slice 55,1,24,[.nil]⟩
abbrev wq:Ae:=⟨.slice 5,1,24,[.nil]⟩
abbrev wo:Ae:=⟨.struct [(0,22),(1,55),(2,70),(3,9),(4,3),(5,71)],6,120,[.nil,.nil,.nil,.str ⟨#[]⟩,.int .i64 0,.nil]⟩
abbrev wn:Ae:=⟨.struct [(0,22),(1,55),(2,70),(3,9),(4,3),(5,71)],6,120,[.nil,.nil,.nil,.str ⟨#[]⟩,.int .i64 0,.nil]⟩
abbrev wm:Ae:=⟨.struct [(0,3),(1,3),(2,3),(3,55)],4,48,[.int .i64 0,.int .i64 0,.int .i64 0,.nil]⟩
abbrev wl:Ae:=⟨.struct [(0,3),(1,3),(2,3),(3,55)],4,48,[.int .i64 0,.int .i64 0,.int .i64 0,.nil]⟩
abbrev wj:Ae:=⟨.fn,1,8,[.val .nilFunc]⟩
abbrev wi:Ae:=⟨.slice 75,1,24,[.nil]⟩
abbrev wh:Ae:=⟨.ptr 67,1,8,[.nilp]⟩
abbrev wg:Ae:=⟨.ptr 82,1,8,[.nilp]⟩
abbrev we:Ae:=⟨.int .u32,1,4,[.int .u32 0]⟩
abbrev wc:Ae:=⟨.struct [(0,3),(1,3),(2,3),(3,3),(4,3),(5,3),(6,3),(7,80)],8,64,[.int .i64 0,.int .i64 0,.int .i64 0,.int .i64 0,.int .i64 0,.int .i64 0,.int .i64 0,.int .u32 0]⟩
abbrev wb:Ae:=⟨.struct [(0,3),(1,3),(2,3),(3,3),(4,3),(5,3),(6,3),(7,80)],8,64,[.int .i64 0,.int .i64 0,.int .i64 0,.int .i64 0,.int .i64 0,.int .i64 0,.int .i64 0,.int .u32 0]⟩
abbrev wa:Ae:=⟨.fn,1,8,[.val .nilFunc]⟩
abbrev v9:Ae:=⟨.other,1,0,[]⟩
abbrev v8:Ae:=⟨.fn,1,8,[.val .nilFunc]⟩
abbrev v7:Ae:=⟨.ptr 150,1,8,[.nilp]⟩
abbrev vZ:Ae:=⟨.fn,1,8,[.val .nilFunc]⟩
abbrev vY:Ae:=⟨.fn,1,8,[.val .nilFunc]⟩
abbrev vX:Ae:=⟨.fn,1,8,[.val .nilFunc]⟩
abbrev vW:Ae:=⟨.slice 174,1,24,[.nil]⟩
abbrev vV:Ae:=⟨.struct [(0,3),(1,90)],2,32,[.int .i64 0,.nil]⟩
abbrev vU:Ae:=⟨.struct [(0,3),(1,90)],2,32,[.int .i64 0,.nil]⟩
abbrev vT:Ae:=⟨.other,1,0,[]⟩
abbrev vR:Ae:=⟨.fn,1,8,[.val .nilFunc]⟩
abbrev vP:Ae:=⟨.fn,1,8,[.val .nilFunc]⟩
abbrev vO:Ae:=⟨.fn,1,8,[.val .nilFunc]⟩
abbrev vN:Ae:=⟨.slice 190,1,24,[.nil]⟩
abbrev vM:Ae:=⟨.struct [(0,3),(1,97)],2,32,[.int .i64 0,.nil]⟩
abbrev vL:Ae:=⟨.struct [(0,3),(1,97)],2,32,[.int .i64 0,.nil]⟩
abbrev tO:Ae:=⟨.fn,1,8,[.val .nilFunc]⟩
abbrev tN:Ae:=⟨.fn,1,8,[.val .nilFunc]⟩
abbrev tM:Ae:=⟨.fn,1,8,[.val .nilFunc]⟩
abbrev tL:Ae:=⟨.ptr 106,1,8,[.nilp]⟩
abbrev tK:Ae:=⟨.slice 107,1,24,[.nil]⟩
abbrev tJ:Ae:=⟨.struct [(0,51),(3,61),(4,92),(6,24),(8,57),(10,104)],11,216,[.nil,.nil,.nil,.nil,.int .i64 0,.nil,.int .i64 0,.nil,.nil,.int .i64 0,.nil]⟩
abbrev tI:Ae:=⟨.struct [(0,51),(3,61),(4,92),(6,24),(8,57),(10,104)],11,216,[.nil,.nil,.nil,.nil,.int .i64 0,.nil,.int .i64 0,.nil,.nil,.int .i64 0,.nil]⟩
abbrev tH:Ae:=⟨.fn,1,8,[.val .nilFunc]⟩
abbrev tG:Ae:=⟨.ptr 112,1,8,[.nilp]⟩
abbrev tF:Ae:=⟨.slice 120,1,24,[.nil]⟩
abbrev tE:Ae:=⟨.fn,1,8,[.val .nilFunc]⟩
abbrev tD:Ae:=⟨.struct [(0,109),(1,55),(2,70),(3,9),(4,3),(5,71),(6,3),(7,3)],8,136,[.nil,.nil,.nil,.str ⟨#[]⟩,.int .i64 0,.nil,.int .i64 0,.int .i64 0]⟩
abbrev tC:Ae:=⟨.struct [(0,109),(1,55),(2,70),(3,9),(4,3),(5,71),(6,3),(7,3)],8,136,[.nil,.nil,.nil,.str ⟨#[]⟩,.int .i64 0,.nil,.int .i64 0,.int .i64 0]⟩
abbrev tB:Ae:=⟨.struct [(0,9),(1,3)],2,24,[.str ⟨#[]⟩,.int .i64 0]⟩
abbrev tA:Ae:=⟨.struct [(0,9),(1,3)],2,24,[.str ⟨#[]⟩,.int .i64 0]⟩
abbrev tz:Ae:=⟨.struct [(0,3)],1,8,[.int .i64 0]⟩
abbrev tw:Ae:=⟨.struct [(0,3)],1,8,[.int .i64 0]⟩
abbrev tv:Ae:=⟨.ptr 120,1,8,[.nilp]⟩
abbrev tu:Ae:=⟨.slice 212,1,24,[.nil]⟩
abbrev tt:Ae:=⟨.struct [(0,3),(1,118)],2,32,[.int .i64 0,.nil]⟩
abbrev tr:Ae:=⟨.struct [(0,3),(1,118)],2,32,[.int .i64 0,.nil]⟩
abbrev tp:Ae:=⟨.other,1,0,[]⟩
abbrev tj:Ae:=⟨.fn,1,8,[.val .nilFunc]⟩
abbrev th:Ae:=⟨.array 16 80,16,64,[.int .u32 0,.int .u32 0,.int .u32 0,.int .u32 0,.int .u32 0,.int .u32 0,.int .u32 0,.int .u32 0,.int .u32 0,.int .u32 0,.int .u32 0,.int .u32 0,.int .u32 0,.int .u32 0,.int .u32 0,.int .u32 0]⟩
abbrev tg:Ae:=⟨.struct [(0,3),(1,123),(17,55),(18,3),(19,9),(20,3),(21,3)],22,136,[.int .i64 0,.int .u32 0,.int .u32 0,.int .u32 0,.int .u32 0,.int .u32 0,.int .u32 0,.int .u32 0,.int .u32 0,.int .u32 0,.int .u32 0,.int .u32 0,.int .u32 0,.int .u32 0,.int .u32 0,.int .u32 0,.int .u32 0,.nil,.int .i64 0,.str ⟨#[]⟩,.int .i64 0,.int .i64 0]⟩
abbrev tf:Ae:=⟨.struct [(0,3),(1,123),(17,55),(18,3),(19,9),(20,3),(21,3)],22,136,[.int .i64 0,.int .u32 0,.int .u32 0,.int .u32 0,.int .u32 0,.int .u32 0,.int .u32 0,.int .u32 0,.int .u32 0,.int .u32 0,.int .u32 0,.int .u32 0,.int .u32 0,.int .u32 0,.int .u32 0,.int .u32 0,.int .u32 0,.nil,.int .i64 0,.str ⟨#[]⟩,.int .i64 0,.int .i64 0]⟩
abbrev te:Ae:=⟨.fn,1,8,[.val .nilFunc]⟩
abbrev td:Ae:=⟨.fn,1,8,[.val .nilFunc]⟩
abbrev tc:Ae:=⟨.fn,1,8,[.val .nilFunc]⟩
abbrev ta:Ae:=⟨.fn,1,8,[.val .nilFunc]⟩
abbrev s9:Ae:=⟨.struct [(0,3),(1,3),(2,3),(3,3)],4,32,[.int .i64 0,.int .i64 0,.int .i64 0,.int .i64 0]⟩
abbrev s8:Ae:=⟨.struct [(0,3),(1,3),(2,3),(3,3)],4,32,[.int .i64 0,.int .i64 0,.int .i64 0,.int .i64 0]⟩
abbrev s7:Ae:=⟨.fn,1,8,[.val .nilFunc]⟩
abbrev s6:Ae:=⟨.fn,1,8,[.val .nilFunc]⟩
abbrev sZ:Ae:=⟨.other,1,16,[.val .nilIface]⟩
abbrev sY:Ae:=⟨.other,1,16,[.val .nilIface]⟩
abbrev sX:Ae:=⟨.other,1,0,[]⟩
abbrev sW:Ae:=⟨.fn,1,8,[.val .nilFunc]⟩
abbrev sV:Ae:=⟨.fn,1,8,[.val .nilFunc]⟩
abbrev sU:Ae:=⟨.fn,1,8,[.val .nilFunc]⟩
abbrev sT:Ae:=⟨.other,1,0,[]⟩
abbrev sS:Ae:=⟨.fn,1,8,[.val .nilFunc]⟩
abbrev sR:Ae:=⟨.int .u64,1,8,[.int .u64 0]⟩
abbrev sQ:Ae:=⟨.fn,1,8,[.val .nilFunc]⟩
abbrev sP:Ae:=⟨.slice 154,1,24,[.nil]⟩
abbrev sO:Ae:=⟨.other,1,0,[]⟩
abbrev sN:Ae:=⟨.fn,1,8,[.val .nilFunc]⟩
abbrev sM:Ae:=⟨.struct [(0,3)],1,8,[.int .i64 0]⟩
abbrev sK:Ae:=⟨.struct [(0,3)],1,8,[.int .i64 0]⟩
abbrev sJ:Ae:=⟨.struct [(0,144),(1,3),(2,3)],3,40,[.nil,.int .i64 0,.int .i64 0]⟩
abbrev sI:Ae:=⟨.struct [(0,144),(1,3),(2,3)],3,40,[.nil,.int .i64 0,.int .i64 0]⟩
abbrev sH:Ae:=⟨.fn,1,8,[.val .nilFunc]⟩
abbrev sG:Ae:=⟨.fn,1,8,[.val .nilFunc]⟩
abbrev sF:Ae:=⟨.struct [(0,3),(1,9),(2,80),(3,3)],4,40,[.int .i64 0,.str ⟨#[]⟩,.int .u32 0,.int .i64 0]⟩
abbrev sE:Ae:=⟨.struct [(0,3),(1,9),(2,80),(3,3)],4,40,[.int .i64 0,.str ⟨#[]⟩,.int .u32 0,.int .i64 0]⟩
abbrev sD:Ae:=⟨.fn,1,8,[.val .nilFunc]⟩
abbrev sC:Ae:=⟨.fn,1,8,[.val .nilFunc]⟩
abbrev sB:Ae:=⟨.slice 243,1,24,[.nil]⟩
abbrev sA:Ae:=⟨.struct [(0,9),(1,47),(2,47),(3,4),(4,157)],5,96,[.str ⟨#[]⟩,.nil,.nil,.bool false,.nil]⟩
abbrev sy:Ae:=⟨.struct [(0,9),(1,47),(2,47),(3,4),(4,157)],5,96,[.str ⟨#[]⟩,.nil,.nil,.bool false,.nil]⟩
abbrev sx:Ae:=⟨.fn,1,8,[.val .nilFunc]⟩
abbrev sw:Ae:=⟨.fn,1,8,[.val .nilFunc]⟩
abbrev sv:Ae:=⟨.fn,1,8,[.val .nilFunc]⟩
abbrev su:Ae:=⟨.fn,1,8,[.val .nilFunc]⟩
abbrev ss:Ae:=⟨.map 9 170,1,8,[.val (.map none)]⟩
abbrev sr:Ae:=⟨.other,1,0,[]⟩
abbrev sq:Ae:=⟨.fn,1,8,[.val .nilFunc]⟩
abbrev sm:Ae:=⟨.struct [(0,164),(1,164)],2,16,[.val (.map none),.val (.map none)]⟩
abbrev sl:Ae:=⟨.struct [(0,164),(1,164)],2,16,[.val (.map none),.val (.map none)]⟩
abbrev sk:Ae:=⟨.struct [(0,3),(1,3)],2,16,[.int .i64 0,.int .i64 0]⟩
abbrev sg:Ae:=⟨.struct [(0,3),(1,3)],2,16,[.int .i64 0,.int .i64 0]⟩
abbrev sf:Ae:=⟨.slice 250,1,24,[.nil]⟩
abbrev se:Ae:=⟨.fn,1,8,[.val .nilFunc]⟩
abbrev sd:Ae:=⟨.struct [(0,3),(1,3),(2,3),(3,4),(4,171)],5,56,[.int .i64 0,.int .i64 0,.int .i64 0,.bool false,.nil]⟩
abbrev sb:Ae:=⟨.struct [(0,3),(1,3),(2,3),(3,4),(4,171)],5,56,[.int .i64 0,.int .i64 0,.int .i64 0,.bool false,.nil]⟩
abbrev sa:Ae:=⟨.struct [(0,35),(1,61),(2,61),(3,3)],4,80,[.nil,.nil,.nil,.int .i64 0]⟩
abbrev r9:Ae:=⟨.struct [(0,35),(1,61),(2,61),(3,3)],4,80,[.nil,.nil,.nil,.int .i64 0]⟩
abbrev r8:Ae:=⟨.fn,1,8,[.val .nilFunc]⟩
abbrev rZ:Ae:=⟨.ptr 182,1,8,[.nilp]⟩
abbrev rY:Ae:=⟨.slice 185,1,24,[.nil]⟩
abbrev rX:Ae:=⟨.slice 258,1,24,[.nil]⟩
abbrev rW:Ae:=⟨.struct [(0,99),(2,176),(6,179),(7,61),(8,35),(9,180),(10,3),(11,3)],12,224,[.int .i64 0,.nil,.nil,.nil,.nil,.int .i64 0,.nil,.nil,.nil,.nil,.int .i64 0,.int .i64 0]⟩
abbrev rV:Ae:=⟨.struct [(0,99),(2,176),(6,179),(7,61),(8,35),(9,180),(10,3),(11,3)],12,224,[.int .i64 0,.nil,.nil,.nil,.nil,.int .i64 0,.nil,.nil,.nil,.nil,.int .i64 0,.int .i64 0]⟩
abbrev rU:Ae:=⟨.fn,1,8,[.val .nilFunc]⟩
abbrev rS:Ae:=⟨.struct [(0,3),(1,3),(2,3),(3,3)],4,32,[.int .i64 0,.int .i64 0,.int .i64 0,.int .i64 0]⟩
abbrev rR:Ae:=⟨.struct [(0,3),(1,3),(2,3),(3,3)],4,32,[.int .i64 0,.int .i64 0,.int .i64 0,.int .i64 0]⟩
abbrev rQ:Ae:=⟨.fn,1,8,[.val .nilFunc]⟩
abbrev rP:Ae:=⟨.slice 343,1,24,[.nil]⟩
abbrev rO:Ae:=⟨.fn,1,8,[.val .nilFunc]⟩
abbrev rN:Ae:=⟨.struct [(0,3),(1,3),(2,3),(3,4),(4,187)],5,56,[.int .i64 0,.int .i64 0,.int .i64 0,.bool false,.nil]⟩
abbrev rM:Ae:=⟨.struct [(0,3),(1,3),(2,3),(3,4),(4,187)],5,56,[.int .i64 0,.int .i64 0,.int .i64 0,.bool false,.nil]⟩
abbrev rL:Ae:=⟨.other,1,0,[]⟩
abbrev rK:Ae:=⟨.fn,1,8,[.val .nilFunc]⟩
abbrev rJ:Ae:=⟨.fn,1,8,[.val .nilFunc]⟩
abbrev rI:Ae:=⟨.slice 196,1,24,[.nil]⟩
abbrev rH:Ae:=⟨.struct [(0,61)],1,24,[.nil]⟩
abbrev rG:Ae:=⟨.struct [(0,61)],1,24,[.nil]⟩
abbrev rE:Ae:=⟨.fn,1,8,[.val .nilFunc]⟩
abbrev rD:Ae:=⟨.struct [(0,32),(1,32)],2,48,[.nil,.nil]⟩
abbrev rC:Ae:=⟨.struct [(0,32),(1,32)],2,48,[.nil,.nil]⟩
abbrev rB:Ae:=⟨.fn,1,8,[.val .nilFunc]⟩
abbrev rA:Ae:=⟨.fn,1,8,[.val .nilFunc]⟩
abbrev rz:Ae:=⟨.map 9 204,1,8,[.val (.map none)]⟩
abbrev ry:Ae:=⟨.struct [(0,4),(1,3)],2,16,[.bool false,.int .i64 0]⟩
abbrev rx:Ae:=⟨.struct [(0,4),(1,3)],2,16,[.bool false,.int .i64 0]⟩
abbrev rv:Ae:=⟨.struct [(0,202),(1,202)],2,16,[.val (.map none),.val (.map none)]⟩
abbrev ru:Ae:=⟨.struct [(0,202),(1,202)],2,16,[.val (.map none),.val (.map none)]⟩
abbrev rq:Ae:=⟨.fn,1,8,[.val .nilFunc]⟩
abbrev rp:Ae:=⟨.fn,1,8,[.val .nilFunc]⟩
abbrev ro:Ae:=⟨.ptr 212,1,8,[.nilp]⟩
abbrev rn:Ae:=⟨.slice 297,1,24,[.nil]⟩
abbrev rk:Ae:=⟨.struct [(0,3),(1,4),(2,3),(3,210),(4,118),(5,118)],6,96,[.int .i64 0,.bool false,.int .i64 0,.nil,.nil,.nil]⟩
abbrev rj:Ae:=⟨.struct [(0,3),(1,4),(2,3),(3,210),(4,118),(5,118)],6,96,[.int .i64 0,.bool false,.int .i64 0,.nil,.nil,.nil]⟩
abbrev ri:Ae:=⟨.ptr 303,1,8,[.nilp]⟩
abbrev rh:Ae:=⟨.fn,1,8,[.val .nilFunc]⟩
abbrev re:Ae:=⟨.fn,1,8,[.val .nilFunc]⟩
abbrev rc:Ae:=⟨.fn,1,8,[.val .nilFunc]⟩
abbrev ra:Ae:=⟨.fn,1,8,[.val .nilFunc]⟩
abbrev q9:Ae:=⟨.fn,1,8,[.val .nilFunc]⟩
abbrev q8:Ae:=⟨.fn,1,8,[.val .nilFunc]⟩
abbrev q7:Ae:=⟨.fn,1,8,[.val .nilFunc]⟩
abbrev q6:Ae:=⟨.fn,1,8,[.val .nilFunc]⟩
abbrev qZ:Ae:=⟨.fn,1,8,[.val .nilFunc]⟩
abbrev qY:Ae:=⟨.fn,1,8,[.val .nilFunc]⟩
abbrev qX:Ae:=⟨.struct [(0,3)],1,8,[.int .i64 0]⟩
abbrev qW:Ae:=⟨.struct [(0,3)],1,8,[.int .i64 0]⟩
abbrev qV:Ae:=⟨.fn,1,8,[.val .nilFunc]⟩
abbrev qU:Ae:=⟨.struct [(0,225),(1,226)],2,16,[.int .i64 0,.val .nilFunc]⟩
abbrev qT:Ae:=⟨.struct [(0,225),(1,226)],2,16,[.int .i64 0,.val .nilFunc]⟩
abbrev qS:Ae:=⟨.struct [(0,225)],1,8,[.int .i64 0]⟩
abbrev qR:Ae:=⟨.struct [(0,225)],1,8,[.int .i64 0]⟩
abbrev qQ:Ae:=⟨.fn,1,8,[.val .nilFunc]⟩
abbrev qP:Ae:=⟨.fn,1,8,[.val .nilFunc]⟩
abbrev qO:Ae:=⟨.fn,1,8,[.val .nilFunc]⟩
abbrev qN:Ae:=⟨.fn,1,8,[.val .nilFunc]⟩
abbrev qM:Ae:=⟨.fn,1,8,[.val .nilFunc]⟩
abbrev qL:Ae:=⟨.other,1,0,[]⟩
abbrev qK:Ae:=⟨.fn,1,8,[.val .nilFunc]⟩
abbrev qJ:Ae:=⟨.fn,1,8,[.val .nilFunc]⟩
abbrev qI:Ae:=⟨.fn,1,8,[.val .nilFunc]⟩
abbrev qH:Ae:=⟨.fn,1,8,[.val .nilFunc]⟩
abbrev qG:Ae:=⟨.slice 316,1,24,[.nil]⟩
abbrev qF:Ae:=⟨.struct [(0,3),(1,9),(2,241),(3,157),(4,157)],5,96,[.int .i64 0,.str ⟨#[]⟩,.nil,.nil,.nil]⟩
abbrev qE:Ae:=⟨.struct [(0,3),(1,9),(2,241),(3,157),(4,157)],5,96,[.int .i64 0,.str ⟨#[]⟩,.nil,.nil,.nil]⟩
abbrev qD:Ae:=⟨.fn,1,8,[.val .nilFunc]⟩
abbrev qC:Ae:=⟨.fn,1,8,[.val .nilFunc]⟩
abbrev qB:Ae:=⟨.fn,1,8,[.val .nilFunc]⟩
abbrev qA:Ae:=⟨.slice 337,1,24,[.nil]⟩
abbrev qy:Ae:=⟨.fn,1,8,[.val .nilFunc]⟩
abbrev qx:Ae:=⟨.struct [(0,3),(1,3),(2,3),(3,247),(4,171),(5,171)],6,96,[.int .i64 0,.int .i64 0,.int .i64 0,.nil,.nil,.nil]⟩
abbrev qw:Ae:=⟨.struct [(0,3),(1,3),(2,3),(3,247),(4,171),(5,171)],6,96,[.int .i64 0,.int .i64 0,.int .i64 0,.nil,.nil,.nil]⟩
abbrev qv:Ae:=⟨.other,1,0,[]⟩
abbrev qu:Ae:=⟨.fn,1,8,[.val .nilFunc]⟩
abbrev qt:Ae:=⟨.map 3 346,1,8,[.val (.map none)]⟩
abbrev qr:Ae:=⟨.fn,1,8,[.val .nilFunc]⟩
abbrev qq:Ae:=⟨.fn,1,8,[.val .nilFunc]⟩
abbrev qp:Ae:=⟨.fn,1,8,[.val .nilFunc]⟩
abbrev qo:Ae:=⟨.struct [(0,3),(1,3),(2,3)],3,24,[.int .i64 0,.int .i64 0,.int .i64 0]⟩
abbrev qm:Ae:=⟨.struct [(0,3),(1,3),(2,3)],3,24,[.int .i64 0,.int .i64 0,.int .i64 0]⟩
abbrev ql:Ae:=⟨.fn,1,8,[.val .nilFunc]⟩
abbrev qk:Ae:=⟨.int .u64,1,8,[.int .u64 0]⟩
abbrev qj:Ae:=⟨.struct [(0,4),(1,187)],2,32,[.bool false,.nil]⟩
abbrev qi:Ae:=⟨.struct [(0,4),(1,187)],2,32,[.bool false,.nil]⟩
abbrev qh:Ae:=⟨.fn,1,8,[.val .nilFunc]⟩
abbrev qg:Ae:=⟨.other,1,0,[]⟩
abbrev qf:Ae:=⟨.fn,1,8,[.val .nilFunc]⟩
abbrev qe:Ae:=⟨.ptr 268,1,8,[.nilp]⟩
abbrev p9:Ae:=⟨.struct [(0,90),(1,3),(2,4),(3,3),(4,36),(5,3)],6,80,[.nil,.int .i64 0,.bool false,.int .i64 0,.nil,.int .i64 0]⟩
abbrev p8:Ae:=⟨.struct [(0,90),(1,3),(2,4),(3,3),(4,36),(5,3)],6,80,[.nil,.int .i64 0,.bool false,.int .i64 0,.nil,.int .i64 0]⟩
abbrev p7:Ae:=⟨.fn,1,8,[.val .nilFunc]⟩
abbrev p5:Ae:=⟨.slice 272,1,24,[.nil]⟩
abbrev p4:Ae:=⟨.slice 142,1,24,[.nil]⟩
abbrev pY:Ae:=⟨.slice 142,1,24,[.nil]⟩
abbrev pX:Ae:=⟨.other,1,0,[]⟩
abbrev pW:Ae:=⟨.fn,1,8,[.val .nilFunc]⟩
abbrev pV:Ae:=⟨.fn,1,8,[.val .nilFunc]⟩
abbrev pU:Ae:=⟨.ptr 281,1,8,[.nilp]⟩
abbrev pT:Ae:=⟨.fn,1,8,[.val .nilFunc]⟩
abbrev pS:Ae:=⟨.slice 283,1,24,[.nil]⟩
abbrev fV:Ae:=⟨.slice 4,1,24,[.nil]⟩
abbrev pR:Ae:=⟨.struct [(0,35),(1,35),(2,278),(3,278),(4,278),(5,278),(6,61),(7,279)],8,192,[.nil,.nil,.nil,.nil,.nil,.nil,.nil,.nil]⟩
abbrev pQ:Ae:=⟨.struct [(0,35),(1,35),(2,278),(3,278),(4,278),(5,278),(6,61),(7,279)],8,192,[.nil,.nil,.nil,.nil,.nil,.nil,.nil,.nil]⟩
abbrev pP:Ae:=⟨.fn,1,8,[.val .nilFunc]⟩
abbrev pO:Ae:=⟨.slice 142,1,24,[.nil]⟩
abbrev pN:Ae:=⟨.fn,1,8,[.val .nilFunc]⟩
abbrev pM:Ae:=⟨.slice 370,1,24,[.nil]⟩
abbrev pL:Ae:=⟨.struct [(0,24),(2,179),(3,285),(4,61),(5,35),(6,61),(7,3),(8,3),(9,61)],10,192,[.int .i64 0,.nil,.nil,.nil,.nil,.nil,.nil,.int .i64 0,.int .i64 0,.nil]⟩
abbrev pK:Ae:=⟨.struct [(0,24),(2,179),(3,285),(4,61),(5,35),(6,61),(7,3),(8,3),(9,61)],10,192,[.int .i64 0,.nil,.nil,.nil,.nil,.nil,.nil,.int .i64 0,.int .i64 0,.nil]⟩
abbrev pJ:Ae:=⟨.fn,1,8,[.val .nilFunc]⟩
abbrev pI:Ae:=⟨.fn,1,8,[.val .nilFunc]⟩
abbrev pH:Ae:=⟨.other,1,0,[]⟩
abbrev pG:Ae:=⟨.fn,1,8,[.val .nilFunc]⟩
abbrev pF:Ae:=⟨.fn,1,8,[.val .nilFunc]⟩
abbrev pE:Ae:=⟨.fn,1,8,[.val .nilFunc]⟩
abbrev pD:Ae:=⟨.fn,1,8,[.val .nilFunc]⟩
abbrev pC:Ae:=⟨.ptr 297,1,8,[.nilp]⟩
abbrev pB:Ae:=⟨.struct [(0,3),(1,3),(2,80),(3,4),(4,3),(5,210)],6,56,[.int .i64 0,.int .i64 0,.int .u32 0,.bool false,.int .i64 0,.nil]⟩
abbrev pA:Ae:=⟨.struct [(0,3),(1,3),(2,80),(3,4),(4,3),(5,210)],6,56,[.int .i64 0,.int .i64 0,.int .u32 0,.bool false,.int .i64 0,.nil]⟩
abbrev pz:Ae:=⟨.ptr 80,1,8,[.nilp]⟩
abbrev py:Ae:=⟨.fn,1,8,[.val .nilFunc]⟩
abbrev pw:Ae:=⟨.fn,1,8,[.val .nilFunc]⟩
abbrev pt:Ae:=⟨.fn,1,8,[.val .nilFunc]⟩
abbrev pr:Ae:=⟨.struct [(0,55),(1,9),(2,125),(24,4),(25,71)],26,208,[.nil,.str ⟨#[]⟩,.int .i64 0,.int .u32 0,.int .u32 0,.int .u32 0,.int .u32 0,.int .u32 0,.int .u32 0,.int .u32 0,.int .u32 0,.int .u32 0,.int .u32 0,.int .u32 0,.int .u32 0,.int .u32 0,.int .u32 0,.int .u32 0,.int .u32 0,.nil,.int .i64 0,.str ⟨#[]⟩,.int .i64 0,.int .i64 0,.bool false,.nil]⟩
abbrev pq:Ae:=⟨.struct [(0,55),(1,9),(2,125),(24,4),(25,71)],26,208,[.nil,.str ⟨#[]⟩,.int .i64 0,.int .u32 0,.int .u32 0,.int .u32 0,.int .u32 0,.int .u32 0,.int .u32 0,.int .u32 0,.int .u32 0,.int .u32 0,.int .u32 0,.int .u32 0,.int .u32 0,.int .u32 0,.int .u32 0,.int .u32 0,.int .u32 0,.nil,.int .i64 0,.str ⟨#[]⟩,.int .i64 0,.int .i64 0,.bool false,.nil]⟩
abbrev pp:Ae:=⟨.fn,1,8,[.val .nilFunc]⟩
abbrev po:Ae:=⟨.fn,1,8,[.val .nilFunc]⟩
abbrev pn:Ae:=⟨.ptr 310,1,8,[.nilp]⟩
abbrev pm:Ae:=⟨.fn,1,8,[.val .nilFunc]⟩
abbrev pk:Ae:=⟨.slice 384,1,24,[.nil]⟩
abbrev pj:Ae:=⟨.struct [(0,38),(2,35),(3,35),(4,308),(5,32),(6,61),(7,279)],8,176,[.int .i64 0,.nil,.nil,.nil,.nil,.nil,.nil,.nil]⟩
abbrev pi:Ae:=⟨.struct [(0,38),(2,35),(3,35),(4,308),(5,32),(6,61),(7,279)],8,176,[.int .i64 0,.nil,.nil,.nil,.nil,.nil,.nil,.nil]⟩
abbrev ph:Ae:=⟨.fn,1,8,[.val .nilFunc]⟩
abbrev pg:Ae:=⟨.array 24 9,24,384,[.str ⟨#[]⟩,.str ⟨#[]⟩,.str ⟨#[]⟩,.str ⟨#[]⟩,.str ⟨#[]⟩,.str ⟨#[]⟩,.str ⟨#[]⟩,.str ⟨#[]⟩,.str ⟨#[]⟩,.str ⟨#[]⟩,.str ⟨#[]⟩,.str ⟨#[]⟩,.str ⟨#[]⟩,.str ⟨#[]⟩,.str ⟨#[]⟩,.str ⟨#[]⟩,.str ⟨#[]⟩,.str ⟨#[]⟩,.str ⟨#[]⟩,.str ⟨#[]⟩,.str ⟨#[]⟩,.str ⟨#[]⟩,.str ⟨#[]⟩,.str ⟨#[]⟩]⟩
abbrev pf:Ae:=⟨.fn,1,8,[.val .nilFunc]⟩
abbrev pe:Ae:=⟨.fn,1,8,[.val .nilFunc]⟩
abbrev pd:Ae:=⟨.struct [(0,3),(1,3),(2,80),(3,9),(4,241)],5,64,[.int .i64 0,.int .i64 0,.int .u32 0,.str ⟨#[]⟩,.nil]⟩
abbrev pc:Ae:=⟨.struct [(0,3),(1,3),(2,80),(3,9),(4,241)],5,64,[.int .i64 0,.int .i64 0,.int .u32 0,.str ⟨#[]⟩,.nil]⟩
abbrev pb:Ae:=⟨.fn,1,8,[.val .nilFunc]⟩
abbrev o9:Ae:=⟨.map 9 328,1,8,[.val (.map none)]⟩
abbrev o8:Ae:=⟨.other,1,0,[]⟩
abbrev o7:Ae:=⟨.fn,1,8,[.val .nilFunc]⟩
abbrev oZ:Ae:=⟨.fn,1,8,[.val .nilFunc]⟩
abbrev oY:Ae:=⟨.struct [(0,318),(1,318)],2,16,[.val (.map none),.val (.map none)]⟩
abbrev oX:Ae:=⟨.struct [(0,318),(1,318)],2,16,[.val (.map none),.val (.map none)]⟩
abbrev oW:Ae:=⟨.fn,1,8,[.val .nilFunc]⟩
abbrev oV:Ae:=⟨.struct [(0,3),(1,9),(2,3)],3,32,[.int .i64 0,.str ⟨#[]⟩,.int .i64 0]⟩
abbrev oU:Ae:=⟨.struct [(0,3),(1,9),(2,3)],3,32,[.int .i64 0,.str ⟨#[]⟩,.int .i64 0]⟩
abbrev oT:Ae:=⟨.struct [(0,3),(1,3)],2,16,[.int .i64 0,.int .i64 0]⟩
abbrev oS:Ae:=⟨.struct [(0,3),(1,3)],2,16,[.int .i64 0,.int .i64 0]⟩
abbrev oR:Ae:=⟨.fn,1,8,[.val .nilFunc]⟩
abbrev oQ:Ae:=⟨.fn,1,8,[.val .nilFunc]⟩
abbrev oP:Ae:=⟨.ptr 402,1,8,[.nilp]⟩
abbrev oO:Ae:=⟨.fn,1,8,[.val .nilFunc]⟩
abbrev oN:Ae:=⟨.fn,1,8,[.val .nilFunc]⟩
abbrev oM:Ae:=⟨.fn,1,8,[.val .nilFunc]⟩
abbrev oL:Ae:=⟨.other,1,0,[]⟩
abbrev oK:Ae:=⟨.struct [(0,3),(1,3),(2,80),(3,3),(4,3),(5,247)],6,64,[.int .i64 0,.int .i64 0,.int .u32 0,.int .i64 0,.int .i64 0,.nil]⟩
abbrev oJ:Ae:=⟨.struct [(0,3),(1,3),(2,80),(3,3),(4,3),(5,247)],6,64,[.int .i64 0,.int .i64 0,.int .u32 0,.int .i64 0,.int .i64 0,.nil]⟩
abbrev oI:Ae:=⟨.struct [(0,61)],1,24,[.nil]⟩
abbrev oH:Ae:=⟨.struct [(0,61)],1,24,[.nil]⟩
abbrev oF:Ae:=⟨.other,1,0,[]⟩
abbrev oE:Ae:=⟨.fn,1,8,[.val .nilFunc]⟩
abbrev oD:Ae:=⟨.struct [(0,3),(1,3),(2,3),(3,80)],4,32,[.int .i64 0,.int .i64 0,.int .i64 0,.int .u32 0]⟩
abbrev oC:Ae:=⟨.struct [(0,3),(1,3),(2,3),(3,80)],4,32,[.int .i64 0,.int .i64 0,.int .i64 0,.int .u32 0]⟩
abbrev oB:Ae:=⟨.fn,1,8,[.val .nilFunc]⟩
abbrev oA:Ae:=⟨.fn,1,8,[.val .nilFunc]⟩
abbrev oz:Ae:=⟨.fn,1,8,[.val .nilFunc]⟩
abbrev oy:Ae:=⟨.fn,1,8,[.val .nilFunc]⟩
abbrev ov:Ae:=⟨.struct [(0,9),(1,4),(2,4),(3,3)],4,32,[.str ⟨#[]⟩,.bool false,.bool false,.int .i64 0]⟩
abbrev ou:Ae:=⟨.struct [(0,9),(1,4),(2,4),(3,3)],4,32,[.str ⟨#[]⟩,.bool false,.bool false,.int .i64 0]⟩
abbrev oo:Ae:=⟨.fn,1,8,[.val .nilFunc]⟩
abbrev om:Ae:=⟨.fn,1,8,[.val .nilFunc]⟩
abbrev ol:Ae:=⟨.ptr 262,1,8,[.nilp]⟩
abbrev oh:Ae:=⟨.fn,1,8,[.val .nilFunc]⟩
abbrev og:Ae:=⟨.ptr 250,1,8,[.nilp]⟩
abbrev oe:Ae:=⟨.fn,1,8,[.val .nilFunc]⟩
abbrev od:Ae:=⟨.other,1,0,[]⟩
abbrev oc:Ae:=⟨.fn,1,8,[.val .nilFunc]⟩
abbrev n9:Ae:=⟨.fn,1,8,[.val .nilFunc]⟩
abbrev n8:Ae:=⟨.fn,1,8,[.val .nilFunc]⟩
abbrev n7:Ae:=⟨.fn,1,8,[.val .nilFunc]⟩
abbrev n6:Ae:=⟨.fn,1,8,[.val .nilFunc]⟩
abbrev n5:Ae:=⟨.fn,1,8,[.val .nilFunc]⟩
abbrev n4:Ae:=⟨.fn,1,8,[.val .nilFunc]⟩
abbrev n3:Ae:=⟨.other,1,0,[]⟩
abbrev nZ:Ae:=⟨.fn,1,8,[.val .nilFunc]⟩
abbrev nY:Ae:=⟨.fn,1,8,[.val .nilFunc]⟩
abbrev nX:Ae:=⟨.ptr 287,1,8,[.nilp]⟩
abbrev nW:Ae:=⟨.fn,1,8,[.val .nilFunc]⟩
abbrev nV:Ae:=⟨.struct [(0,3),(1,3),(2,3)],3,24,[.int .i64 0,.int .i64 0,.int .i64 0]⟩
abbrev nU:Ae:=⟨.struct [(0,3),(1,3),(2,3)],3,24,[.int .i64 0,.int .i64 0,.int .i64 0]⟩
abbrev nT:Ae:=⟨.other,1,0,[]⟩
abbrev nS:Ae:=⟨.other,1,0,[]⟩
abbrev nR:Ae:=⟨.fn,1,8,[.val .nilFunc]⟩
abbrev nQ:Ae:=⟨.fn,1,8,[.val .nilFunc]⟩
abbrev nP:Ae:=⟨.map 3 80,1,8,[.val (.map none)]⟩
abbrev nO:Ae:=⟨.fn,1,8,[.val .nilFunc]⟩
abbrev nN:Ae:=⟨.slice 416,1,24,[.nil]⟩
abbrev nM:Ae:=⟨.struct [(0,61),(1,377)],2,48,[.nil,.nil]⟩
abbrev nL:Ae:=⟨.struct [(0,61),(1,377)],2,48,[.nil,.nil]⟩
abbrev nK:Ae:=⟨.struct [(0,3),(1,4),(2,4)],3,16,[.int .i64 0,.bool false,.bool false]⟩
abbrev nJ:Ae:=⟨.struct [(0,3),(1,4),(2,4)],3,16,[.int .i64 0,.bool false,.bool false]⟩
abbrev nI:Ae:=⟨.ptr 381,1,8,[.nilp]⟩
abbrev nH:Ae:=⟨.fn,1,8,[.val .nilFunc]⟩
abbrev nG:Ae:=⟨.slice 387,1,24,[.nil]⟩
abbrev nF:Ae:=⟨.slice 381,1,24,[.nil]⟩
abbrev nE:Ae:=⟨.struct [(0,3),(1,385)],2,32,[.int .i64 0,.nil]⟩
abbrev nD:Ae:=⟨.struct [(0,3),(1,385)],2,32,[.int .i64 0,.nil]⟩
abbrev nC:Ae:=⟨.fn,1,8,[.val .nilFunc]⟩
abbrev nB:Ae:=⟨.fn,1,8,[.val .nilFunc]⟩
abbrev nA:Ae:=⟨.fn,1,8,[.val .nilFunc]⟩
abbrev nz:Ae:=⟨.fn,1,8,[.val .nilFunc]⟩
abbrev ny:Ae:=⟨.array 10 9,10,160,[.str ⟨#[]⟩,.str ⟨#[]⟩,.str ⟨#[]⟩,.str ⟨#[]⟩,.str ⟨#[]⟩,.str ⟨#[]⟩,.str ⟨#[]⟩,.str ⟨#[]⟩,.str ⟨#[]⟩,.str ⟨#[]⟩]⟩
abbrev nx:Ae:=⟨.other,1,0,[]⟩
abbrev nv:Ae:=⟨.fn,1,8,[.val .nilFunc]⟩
abbrev nu:Ae:=⟨.fn,1,8,[.val .nilFunc]⟩
abbrev nt:Ae:=⟨.fn,1,8,[.val .nilFunc]⟩
abbrev nr:Ae:=⟨.fn,1,8,[.val .nilFunc]⟩
abbrev nq:Ae:=⟨.map 9 159,1,8,[.val (.map none)]⟩
abbrev np:Ae:=⟨.fn,1,8,[.val .nilFunc]⟩
abbrev nm:Ae:=⟨.array 10 399,10,80,[.val .nilFunc,.val .nilFunc,.val .nilFunc,.val .nilFunc,.val .nilFunc,.val .nilFunc,.val .nilFunc,.val .nilFunc,.val .nilFunc,.val .nilFunc]⟩
abbrev nl:Ae:=⟨.struct [(0,398),(1,400)],11,88,[.val (.map none),.val .nilFunc,.val .nilFunc,.val .nilFunc,.val .nilFunc,.val .nilFunc,.val .nilFunc,.val .nilFunc,.val .nilFunc,.val .nilFunc,.val .nilFunc]⟩
abbrev nj:Ae:=⟨.struct [(0,398),(1,400)],11,88,[.val (.map none),.val .nilFunc,.val .nilFunc,.val .nilFunc,.val .nilFunc,.val .nilFunc,.val .nilFunc,.val .nilFunc,.val .nilFunc,.val .nilFunc,.val .nilFunc]⟩
abbrev nh:Ae:=⟨.other,1,0,[]⟩
abbrev ng:Ae:=⟨.ptr 339,1,8,[.nilp]⟩
abbrev na:Ae:=⟨.fn,1,8,[.val .nilFunc]⟩
abbrev m9:Ae:=⟨.fn,1,8,[.val .nilFunc]⟩
abbrev m8:Ae:=⟨.ptr 337,1,8,[.nilp]⟩
abbrev m7:Ae:=⟨.fn,1,8,[.val .nilFunc]⟩
abbrev m6:Ae:=⟨.fn,1,8,[.val .nilFunc]⟩
abbrev m5:Ae:=⟨.fn,1,8,[.val .nilFunc]⟩
abbrev m4:Ae:=⟨.fn,1,8,[.val .nilFunc]⟩
abbrev mZ:Ae:=⟨.fn,1,8,[.val .nilFunc]⟩
abbrev mY:Ae:=⟨.ptr 123,1,8,[.nilp]⟩
abbrev mX:Ae:=⟨.fn,1,8,[.val .nilFunc]⟩
abbrev mW:Ae:=⟨.ptr 379,1,8,[.nilp]⟩
abbrev mV:Ae:=⟨.map 3 4,1,8,[.val (.map none)]⟩
abbrev mU:Ae:=⟨.ptr 387,1,8,[.nilp]⟩
abbrev mS:Ae:=⟨.fn,1,8,[.val .nilFunc]⟩
abbrev mR:Ae:=⟨.other,1,0,[]⟩
abbrev mQ:Ae:=⟨.fn,1,8,[.val .nilFunc]⟩
abbrev mP:Ae:=⟨.fn,1,8,[.val .nilFunc]⟩
abbrev mO:Ae:=⟨.fn,1,8,[.val .nilFunc]⟩
abbrev mN:Ae:=⟨.struct [(0,17),(1,17),(2,17),(3,9)],4,40,[.nilp,.nilp,.nilp,.str ⟨#[]⟩]⟩
abbrev mM:Ae:=⟨.struct [(0,17),(1,17),(2,17),(3,9)],4,40,[.nilp,.nilp,.nilp,.str ⟨#[]⟩]⟩
abbrev mL:Ae:=⟨.array 0 16,0,0,[]⟩
abbrev mK:Ae:=⟨.other,0,0,[]⟩
abbrev mJ:Ae:=⟨.other,0,0,[]⟩
abbrev mI:Ae:=⟨.int .u8,1,1,[.int .u8 0]⟩
abbrev mH:Ae:=⟨.int .u8,1,1,[.int .u8 0]⟩
abbrev mG:Ae:=⟨.fn,1,8,[.val .nilFunc]⟩
abbrev mD:Ae:=⟨.ptr 5,1,8,[.nilp]⟩
abbrev mC:Ae:=⟨.int .i32,1,4,[.int .i32 0]⟩
abbrev mB:Ae:=⟨.int .i32,1,4,[.int .i32 0]⟩
abbrev mA:Ae:=⟨.struct [(0,12),(1,12),(2,80),(3,428),(4,5),(5,5),(6,429),(7,430),(8,431),(9,432),(10,433)],11,48,[.int .u64 0,.int .u64 0,.int .u32 0,.int .u8 0,.int .u8 0,.int .u8 0,.int .u8 0,.val .nilFunc,.nilp,.int .i32 0,.int .i32 0]⟩
abbrev mz:Ae:=⟨.struct [(0,12),(1,12),(2,80),(3,428),(4,5),(5,5),(6,429),(7,430),(8,431),(9,432),(10,433)],11,48,[.int .u64 0,.int .u64 0,.int .u32 0,.int .u8 0,.int .u8 0,.int .u8 0,.int .u8 0,.val .nilFunc,.nilp,.int .i32 0,.int .i32 0]⟩
abbrev my:Ae:=⟨.fn,1,8,[.val .nilFunc]⟩
abbrev mw:Ae:=⟨.fn,1,8,[.val .nilFunc]⟩
abbrev mv:Ae:=⟨.other,1,0,[]⟩
abbrev mu:Ae:=⟨.fn,1,8,[.val .nilFunc]⟩
abbrev mr:Ae:=⟨.fn,1,8,[.val .nilFunc]⟩
abbrev mq:Ae:=⟨.fn,1,8,[.val .nilFunc]⟩
abbrev mo:Ae:=⟨.ptr 446,1,8,[.nilp]⟩
abbrev mn:Ae:=⟨.map 456 3,1,8,[.val (.map none)]⟩
abbrev mm:Ae:=⟨.slice 456,1,24,[.nil]⟩
abbrev ml:Ae:=⟨.struct [(0,3),(1,443),(2,444)],3,40,[.int .i64 0,.val (.map none),.nil]⟩
abbrev mj:Ae:=⟨.struct [(0,3),(1,443),(2,444)],3,40,[.int .i64 0,.val (.map none),.nil]⟩
abbrev mi:Ae:=⟨.slice 452,1,24,[.nil]⟩
abbrev mh:Ae:=⟨.struct [(0,442),(1,61),(2,447),(3,3)],4,64,[.nilp,.nil,.nil,.int .i64 0]⟩
abbrev mg:Ae:=⟨.struct [(0,442),(1,61),(2,447),(3,3)],4,64,[.nilp,.nil,.nil,.int .i64 0]⟩
abbrev mf:Ae:=⟨.fn,1,8,[.val .nilFunc]⟩
abbrev me:Ae:=⟨.array 6 3,6,48,[.int .i64 0,.int .i64 0,.int .i64 0,.int .i64 0,.int .i64 0,.int .i64 0]⟩
abbrev md:Ae:=⟨.array 6 3,6,48,[.int .i64 0,.int .i64 0,.int .i64 0,.int .i64 0,.int .i64 0,.int .i64 0]⟩
abbrev mc:Ae:=⟨.ptr 449,1,8,[.nilp]⟩
abbrev mb:Ae:=⟨.fn,1,8,[.val .nilFunc]⟩
abbrev ma:Ae:=⟨.array 4 3,4,32,[.int .i64 0,.int .i64 0,.int .i64 0,.int .i64 0]⟩
abbrev l9:Ae:=⟨.array 4 3,4,32,[.int .i64 0,.int .i64 0,.int .i64 0,.int .i64 0]⟩
abbrev l8:Ae:=⟨.fn,1,8,[.val .nilFunc]⟩
abbrev l7:Ae:=⟨.fn,1,8,[.val .nilFunc]⟩
abbrev lZ:Ae:=⟨.fn,1,8,[.val .nilFunc]⟩
abbrev lY:Ae:=⟨.fn,1,8,[.val .nilFunc]⟩
abbrev lX:Ae:=⟨.other,1,0,[]⟩
abbrev lW:Ae:=⟨.fn,1,8,[.val .nilFunc]⟩
abbrev lV:Ae:=⟨.fn,1,8,[.val .nilFunc]⟩
abbrev lU:Ae:=⟨.fn,1,8,[.val .nilFunc]⟩
abbrev lT:Ae:=⟨.fn,1,8,[.val .nilFunc]⟩
abbrev lS:Ae:=⟨.fn,1,8,[.val .nilFunc]⟩
abbrev lR:Ae:=⟨.other,1,0,[]⟩
abbrev lQ:Ae:=⟨.fn,1,8,[.val .nilFunc]⟩
abbrev lP:Ae:=⟨.fn,1,8,[.val .nilFunc]⟩
abbrev lO:Ae:=⟨.fn,1,8,[.val .nilFunc]⟩
abbrev lM:Ae:=⟨.fn,1,8,[.val .nilFunc]⟩
abbrev lL:Ae:=⟨.fn,1,8,[.val .nilFunc]⟩
abbrev lK:Ae:=⟨.slice 475,1,24,[.nil]⟩
abbrev lJ:Ae:=⟨.struct [(0,3),(1,3)],2,16,[.int .i64 0,.int .i64 0]⟩
abbrev lI:Ae:=⟨.struct [(0,3),(1,3)],2,16,[.int .i64 0,.int .i64 0]⟩
abbrev lH:Ae:=⟨.ptr 475,1,8,[.nilp]⟩
abbrev lG:Ae:=⟨.other,1,8,[.nilp]⟩
def TI(t:Nat):Option Ae:=bif Nat.blt t 478 then(bif Nat.blt t 239 then(bif Nat.blt t 119 then(bif Nat.blt t 59 then(bif Nat.blt t 29 then(bif Nat.blt t 14 then(bif Nat.blt t 7 then(bif Nat.blt t 3 then(bif Nat.blt t 1 then some y4 else(bif Nat.blt t 2 then some y3 else some yZ))else(bif Nat.blt t 5 then(bif Nat.blt t 4 then some yA else some yz)else(bif Nat.blt t 6 then some yY else some yX)))else(bif Nat.blt t 10 then(bif Nat.blt t 8 then some yW else(bif Nat.blt t 9 then some yV else some yU))else(bif Nat.blt t 12 then(bif Nat.blt t 11 then some xB else some xA)else(bif Nat.blt t 13 then some xz else some xy))))else(bif Nat.blt t 21 then(bif Nat.blt t 17 then(bif Nat.blt t 15 then some xw else(bif Nat.blt t 16 then some xv else some xu))else(bif Nat.blt t 19 then(bif Nat.blt t 18 then some xt else some xr)else(bif Nat.blt t 20 then some xq else some xp)))else(bif Nat.blt t 25 then(bif Nat.blt t 23 then(bif Nat.blt t 22 then some xn else some xm)else(bif Nat.blt t 24 then some xl else some xk))else(bif Nat.blt t 27 then(bif Nat.blt t 26 then some xj else some xi)else(bif Nat.blt t 28 then some p6 else some xh)))))else(bif Nat.blt t 44 then(bif Nat.blt t 36 then(bif Nat.blt t 32 then(bif Nat.blt t 30 then some xg else(bif Nat.blt t 31 then some px else some xf))else(bif Nat.blt t 34 then(bif Nat.blt t 33 then some xe else some xd)else(bif Nat.blt t 35 then some oG else some xc)))else(bif Nat.blt t 40 then(bif Nat.blt t 38 then(bif Nat.blt t 37 then some xb else some xa)else(bif Nat.blt t 39 then some w9 else some w8))else(bif Nat.blt t 42 then(bif Nat.blt t 41 then some ii else some w7)else(bif Nat.blt t 43 then some wZ else some wY))))else(bif Nat.blt t 51 then(bif Nat.blt t 47 then(bif Nat.blt t 45 then some wX else(bif Nat.blt t 46 then some wW else some wV))else(bif Nat.blt t 49 then(bif Nat.blt t 48 then some wU else some wT)else(bif Nat.blt t 50 then some wR else some wQ)))else(bif Nat.blt t 55 then(bif Nat.blt t 53 then(bif Nat.blt t 52 then some wP else some wO)else(bif Nat.blt t 54 then some wM else some wL))else(bif Nat.blt t 57 then(bif Nat.blt t 56 then some wJ else some wI)else(bif Nat.blt t 58 then some wH else some wG))))))else(bif Nat.blt t 89 then(bif Nat.blt t 74 then(bif Nat.blt t 66 then(bif Nat.blt t 62 then(bif Nat.blt t 60 then some wE else(bif Nat.blt t 61 then some wD else some lF))else(bif Nat.blt t 64 then(bif Nat.blt t 63 then some wC else some wB)else(bif Nat.blt t 65 then some wA else some wz)))else(bif Nat.blt t 70 then(bif Nat.blt t 68 then(bif Nat.blt t 67 then some ww else some wv)else(bif Nat.blt t 69 then some wu else some wt))else(bif Nat.blt t 72 then(bif Nat.blt t 71 then some ws else some wq)else(bif Nat.blt t 73 then some wo else some wn))))else(bif Nat.blt t 81 then(bif Nat.blt t 77 then(bif Nat.blt t 75 then some wm else(bif Nat.blt t 76 then some wl else some wj))else(bif Nat.blt t 79 then(bif Nat.blt t 78 then some wi else some wh)else(bif Nat.blt t 80 then some wg else some we)))else(bif Nat.blt t 85 then(bif Nat.blt t 83 then(bif Nat.blt t 82 then some wc else some wb)else(bif Nat.blt t 84 then some wa else some v9))else(bif Nat.blt t 87 then(bif Nat.blt t 86 then some v8 else some v7)else(bif Nat.blt t 88 then some vZ else some vY)))))else(bif Nat.blt t 104 then(bif Nat.blt t 96 then(bif Nat.blt t 92 then(bif Nat.blt t 90 then some vX else(bif Nat.blt t 91 then some vW else some vV))else(bif Nat.blt t 94 then(bif Nat.blt t 93 then some vU else some vT)else(bif Nat.blt t 95 then some vR else some vP)))else(bif Nat.blt t 100 then(bif Nat.blt t 98 then(bif Nat.blt t 97 then some vO else some vN)else(bif Nat.blt t 99 then some vM else some vL))else(bif Nat.blt t 102 then(bif Nat.blt t 101 then some tO else some tN)else(bif Nat.blt t 103 then some tM else some tL))))else(bif Nat.blt t 111 then(bif Nat.blt t 107 then(bif Nat.blt t 105 then some tK else(bif Nat.blt t 106 then some tJ else some tI))else(bif Nat.blt t 109 then(bif Nat.blt t 108 then some tH else some tG)else(bif Nat.blt t 110 then some tF else some tE)))else(bif Nat.blt t 115 then(bif Nat.blt t 113 then(bif Nat.blt t 112 then some tD else some tC)else(bif Nat.blt t 114 then some tB else some tA))else(bif Nat.blt t 117 then(bif Nat.blt t 116 then some tz else some tw)else(bif Nat.blt t 118 then some tv else some tu)))))))else(bif Nat.blt t 179 then(bif Nat.blt t 149 then(bif Nat.blt t 134 then(bif Nat.blt t 126 then(bif Nat.blt t 122 then(bif Nat.blt t 120 then some tt else(bif Nat.blt t 121 then some tr else some tp))else(bif Nat.blt t 124 then(bif Nat.blt t 123 then some tj else some th)else(bif Nat.blt t 125 then some tg else some tf)))else(bif Nat.blt t 130 then(bif Nat.blt t 128 then(bif Nat.blt t 127 then some te else some td)else(bif Nat.blt t 129 then some tc else some ta))else(bif Nat.blt t 132 then(bif Nat.blt t 131 then some s9 else some s8)else(bif Nat.blt t 133 then some s7 else some s6))))else(bif Nat.blt t 141 then(bif Nat.blt t 137 then(bif Nat.blt t 135 then some sZ else(bif Nat.blt t 136 then some sY else some sX))else(bif Nat.blt t 139 then(bif Nat.blt t 138 then some sW else some sV)else(bif Nat.blt t 140 then some sU else some sT)))else(bif Nat.blt t 145 then(bif Nat.blt t 143 then(bif Nat.blt t 142 then some sS else some sR)else(bif Nat.blt t 144 then some sQ else some sP))else(bif Nat.blt t 147 then(bif Nat.blt t 146 then some sO else some sN)else(bif Nat.blt t 148 then some sM else some sK)))))else(bif Nat.blt t 164 then(bif Nat.blt t 156 then(bif Nat.blt t 152 then(bif Nat.blt t 150 then some sJ else(bif Nat.blt t 151 then some sI else some sH))else(bif Nat.blt t 154 then(bif Nat.blt t 153 then some sG else some sF)else(bif Nat.blt t 155 then some sE else some sD)))else(bif Nat.blt t 160 then(bif Nat.blt t 158 then(bif Nat.blt t 157 then some sC else some sB)else(bif Nat.blt t 159 then some sA else some sy))else(bif Nat.blt t 162 then(bif Nat.blt t 161 then some sx else some sw)else(bif Nat.blt t 163 then some sv else some su))))else(bif Nat.blt t 171 then(bif Nat.blt t 167 then(bif Nat.blt t 165 then some ss else(bif Nat.blt t 166 then some sr else some sq))else(bif Nat.blt t 169 then(bif Nat.blt t 168 then some sm else some sl)else(bif Nat.blt t 170 then some sk else some sg)))else(bif Nat.blt t 175 then(bif Nat.blt t 173 then(bif Nat.blt t 172 then some sf else some se)else(bif Nat.blt t 174 then some sd else some sb))else(bif Nat.blt t 177 then(bif Nat.blt t 176 then some sa else some r9)else(bif Nat.blt t 178 then some r8 else some rZ))))))else(bif Nat.blt t 209 then(bif Nat.blt t 194 then(bif Nat.blt t 186 then(bif Nat.blt t 182 then(bif Nat.blt t 180 then some rY else(bif Nat.blt t 181 then some rX else some rW))else(bif Nat.blt t 184 then(bif Nat.blt t 183 then some rV else some rU)else(bif Nat.blt t 185 then some rS else some rR)))else(bif Nat.blt t 190 then(bif Nat.blt t 188 then(bif Nat.blt t 187 then some rQ else some rP)else(bif Nat.blt t 189 then some rO else some rN))else(bif Nat.blt t 192 then(bif Nat.blt t 191 then some rM else some rL)else(bif Nat.blt t 193 then some rK else some rJ))))else(bif Nat.blt t 201 then(bif Nat.blt t 197 then(bif Nat.blt t 195 then some rI else(bif Nat.blt t 196 then some rH else some rG))else(bif Nat.blt t 199 then(bif Nat.blt t 198 then some rE else some rD)else(bif Nat.blt t 200 then some rC else some rB)))else(bif Nat.blt t 205 then(bif Nat.blt t 203 then(bif Nat.blt t 202 then some rA else some rz)else(bif Nat.blt t 204 then some ry else some rx))else(bif Nat.blt t 207 then(bif Nat.blt t 206 then some rv else some ru)else(bif Nat.blt t 208 then some rq else some rp)))))else(bif Nat.blt t 224 then(bif Nat.blt t 216 then(bif Nat.blt t 212 then(bif Nat.blt t 210 then some ro else(bif Nat.blt t 211 then some rn else some rk))else(bif Nat.blt t 214 then(bif Nat.blt t 213 then some rj else some ri)else(bif Nat.blt t 215 then some rh else some re)))else(bif Nat.blt t 220 then(bif Nat.blt t 218 then(bif Nat.blt t 217 then some rc else some ra)else(bif Nat.blt t 219 then some q9 else some q8))else(bif Nat.blt t 222 then(bif Nat.blt t 221 then some q7 else some q6)else(bif Nat.blt t 223 then some qZ else some qY))))else(bif Nat.blt t 231 then(bif Nat.blt t 227 then(bif Nat.blt t 225 then some qX else(bif Nat.blt t 226 then some qW else some qV))else(bif Nat.blt t 229 then(bif Nat.blt t 228 then some qU else some qT)else(bif Nat.blt t 230 then some qS else some qR)))else(bif Nat.blt t 235 then(bif Nat.blt t 233 then(bif Nat.blt t 232 then some qQ else some qP)else(bif Nat.blt t 234 then some qO else some qN))else(bif Nat.blt t 237 then(bif Nat.blt t 236 then some qM else some qL)else(bif Nat.blt t 238 then some qK else some qJ))))))))else(bif Nat.blt t 358 then(bif Nat.blt t 298 then(bif Nat.blt t 268 then(bif Nat.blt t 253 then(bif Nat.blt t 246 then(bif Nat.blt t 242 then(bif Nat.blt t 240 then some qI else(bif Nat.blt t 241 then some qH else some qG))else(bif Nat.blt t 244 then(bif Nat.blt t 243 then some qF else some qE)else(bif Nat.blt t 245 then some qD else some qC)))else(bif Nat.blt t 249 then(bif Nat.blt t 247 then some qB else(bif Nat.blt t 248 then some qA else some qy))else(bif Nat.blt t 251 then(bif Nat.blt t 250 then some qx else some qw)else(bif Nat.blt t 252 then some qv else some qu))))else(bif Nat.blt t 260 then(bif Nat.blt t 256 then(bif Nat.blt t 254 then some qt else(bif Nat.blt t 255 then some qr else some qq))else(bif Nat.blt t 258 then(bif Nat.blt t 257 then some qp else some qo)else(bif Nat.blt t 259 then some qm else some ql)))else(bif Nat.blt t 264 then(bif Nat.blt t 262 then(bif Nat.blt t 261 then some qk else some qj)else(bif Nat.blt t 263 then some qi else some qh))else(bif Nat.blt t 266 then(bif Nat.blt t 265 then some qg else some qf)else(bif Nat.blt t 267 then some qe else some p9)))))else(bif Nat.blt t 283 then(bif Nat.blt t 275 then(bif Nat.blt t 271 then(bif Nat.blt t 269 then some p8 else(bif Nat.blt t 270 then some p7 else some p5))else(bif Nat.blt t 273 then(bif Nat.blt t 272 then some p4 else some pY)else(bif Nat.blt t 274 then some pX else some pW)))else(bif Nat.blt t 279 then(bif Nat.blt t 277 then(bif Nat.blt t 276 then some pV else some pU)else(bif Nat.blt t 278 then some pT else some pS))else(bif Nat.blt t 281 then(bif Nat.blt t 280 then some fV else some pR)else(bif Nat.blt t 282 then some pQ else some pP))))else(bif Nat.blt t 290 then(bif Nat.blt t 286 then(bif Nat.blt t 284 then some pO else(bif Nat.blt t 285 then some pN else some pM))else(bif Nat.blt t 288 then(bif Nat.blt t 287 then some pL else some pK)else(bif Nat.blt t 289 then some pJ else some pI)))else(bif Nat.blt t 294 then(bif Nat.blt t 292 then(bif Nat.blt t 291 then some pH else some pG)else(bif Nat.blt t 293 then some pF else some pE))else(bif Nat.blt t 296 then(bif Nat.blt t 295 then some pD else some pC)else(bif Nat.blt t 297 then some pB else some pA))))))else(bif Nat.blt t 328 then(bif Nat.blt t 313 then(bif Nat.blt t 305 then(bif Nat.blt t 301 then(bif Nat.blt t 299 then some pz else(bif Nat.blt t 300 then some py else some pw))else(bif Nat.blt t 303 then(bif Nat.blt t 302 then some pt else some pr)else(bif Nat.blt t 304 then some pq else some pp)))else(bif Nat.blt t 309 then(bif Nat.blt t 307 then(bif Nat.blt t 306 then some po else some pn)else(bif Nat.blt t 308 then some pm else some pk))else(bif Nat.blt t 311 then(bif Nat.blt t 310 then some pj else some pi)else(bif Nat.blt t 312 then some ph else some pg))))else(bif Nat.blt t 320 then(bif Nat.blt t 316 then(bif Nat.blt t 314 then some pf else(bif Nat.blt t 315 then some pe else some pd))else(bif Nat.blt t 318 then(bif Nat.blt t 317 then some pc else some pb)else(bif Nat.blt t 319 then some o9 else some o8)))else(bif Nat.blt t 324 then(bif Nat.blt t 322 then(bif Nat.blt t 321 then some o7 else some oZ)else(bif Nat.blt t 323 then some oY else some oX))else(bif Nat.blt t 326 then(bif Nat.blt t 325 then some oW else some oV)else(bif Nat.blt t 327 then some oU else some oT)))))else(bif Nat.blt t 343 then(bif Nat.blt t 335 then(bif Nat.blt t 331 then(bif Nat.blt t 329 then some oS else(bif Nat.blt t 330 then some oR else some oQ))else(bif Nat.blt t 333 then(bif Nat.blt t 332 then some oP else some oO)else(bif Nat.blt t 334 then some oN else some oM)))else(bif Nat.blt t 339 then(bif Nat.blt t 337 then(bif Nat.blt t 336 then some oL else some oK)else(bif Nat.blt t 338 then some oJ else some oI))else(bif Nat.blt t 341 then(bif Nat.blt t 340 then some oH else some oF)else(bif Nat.blt t 342 then some oE else some oD))))else(bif Nat.blt t 350 then(bif Nat.blt t 346 then(bif Nat.blt t 344 then some oC else(bif Nat.blt t 345 then some oB else some oA))else(bif Nat.blt t 348 then(bif Nat.blt t 347 then some oz else some oy)else(bif Nat.blt t 349 then some ov else some ou)))else(bif Nat.blt t 354 then(bif Nat.blt t 352 then(bif Nat.blt t 351 then some oo else some om)else(bif Nat.blt t 353 then some ol else some oh))else(bif Nat.blt t 356 then(bif Nat.blt t 355 then some og else some oe)else(bif Nat.blt t 357 then some od else some oc)))))))else(bif Nat.blt t 418 then(bif Nat.blt t 388 then(bif Nat.blt t 373 then(bif Nat.blt t 365 then(bif Nat.blt t 361 then(bif Nat.blt t 359 then some n9 else(bif Nat.blt t 360 then some n8 else some n7))else(bif Nat.blt t 363 then(bif Nat.blt t 362 then some n6 else some n5)else(bif Nat.blt t 364 then some n4 else some n3)))else(bif Nat.blt t 369 then(bif Nat.blt t 367 then(bif Nat.blt t 366 then some nZ else some nY)else(bif Nat.blt t 368 then some nX else some nW))else(bif Nat.blt t 371 then(bif Nat.blt t 370 then some nV else some nU)else(bif Nat.blt t 372 then some nT else some nS))))else(bif Nat.blt t 380 then(bif Nat.blt t 376 then(bif Nat.blt t 374 then some nR else(bif Nat.blt t 375 then some nQ else some nP))else(bif Nat.blt t 378 then(bif Nat.blt t 377 then some nO else some nN)else(bif Nat.blt t 379 then some nM else some nL)))else(bif Nat.blt t 384 then(bif Nat.blt t 382 then(bif Nat.blt t 381 then some nK else some nJ)else(bif Nat.blt t 383 then some nI else some nH))else(bif Nat.blt t 386 then(bif Nat.blt t 385 then some nG else some nF)else(bif Nat.blt t 387 then some nE else some nD)))))else(bif Nat.blt t 403 then(bif Nat.blt t 395 then(bif Nat.blt t 391 then(bif Nat.blt t 389 then some nC else(bif Nat.blt t 390 then some nB else some nA))else(bif Nat.blt t 393 then(bif Nat.blt t 392 then some nz else some ny)else(bif Nat.blt t 394 then some nx else some nv)))else(bif Nat.blt t 399 then(bif Nat.blt t 397 then(bif Nat.blt t 396 then some nu else some nt)else(bif Nat.blt t 398 then some nr else some nq))else(bif Nat.blt t 401 then(bif Nat.blt t 400 then some np else some nm)else(bif Nat.blt t 402 then some nl else some nj))))else(bif Nat.blt t 410 then(bif Nat.blt t 406 then(bif Nat.blt t 404 then some nh else(bif Nat.blt t 405 then some ng else some na))else(bif Nat.blt t 408 then(bif Nat.blt t 407 then some m9 else some m8)else(bif Nat.blt t 409 then some m7 else some m6)))else(bif Nat.blt t 414 then(bif Nat.blt t 412 then(bif Nat.blt t 411 then some m5 else some m4)else(bif Nat.blt t 413 then some mZ else some mY))else(bif Nat.blt t 416 then(bif Nat.blt t 415 then some mX else some mW)else(bif Nat.blt t 417 then some mV else some mU))))))else(bif Nat.blt t 448 then(bif Nat.blt t 433 then(bif Nat.blt t 425 then(bif Nat.blt t 421 then(bif Nat.blt t 419 then some mS else(bif Nat.blt t 420 then some mR else some mQ))else(bif Nat.blt t 423 then(bif Nat.blt t 422 then some mP else some mO)else(bif Nat.blt t 424 then some mN else some mM)))else(bif Nat.blt t 429 then(bif Nat.blt t 427 then(bif Nat.blt t 426 then some mL else some mK)else(bif Nat.blt t 428 then some mJ else some mI))else(bif Nat.blt t 431 then(bif Nat.blt t 430 then some mH else some mG)else(bif Nat.blt t 432 then some mD else some mC))))else(bif Nat.blt t 440 then(bif Nat.blt t 436 then(bif Nat.blt t 434 then some mB else(bif Nat.blt t 435 then some mA else some mz))else(bif Nat.blt t 438 then(bif Nat.blt t 437 then some my else some mw)else(bif Nat.blt t 439 then some mv else some mu)))else(bif Nat.blt t 444 then(bif Nat.blt t 442 then(bif Nat.blt t 441 then some mr else some mq)else(bif Nat.blt t 443 then some mo else some mn))else(bif Nat.blt t 446 then(bif Nat.blt t 445 then some mm else some ml)else(bif Nat.blt t 447 then some mj else some mi)))))else(bif Nat.blt t 463 then(bif Nat.blt t 455 then(bif Nat.blt t 451 then(bif Nat.blt t 449 then some mh else(bif Nat.blt t 450 then some mg else some mf))else(bif Nat.blt t 453 then(bif Nat.blt t 452 then some me else some md)else(bif Nat.blt t 454 then some mc else some mb)))else(bif Nat.blt t 459 then(bif Nat.blt t 457 then(bif Nat.blt t 456 then some ma else some l9)else(bif Nat.blt t 458 then some l8 else some l7))else(bif Nat.blt t 461 then(bif Nat.blt t 460 then some lZ else some lY)else(bif Nat.blt t 462 then some lX else some lW))))else(bif Nat.blt t 470 then(bif Nat.blt t 466 then(bif Nat.blt t 464 then some lV else(bif Nat.blt t 465 then some lU else some lT))else(bif Nat.blt t 468 then(bif Nat.blt t 467 then some lS else some lR)else(bif Nat.blt t 469 then some lQ else some lP)))else(bif Nat.blt t 474 then(bif Nat.blt t 472 then(bif Nat.blt t 471 then some lO else some lM)else(bif Nat.blt t 473 then some lL else some lK))else(bif Nat.blt t 476 then(bif Nat.blt t 475 then some lJ else some lI)else(bif Nat.blt t 477 then some lH else some lG)))))))))else none
theorem ik:(List.range 478).map TI=(List.range 478).map (Vb Go.Proofs.Tryz.prog):=by kernel_rfl
theorem Am:Bc Go.Proofs.Tryz.prog TI:=by
 intro t i h
 by_cases c:t<478
 . have h1:((List.range 478).map TI)[t]?=((List.range 478).map (Vb Go.Proofs.Tryz.prog))[t]?:=by rw[ik]
   rw[List.getElem?_map,List.getElem?_map,List.getElem?_range c]at h1;simp only[Option.map_some,Option.some.injEq]at h1;rw[<-h1,h]
 . have h2:Nat.blt t 478=false:=by
    rw[Bool.eq_false_iff];intro hc;exact c (Nat.blt_eq.mp hc)
   unfold TI at h;rw[h2]at h
   cases h
theorem yH:Go.Proofs.Tryz.prog.follows .mixedOrders=true:=by kernel_rfl
structure Tac where
  op:Int
  d:Int
  a:Int
  b:Int
  k:Int
  base:Int
  size:Int
  n:Int
  deriving DecidableEq,Repr
structure Block where
  ins:List Tac
  fin:Int
  v:Int
  to:Int
  els:Int
  deriving DecidableEq,Repr
structure BFunc where
  regs:Int
  blocks:List Block
  deriving DecidableEq,Repr
structure Blocks where
  words:Int
  funcs:List BFunc
  deriving DecidableEq,Repr
structure Cert where
  same:List (List Bool)
  deriving DecidableEq,Repr
def Tac.cells(t:Tac):List AV:=[.int .i64 t.op,.int .i64 t.d,.int .i64 t.a,.int .i64 t.b,.int .i64 t.k,.int .i64 t.base,.int .i64 t.size,.int .u32 t.n]
def Eu(l:List Tac):AV:=.lst false (l.map Tac.cells)
def Block.cells(b:Block):List AV:=[Eu b.ins,.int .i64 b.fin,.int .i64 b.v,.int .i64 b.to,.int .i64 b.els]
def Cc(l:List Block):AV:=.lst false (l.map Block.cells)
def BFunc.cells(f:BFunc):List AV:=[.int .i64 f.regs,Cc f.blocks]
def AT(l:List BFunc):AV:=.lst false (l.map BFunc.cells)
def Blocks.cells(b:Blocks):List AV:=[.int .i64 b.words,AT b.funcs]
def Gw(l:List Bool):AV:=.lst false (l.map fun b=>[.bool b])
def Bt(l:List Int):AV:=.lst false (l.map fun b=>[.int .i64 b])
def LB(l:List (List Bool)):AV:=.lst false (l.map fun r=>[Gw r])
def AS(l:List (List Int)):AV:=.lst false (l.map fun r=>[Bt r])
def Cert.cells(c:Cert):List AV:=[LB c.same]
theorem AG{α:Type}{l:List α}{f:α->List AV}{k:Nat}{x:α}(h:l[k]?=some x):(l.map f)[((k:Nat):Int).toNat]?=some (f x):=by
 rw[Int.toNat_natCast,List.getElem?_map,h];rfl
theorem Ag{α:Type}{l:List α}{k:Nat}(h:k<l.length):∃x,l[k]?=some x:=⟨l[k],List.getElem?_eq_getElem h⟩
theorem AR{α:Type}{l:List α}{k:Nat}{x:α}(h:l[k]?=some x):l.take (k+1)=l.take k++[x]:=by
 rw[List.take_add_one,h];rfl
def dF(l:List Tac):Prop:=l.length<=maxLen
def Block.fits(x:Block):Prop:=x.ins.length<=maxLen
def Mu(l:List Block):Prop:=l.length<=maxLen/\∀x∈l,x.fits
def BFunc.fits(f:BFunc):Prop:=Mu f.blocks
def Oe(l:List BFunc):Prop:=l.length<=maxLen/\∀f∈l,f.fits
def Blocks.fits(b:Blocks):Prop:=Oe b.funcs
theorem LJ{α:Type}{l:List α}{f:α->List AV}{H:Aq}{ι:AL}{ex:Bool}{v:Value}(h:Rel H ι (.lst ex (l.map f)) v):
 l.length<=maxLen/\∀x∈l,∀(j:Nat) (y:AV),(f x)[j]?=some y->∃u,Rel H AE y u:=by
 refine⟨by have:=cN h;simpa using this,fun x hx j y hy=>?_⟩;obtain⟨i,hi⟩:=List.mem_iff_getElem?.1 hx;rcases h.lst_inv with⟨h0,_⟩|⟨_,b,off,cap,sz,c,vals,_,_,_,_,hr,_⟩
 . rw[List.map_eq_nil_iff]at h0;subst h0;simp at hi
 . exact⟨_,hr i (f x) j y (by rw[List.getElem?_map,hi];rfl) hy⟩
theorem bH{l:List Tac}{H:Aq}{ι:AL}{v:Value}(h:Rel H ι (Eu l) v):dF l:=(LJ h).1
theorem LK{l:List Block}{H:Aq}{ι:AL}{v:Value}(h:Rel H ι (Cc l) v):Mu l:=by
 obtain⟨h1,h2⟩:=LJ h;exact⟨h1,fun x hx=>by obtain⟨u,hu⟩:=h2 x hx 0 _ rfl;exact bH hu⟩
theorem Qm{cs:List AV}{H:Aq}{ι:AL}{v:Value}(h:Rel H ι (.agg cs) v){j:Nat}{x:AV}(hj:cs[j]?=some x):∃u,Rel H ι x u:=by
 obtain⟨us,_,hl,hr⟩:=h.agg_inv;have hlt:j<us.size:=by rw[<-hl];exact(List.getElem?_eq_some_iff.1 hj).1
 obtain⟨u,hu⟩:=A4 hlt;exact⟨u,hr j x u hj hu⟩
theorem NO{f:BFunc}{H:Aq}{ι:AL}{v:Value}(h:Rel H ι (.agg f.cells) v):f.fits:=by
 obtain⟨u,hu⟩:=Qm h (j:=1) rfl;exact LK hu
theorem Vm{l:List BFunc}{H:Aq}{ι:AL}{v:Value}(h:Rel H ι (AT l) v):Oe l:=by
 obtain⟨h1,h2⟩:=LJ h;exact⟨h1,fun x hx=>by obtain⟨u,hu⟩:=h2 x hx 1 _ rfl;exact LK hu⟩
theorem Ql{b:Blocks}{H:Aq}{ι:AL}{v:Value}(h:Rel H ι (.agg b.cells) v):b.fits:=by
 obtain⟨u,hu⟩:=Qm h (j:=1) rfl;exact Vm hu
theorem JE{P:Program}{s:Ac}{Q:Exit->Ac->Prop}{c:Code}(t:Nat){x:AV}{φ:Prop}(ht:s.env t=some x)(hf:∀H ι v,Rel H ι x v->φ)(h:φ->AGo P c s Q):AGo P c s Q:=
 aM (fun H ι a w hs=>by obtain⟨v,_,hv⟩:=hs.env t x ht;exact hf H ι v hv) h
theorem D2{α:Type}{β:Type}{l:List α}{f:α->β}{k:Nat}(h:decide ((k:Int)<(((l.map f).length:Nat):Int))=true):k<l.length:=by simpa using h
theorem D6{α:Type}{β:Type}{l:List α}{f:α->β}{k:Nat}(h:decide ((k:Int)<(((l.map f).length:Nat):Int))=false):l.length<=k:=by simpa using h
theorem Tac.eqCells(x y:Tac):Sv.eqCells x.cells y.cells=some (decide (x=y)):=by
 have h:Sv.eqCells x.cells y.cells=some (x.op==y.op&&(x.d==y.d&&(x.a==y.a&&(x.b==y.b&&(x.k==y.k&&(x.base==y.base&&(x.size==y.size&&(x.n==y.n&&true)))))))):=rfl;rw[h];congr 1;obtain⟨a1,a2,a3,a4,a5,a6,a7,a8⟩:=x;obtain⟨b1,b2,b3,b4,b5,b6,b7,b8⟩:=y;rw[Bool.eq_iff_iff];simp[Tac.mk.injEq]
section
variable {P : Program} {T : Nat -> Option Ae} {o : Oper} {e : Ar} {h : Aa}
theorem Ig{f:Fn}{first captured:Array Operand}{xs cs:List AV}(ho:o.op=.makeFunc f first captured)(hx:AQ e first.toList=some xs)(hc:AQ e captured.toList=some cs):QLoc P o e h [] (.fn f xs cs):=by
 intro H ι a w s hs g1 g2;have hx':AQ s.env first.toList=some xs:=by
  rw[Ei (e:=e) (fun x hx=>g1 x (by rw[ho];simp[Op.operands];exact .inl (by simpa using hx)))];exact hx
 have hc':AQ s.env captured.toList=some cs:=by
  rw[Ei (e:=e) (fun x hx=>g1 x (by rw[ho];simp[Op.operands];exact .inr (by simpa using hx)))];exact hc
 have h1:=BY hs hx';have h2:=BY hs hc';refine⟨.func f (first.map a.eval) (captured.map a.eval),.fn _ _ _ _ _ _ h1.1 h2.1 h1.2 h2.2,?_⟩;simp only[execOp,ho,Instr.makeFunc,Sem.run_bind,Sem.run_pure,Result.andThen_ok]
theorem BW{H:Aq}{ι:AL}{xs ys:List AV}{us vs:Array Value}(h1:RelAll H ι xs us)(h2:RelAll H ι ys vs):RelAll H ι (xs++ys) (us++vs):=by
 refine⟨by simp[h1.1,h2.1],fun j x v g1 g2=>?_⟩
 by_cases hj:j<xs.length
 . rw[List.getElem?_append_left hj]at g1;rw[Array.getElem?_append_left (by rw[<-h1.1];exact hj)]at g2;exact h1.2 j x v g1 g2
 . rw[List.getElem?_append_right Ab]at g1;rw[Array.getElem?_append_right (by rw[<-h1.1];omega),<-h1.1]at g2;exact h2.2 _ x v g1 g2
theorem Jc{f:FuncId}{fn:Func}{x:Operand}{args:Array Operand}{tys:Array TypeId}{fs xs cs:List AV}{r:AV}{hc hw:Aa}(L:List Nat)(W:List (Nat×AObj))(ho:o.op=.call {callee:=.value x,args:=args,argTypes:=tys})(hfn:look e x=some (.fn (.func f) fs cs))(hf:P.funcs[f]?=some fn)(hn:(fn.name== "runtime.NumGoroutine")=false)(hb:fn.body.isSome=true)
 (hx:AQ e args.toList=some xs) (hxa:(fs++xs++cs).all (AV.avoid (mem L))=true) (hL:AllL L fun b=>∃q,h b=some q/\q.avoid (mem L)=true) (hW:W.all (fun p=>mem L p.1)=true) (hres':hres h L=hc)
 (hk:AllL L fun b=>∃q,hw b=some q/\AA h W b=some q/\q.avoid (mem L)=true) (hra:r.avoid (mem L)=true)
 (hcall:ACall P f (fs++xs++cs) hc (fun r' h'=>r'=r/\HSub hw h')):OLoc P o e h L W (some r):=by
 intro H ι a w s Q hs g1 g2;have hx':AQ s.env args.toList=some xs:=by
  exact WU
 have hfn':look s.env x=some (.fn (.func f) fs cs):=by rw[g1 x Fv,hfn]
 have hvf:=Ai hs hfn';obtain⟨us,vs,hve,k1,k2,k3,k4⟩:=hvf.fn_inv;have hraa:=BW (BW ⟨k1,k3⟩ (BY hs hx')) ⟨k2,k4⟩;have hra':RelAll H (Dx ι (mem L)) (fs++xs++cs) (us++args.map a.eval++vs):=⟨hraa.1,fun j x v h1 h2=>ER (hraa.2 j x v h1 h2) (EM hxa h1)⟩;have hLs:∀b∈L,∃q,s.h b=some q/\q.avoid (mem L)=true:=fun b hb=>by rw[g2 b hb];exact hL.get b hb
 have hres2:hres s.h L=hc:=by
  exact fw
 have hrc:HeapRel H (Dx ι (mem L)) (hres s.h L) w:=by
  exact lj
 have hcalls:=hcall H (Dx ι (mem L)) w _ hra' (hres2▸hrc);have hexec:(execOp a.eval o).run P w=.ok (.enter f (us++args.map a.eval++vs)) w:=by
  simp only[execOp,ho,resolve,hve,Deferred.ofValue,invoke,Sem.run_bind,Sem.run_pure,Result.andThen_ok,Bv hf hn hb]
 exact li
theorem Kr(hT:Bc P T){t:TypeId}{x y:Operand}{b n len m:Nat}{p:Bool}{sz:Nat}{es:List (List AV)}{i j:Ae}{u:Nat}{k:IntKind}{z:Int}(ho:o.op=.slice t x none (some y) none)(hx:look e x=some (.ref b n 0 len))(hy:look e y=some (.int k z))(ht:T t=some i)(hk:i.k=.slice u)(hj:T u=some j)
 (hb:h b=some (.row p sz es)) (hn:n=es.length) (hz:z=(m:Int)) (hm:m<=len):QLoc P o e h [b] (.ref b n 0 m):=by
 intro H ι a w s hs g1 g2;have hx':look s.env x=some (.ref b n 0 len):=by rw[g1 x Bg,hx]
 have hy':look s.env y=some (.int k z):=by rw[g1 y Bg,hy]
 have hb':s.h b=some (.row p sz es):=by rw[g2 b Az,hb]
 subst hz;obtain⟨info,d,e1,e2,e3,e4,e5,e6⟩:=Af (hT _ _ ht);obtain⟨info',d',e1',e2',e3',e4',e5',e6'⟩:=Af (hT _ _ hj);have hd:=A0 (P:=P) (d:=d) (e3▸hk);subst hd;have hvx:=Ai hs hx';have hvy:=(Ai hs hy').int_inv;generalize hva:a.eval x=va at hvx;obtain⟨r,hl,⟨r1,r2,r3,r4,r5,r6⟩,r7⟩:=hs.heap.obj b _ hb' rfl;have hrun:∀(ad:Option Addr) (cap:Nat),m<=cap->va=.slice ad len cap->(execOp a.eval o).run P w=.ok (.value (.slice (if cap=0 then ad else ad.map (·.add (0*j.size))) (m-0) (cap-0))) w:=fun ad cap hcap hv=>by
  simp only[execOp,ho,hva,hv,hvy,Instr.sliceAt,Instr.slice,Option.map_none,Option.map_some,Sem.run_bind,Aj e2,Result.andThen_ok,EE e1',e4',Sem.run_pure];simp[Instr.sliceBounds,Instr.sliceBound,asIntOf,hcap]
 by_cases hsol:r.csz=0
 . obtain⟨hl0,ad,rfl,hsp⟩:=hvx.ref_dry hl Ab hsol Ab;subst hl0;obtain rfl:m=0:=by omega
   refine⟨_,?_,hrun ad 0 (Nat.le_refl _) rfl⟩;simpa using hvx
 . obtain⟨hlen,cap,rfl,hlc,hcap,hmax⟩:=hvx.ref_live hl Ab hsol;refine⟨_,?_,hrun _ cap Ab rfl⟩;have:=Rel.refL (H:=H) ι b n 0 m cap r hl Ab Ab Ab hcap hmax;have hadd:(if cap=0 then some (⟨r.rb,0*r.sz,none⟩:Addr)else(some (⟨r.rb,0*r.sz,none⟩:Addr)).map (·.add (0*j.size)))=some ⟨r.rb,0*r.sz,none⟩:=by
    split
    . rfl
    . simp[Addr.add]
   rw[hadd];simpa using this
theorem SA(hT:Bc P T){t t':TypeId}{x y:Operand}{i i' j:Ae}{u u':Nat}{b n len:Nat}{p:Bool}{sz:Nat}{es:List (List AV)}{cs2:List AV}{q:AV}{R:List Nat}
 (ho:o.op=.call {callee:=.builtin .append,args:= #[x,y],argTypes:= #[t,t']}) (hx:look e x=some (.ref b n 0 len)) (hy:look e y=some q) (hi:T t=some i) (hk:i.k=.slice u) (hj:T u=some j) (hi':T t'=some i') (hk':i'.k=.slice u')
 (hb:h b=some (.row p sz es)) (hn:n=es.length) (hlt:len<n) (hsz:sz=j.size) (hp:0<j.size)
 (hsrc:SrcOf h q R [cs2]) (hu2:cs2.length=sz) (hpure:p=true->cs2.all AV.isPure1=true):
 OLoc P o e h (b::R) [(b,.row p sz (es.set len cs2))] (some (.ref b n 0 (len+1))):=by
 intro H ι a w s Q hs g1 g2;have hx':look s.env x=some (.ref b n 0 len):=by rw[g1 x Fv,hx]
 have hy':look s.env y=some q:=by rw[g1 y Fv,hy]
 have hb':s.h b=some (.row p sz es):=by rw[g2 b Az,hb]
 have hsrc':=hsrc.agree (h':=s.h) (fun c hc=>g2 c (by simp[hc]));obtain⟨info,d,e1,e2,e3,e4,e5,e6⟩:=Af (hT _ _ hi);obtain⟨infou,du,f1,f2,f3,f4,f5,f6⟩:=Af (hT _ _ hj);obtain⟨info',d',e1',e2',e3',e4',e5',e6'⟩:=Af (hT _ _ hi');have hd:=A0 (P:=P) (d:=d) (e3▸hk);subst hd;have hd':=A0 (P:=P) (d:=d') (e3'▸hk');subst hd';subst hsz;subst hn;obtain⟨r,hl,⟨r1,r2,r3,r4,r5,r6⟩,r7⟩:=hs.heap.obj b _ hb' rfl;have hvx:=Ai hs hx';have hvy:=Ai hs hy';generalize hva:a.eval x=va at hvx;generalize hvb:a.eval y=vb at hvy;have hexec:∀(v:Value) (w':World),(Builtin.append_ #[t,t'] o.type #[va,vb]).run P w=.ok v w'->(execOp a.eval o).run P w=.ok (.value v) w':=fun v w' hrun=>by
  exact UJ
 obtain⟨news,hsrcw,hnews⟩:=JN hs.heap hsrc' hvy e2' hp (by intro cs h;simp at h;subst h;exact hu2) w rfl;rw[<-f4]at hsrcw;have hnl:news.length=j.size:=by rw[hsrcw.newsLen,f4];simp
 have hsol:r.csz≠0:=fun h0=>by
  have:0<es.length*j.size:=Nat.mul_pos Ab hp;omega
 obtain⟨hlen,cap,hvv,hlc,hcap,hmax⟩:=hvx.ref_live hl Ab hsol;obtain⟨c,TT,w1,w2,w3⟩:=r6 hsol;simp only[Nat.zero_mul,Nat.zero_add]at hcap hvv;have hcs:c.size=cap*j.size:=by rw[w2,<-hcap,r1]
 have hmul:(len+1)*j.size<=es.length*j.size:=Nat.mul_le_mul_right _ Ab;have hmul':(len+1)*j.size=len*j.size+j.size:=by rw[Nat.add_mul,Nat.one_mul]
 have hroom:len+1<=cap:=by
  refine Nat.le_of_mul_le_mul_right (c:=j.size) ?_ hp;rw[<-hcs,w2];omega
 have hfit:len*infou.size+news.length<=c.size:=by rw[hnl,f4,w2];omega
 have hrun:=C7 (P:=P) (w:=w) t t' o.type u infou e2 f1 r.rb len cap c TT w1 vb 1 news hsrcw hroom hfit;rw[f4]at hrun hfit;generalize hC:(c.toList.take (len*j.size)++news++c.toList.drop (len*j.size+news.length)).toArray=C at*;have hCs:C.size=c.size:=by rw[<-hC];simp;omega
 have hget:∀k:Nat,C[k]?=if k<len*j.size then c[k]? else if k<len*j.size+j.size then news[k-len*j.size]? else c[k]?:=fun k=>by
  rw[<-hC];simp only[List.getElem?_toArray];have hm:(c.toList.take (len*j.size)).length=len*j.size:=by simp;omega
  by_cases h1:k<len*j.size
  . rw[if_pos h1,List.getElem?_append_left (by rw[List.length_append,hm];omega),List.getElem?_append_left (by rw[hm];exact h1),List.getElem?_take_of_lt h1,Array.getElem?_toList]
  . rw[if_neg h1]
    by_cases h2:k<len*j.size+j.size
    . rw[if_pos h2,List.getElem?_append_left (by rw[List.length_append,hm,hnl];exact h2),List.getElem?_append_right (by rw[hm];omega),hm]
    . rw[if_neg h2,List.getElem?_append_right (by rw[List.length_append,hm,hnl];omega),List.length_append,hm,hnl,List.getElem?_drop,Array.getElem?_toList];congr 1;omega
 have hll:LLe ι (Cv ι b r):=LLe.put fun r' hr'=>by rw[hl]at hr';cases hr';exact .inl rfl
 have hlens:∀(i:Nat) (cs:List AV),(es.set len cs2)[i]?=some cs->cs.length=j.size:=fun i cs hc=>by
  by_cases hi:len=i
  . subst hi;rw[List.getElem?_set_self hlt]at hc;cases hc;exact hu2
  . rw[List.getElem?_set_ne hi]at hc;exact r5 i cs hc
 have hrow:rowCells H (bif p then AE else Cv ι b r) j.size (es.set len cs2) C:=by
  refine⟨hlens,fun i cs k y hc hk=>?_⟩;have hkk:k<j.size:=by
   rw[<-hlens i cs hc];exact(List.getElem?_eq_some_iff.1 hk).1
  have hi:i<es.length:=by
   have:=(List.getElem?_eq_some_iff.1 hc).1;simpa using this
  by_cases hil:len=i
  . subst hil;rw[List.getElem?_set_self hlt]at hc;cases hc;obtain⟨v,k1,k2,k3⟩:=hnews 0 cs2 k y rfl hk;rw[Nat.zero_mul,Nat.zero_add]at k1;refine⟨v,by rw[hget,if_neg Ab,if_pos Ab,Nat.add_sub_cancel_left];exact k1,?_,k3⟩
    cases p with
    |false=>exact k2.mono (KLe.refl _) hll
    |true=>exact B3 (List.all_eq_true.1 (hpure rfl) y (List.mem_of_getElem? hk)) k2
  . rw[List.getElem?_set_ne hil]at hc;obtain⟨v,k1,k2,k3⟩:=w3.2 i cs k y hc hk;refine⟨v,?_,?_,k3⟩
    . rw[hget]
      by_cases h1:i<len
      . have:(i+1)*j.size<=len*j.size:=Nat.mul_le_mul_right _ Ab;rw[Nat.add_mul,Nat.one_mul]at this;rw[if_pos Ab];exact k1
      . have:(len+1)*j.size<=i*j.size:=Nat.mul_le_mul_right _ Ab;rw[if_neg Ab,if_neg Ab];exact k1
    . cases p with
      |false=>exact k2.mono (KLe.refl _) hll
      |true=>exact k2
 obtain⟨u1,u2⟩:=hs.heap.upd (w':=w.setRow r.rb C) (o0:=.row p j.size es) (o':=.row p j.size (es.set len cs2)) (r':=r) hb' rfl
  (.inr ⟨r,hl,rfl,.inl rfl⟩) (fun _=>.inr ⟨r,hl,rfl,hsol,rfl⟩)
  (fun rb hlt' hne=>setRow_other w r.rb rb _ (hne r hl rfl hsol)) Az (FL _ _ _) (EW _ _ _)
  ⟨r1,r2,by simp[r3],by simpa using r4,hrow.1,fun _=>⟨C,TT,w1.setRow hCs,hCs.trans w2,hrow⟩⟩
 have hex:=hexec _ _ (hvv▸hrun);unfold Oper.wp;rw[hex];refine⟨_,H,_,rfl,(fun x ex=>?_),u1,u2⟩
 cases ex
 have:=Rel.refL (H:=H) (Cv ι b r) b es.length 0 (len+1) cap _ (AO _ _ _) r3 Ab hroom (by rw[Nat.zero_add];exact hcap) hmax;simpa using this
def G5(es:List (List AV))(len:Nat)(cs:List AV):List (List AV):=if len<es.length then es.set len cs else es++[cs]
theorem Yx(hT:Bc P T){t t':TypeId}{x y:Operand}{i i' j:Ae}{u u':Nat}{b n len:Nat}{p:Bool}{sz:Nat}{es:List (List AV)}{cs2:List AV}{q:AV}{R:List Nat}
 (ho:o.op=.call {callee:=.builtin .append,args:= #[x,y],argTypes:= #[t,t']}) (hx:look e x=some (.ref b n 0 len)) (hy:look e y=some q) (hi:T t=some i) (hk:i.k=.slice u) (hj:T u=some j) (hi':T t'=some i') (hk':i'.k=.slice u')
 (hb:h b=some (.row p sz es)) (hn:n=es.length) (hlt:len<=n) (hsz:sz=j.size) (hz:j.zero.length=j.size) (hp:0<j.size)
 (hsrc:SrcOf h q R [cs2]) (hu2:cs2.length=sz) (hpure:p=true->cs2.all AV.isPure1=true) (hby:(es.length+1)*j.bytes<=140737488355328) (hml:es.length+1<=maxLen):
 OLoc P o e h (b::R) [(b,.row p sz (G5 es len cs2))] (some (.ref b (G5 es len cs2).length 0 (len+1))):=by
 by_cases h1:len<es.length
 . have e1:G5 es len cs2=es.set len cs2:=by simp[G5,h1]
   rw[e1];have:=SA hT ho hx hy hi hk hj hi' hk' hb hn Ab hsz hp hsrc hu2 hpure;rw[List.length_set,<-hn];exact this
 . have e1:G5 es len cs2=es++[cs2]:=by simp[G5,h1]
   have hl:len=n:=by omega
   subst hl;rw[e1];have:=G8 hT ho hx hy hi hk hj hi' hk' hb hn hsz hz hp hsrc (by intro cs h;simp at h;subst h;exact hu2) (fun hp cs h=>by simp at h;subst h;exact hpure hp) (m:=1) rfl hby hml;rw[show(es++[cs2]).length=len+1 by simp[hn]];exact this
end
theorem BG{h:Aa}{b x:Nat}{o:AObj}{r:Option AObj}(hb:Nat.beq x b=false)(hr:h x=r):Al h b o x=r:=by simp only[Al,hb,cond_false,hr]
section
variable {P : Program} {T : Nat -> Option Ae} {o : Oper} {e : Ar} {h : Aa}
def gD(P:Program)(o:Oper)(e:Ar)(h:Aa)(R:List Nat)(S:List (Nat×AObj)->AV->Prop):Prop:=
  ∀(H:Aq) (ι:AL) (a:Act) (w:World) (s:Ac) (Q:Exit->Act->World->Prop),Sim H ι s a w->
    (∀x∈o.op.operands,look s.env x=look e x)->(∀b∈R,s.h b=h b)->
    o.wp P a w (fun a' w'=>∃W r v H' ι',S W r/\a'=a.put o.dst v/\Rel H' ι' r v/\HeapRel H' ι' (AA s.h W) w'/\Step H ι s.h w H' ι' (AA s.h W) w') Q
theorem AOps.ex{ops:Array Oper}{rest:List Oper}{n:Nat}{K:Ac->Prop}(d:Nat){R:List Nat}{S:List (Nat×AObj)->AV->Prop}(hd:o.dst=some d)(hb:Nat.blt d n=true)(hg:Av ops o e=some true)(ho:gD P o e h R S)
 (hr:∀W r,S W r->AOps P ops rest ⟨n,Ad e d r,AA h W⟩ K):AOps P ops (o::rest) ⟨n,e,h⟩ K:=by
 intro H ι a w hs;unfold wpList;rw[AN hs hg];simp only[if_true];refine .inl (Oper.wp_mono (fun a' w' hx=>?_) (ho H ι a w ⟨n,e,h⟩ _ hs (fun _ _=>rfl) (fun _ _=>rfl)));obtain⟨W,r,v,H',ι',hS,rfl,h1,h2,h3⟩:=hx;have hs':=hs.put (d:=o.dst) (r:=some r) h2 h3 (fun x ex=>by cases ex;exact h1) (HV hd hb);rw[hd]at hs'|-;have:=hr W r hS H' ι' _ w' hs';have key:∀(l:List Oper) (a1:Act) (w1:World),wpList P ops (Post H' ι' (AA h W) w' (Bk K fun _ _=>False)) l a1 w1->wpList P ops (Post H ι h w (Bk K fun _ _=>False)) l a1 w1:=by
  have hpost:∀e a2 w2,Post H' ι' (AA h W) w' (Bk K fun _ _=>False) e a2 w2->Post H ι h w (Bk K fun _ _=>False) e a2 w2:=fun e a2 w2 hp=>Post.step hs.heap h2 h3 hp
  intro l
  induction l with
  |nil=>exact fun a1 w1 hp=>hpost _ _ _ hp
  |cons o' l ih=>
   intro a1 w1 hp;exact WW
 exact key _ _ _ this
end
def EDropK(k:Nat->Bool)(e' e:Ar):Prop:=∀t x,e' t=some x->e t=some x/\x.avoid k=true
def PC(k:Nat->Bool)(h' h:Aa):Prop:=∀b o,h' b=some o->(h b=some o/\(o.alive=true->k b=true/\o.avoid k=true))\/(o=.free/\k b=false)
theorem EDropK.new(k:Nat->Bool)(e:Ar):EDropK k BC e:=fun _ _ h=>by cases h
theorem EDropK.put{k:Nat->Bool}{e' e:Ar}{t:Nat}{v:AV}(h:EDropK k e' e)(hv:e t=some v)(ha:v.avoid k=true):EDropK k (Ad e' t v) e:=fun u x hx=>by
 exact ff
structure DropK(k:Nat->Bool)(s'' s':Ac):Prop where
  n:s''.n=s'.n
  e:EDropK k s''.env s'.env
  h:PC k s''.h s'.h
theorem DropK.mk'{k:Nat->Bool}{n:Nat}{e' e:Ar}{h' h:Aa}(h1:EDropK k e' e)(h2:PC k h' h):DropK k ⟨n,e',h'⟩ ⟨n,e,h⟩:=⟨rfl,h1,h2⟩
theorem Sim.cutK{H:Aq}{ι:AL}{s s':Ac}{a:Act}{w:World}{k:Nat->Bool}(hs:Sim H ι s a w)(hd:DropK k s' s):Sim H (Dx ι k) s' a w:=by
 have hal:∀b o,s'.h b=some o->o.alive=true->s.h b=some o/\k b=true/\o.avoid k=true:=fun b o h1 h2=>by
  exact eB
 refine⟨hs.n.trans hd.n.symm,hs.d,fun t x hx=>?_,⟨hs.heap.know,fun b hb=>?_,fun b o h1 h2=>?_,fun b b' o o' r r' h1 h2 h3 h4 h5 h6=>?_,hs.heap.glob⟩⟩
 . obtain⟨g1,g2⟩:=hd.e t x hx;obtain⟨v,v1,v2⟩:=hs.env t x g1;exact⟨v,v1,ER v2 g2⟩
 . rcases hd.h b _ hb with⟨g1,_⟩|⟨_,g2⟩
   . have:=hs.heap.free b g1;unfold Dx;rw[this];cases k b<;>rfl
   . unfold Dx;rw[show k b=false from g2];rfl
 . obtain⟨g1,g2,g3⟩:=hal b o h1 h2;obtain⟨r,r1,r2,r3⟩:=hs.heap.obj b o g1 h2;exact⟨r,by rw[EG (k:=k) g2];exact r1,HI r2 g3,r3⟩
 . exact hs.heap.inj b b' o o' r r' (hal b o h1 h2).1 h2 (hal b' o' h3 h4).1 h4 (Bx h5) (Bx h6)
theorem Step.cutK{H:Aq}{ι:AL}{h h1 h':Aa}{w:World}{H':Aq}{ι':AL}{w':World}{k:Nat->Bool}(hr:HeapRel H ι h w)(hf:∀b,k b=false->h b=some .free)
 (st:Step H ι h w H' ι' h1 w') (hd:PC k h' h1):Step H ι h w H' (Dx ι' k) h' w' where
 size:=st.size
 os:=st.os
 out:=st.out
 keep:=st.keep
 kle:=st.kle
 knew:=st.knew
 lle:=fun b r e=>by
  cases hb:k b with
  |false=>rw[hr.free b (hf b hb)]at e;cases e
  |true=>rw[EG (k:=k) hb];exact st.lle b r e
 lframe:=fun b e=>by
  cases hb:k b with
  |false=>rw[hf b hb]at e;cases e
  |true=>rw[EG (k:=k) hb];exact st.lframe b e
 newrb:=fun b r' e=>st.newrb b r' (Bx e)
 dom:=fun b e=>by
  exact fQ
section
variable {P : Program} {s : Ac} {Q : Exit -> Ac -> Prop}
theorem AGo.cutK{c:Code}{K:Ac->Prop}(k:Nat->Bool)(hf:∀b,k b=false->s.h b=some .free)(h:AGo P c s (Bk (fun s1=>∃s2,DropK k s2 s1/\K s2) Q)):AGo P c s (Bk K Q):=fun H ι a w hs=>
 wp_mono (h H ι a w hs) fun e a' w' hp=>by
  obtain⟨s',H',ι',q,r,t⟩:=hp
  cases e with
  |normal=>
   obtain⟨s2,d,k2⟩:=q;exact⟨s2,H',_,k2,r.cutK d,t.cutK hs.heap hf d.h⟩
  |_=>exact⟨s',H',ι',q,r,t⟩
theorem WP{γ:Type}{c:Code}(k:Nat->Bool)(inv:γ->Ac)(F:γ->Prop)(μ:γ->Nat)(g0:γ)(h0:Sub (inv g0) s)(hF:F g0)(hf:∀g b,k b=false->(inv g).h b=some .free)
 (round:∀g,F g->AGo P c (inv g) (Bk (fun s'=>∃g',DropK k (inv g') s'/\F g'/\μ g'<μ g) Q)):AGo P (.loop c) s Q:=
 AGo.loopI inv F μ g0 h0 hF fun g hg=>AGo.cutK k (hf g) ((round g hg).mono fun e s'' hq=>by
  cases e with
  |normal=>obtain⟨g',h1,h2,h3⟩:=hq;exact⟨inv g',h1,g',Sub.refl _,h2,h3⟩
  |_=>exact hq)
def kf(Q:Exit->Ac->Prop):Exit->Ac->Prop
  | .goto _,_=>False
  |e,s=>Q e s
theorem AGo.scope{c:Code}(h:AGo P c s (kf Q)):AGo P (.scope c) s Q:=fun H ι a w hs=>
 wp_scope_straight (wp_mono (h H ι a w hs) fun e a' w' hp=>by
  obtain⟨s',H',ι',q,r,t⟩:=hp
  cases e with
  |goto l=>exact q.elim
  |_=>exact⟨s',H',ι',q,r,t⟩)
end
section
variable {P : Program} {T : Nat -> Option Ae} {o : Oper} {e : Ar} {h : Aa}
def gE(P:Program)(o:Oper)(e:Ar)(h hn:Aa)(r:AV):Prop:=
  ∀(H:Aq) (ι:AL) (a:Act) (w:World) (n:Nat) (Q:Exit->Act->World->Prop),Sim H ι ⟨n,e,h⟩ a w->
    o.wp P a w (fun a' w'=>∃v H' ι',a'=a.put o.dst v/\Rel H' ι' r v/\HeapRel H' ι' hn w'/\Step H ι h w H' ι' hn w') Q
theorem AOps.call{ops:Array Oper}{rest:List Oper}{n:Nat}{K:Ac->Prop}(d:Nat){hn:Aa}{r:AV}(hd:o.dst=some d)(hb:Nat.blt d n=true)(hg:Av ops o e=some true)(ho:gE P o e h hn r)
 (hr:AOps P ops rest ⟨n,Ad e d r,hn⟩ K):AOps P ops (o::rest) ⟨n,e,h⟩ K:=by
 intro H ι a w hs;unfold wpList;rw[AN hs hg];simp only[if_true];refine .inl (Oper.wp_mono (fun a' w' hx=>?_) (ho H ι a w n _ hs));obtain⟨v,H',ι',rfl,h1,h2,h3⟩:=hx;have hs':=hs.put (d:=o.dst) (r:=some r) h2 h3 (fun x ex=>by cases ex;exact h1) (HV hd hb);rw[hd]at hs'|-;have:=hr H' ι' _ w' hs';have key:∀(l:List Oper) (a1:Act) (w1:World),wpList P ops (Post H' ι' hn w' (Bk K fun _ _=>False)) l a1 w1->wpList P ops (Post H ι h w (Bk K fun _ _=>False)) l a1 w1:=by
  have hpost:∀e a2 w2,Post H' ι' hn w' (Bk K fun _ _=>False) e a2 w2->Post H ι h w (Bk K fun _ _=>False) e a2 w2:=fun e a2 w2 hp=>Post.step hs.heap h2 h3 hp
  intro l
  induction l with
  |nil=>exact fun a1 w1 hp=>hpost _ _ _ hp
  |cons o' l ih=>
   intro a1 w1 hp;exact WW
 exact key _ _ _ this
theorem cC{f:FuncId}{fn:Func}{args:Array Operand}{tys:Array TypeId}{xs:List AV}{r:AV}(R:List Nat)(W:List (Nat×AObj))(ho:o.op=.call {callee:=.value (.func f),args:=args,argTypes:=tys})(hf:P.funcs[f]?=some fn)(hnm:(fn.name== "runtime.NumGoroutine")=false)(hb:fn.body.isSome=true)
 (hx:AQ e args.toList=some xs) (hcall:∀h':Aa,(∀b∈R,h' b=h b)->ACall P f xs h' (fun r' h''=>r'=r/\h''=AA h' W)):OLoc P o e h R W (some r):=by
 intro H ι a w s Q hs g1 g2;have hx':AQ s.env args.toList=some xs:=by
  exact WU
 have hcalls:=hcall s.h g2 H ι w _ (BY hs hx') hs.heap;have hexec:(execOp a.eval o).run P w=.ok (.enter f (args.map a.eval)) w:=by
  simp[execOp,ho,resolve,Act.eval,Deferred.ofValue,invoke,Bv hf hnm hb]
 unfold Oper.wp;rw[hexec];refine hcalls.mono fun en w' hh=>?_
 obtain⟨v,r',h',H',ι',rfl,⟨rfl,rfl⟩,k1,k2,k3⟩:=hh;exact⟨v,H',ι',rfl,fun x ex=>by cases ex;exact k1,k2,k3⟩
theorem O2(hT:Bc P T){t:TypeId}{x y:Operand}{i j:Ae}{u:Nat}{k k':IntKind}{zi zj:Int}(ho:o.op=.makeSlice t x y)(hx:look e x=some (.int k zi))(hy:look e y=some (.int k' zj))(hni:zi=0)(hnj:zj=0)(hi:T t=some i)(hk:i.k=.slice u)(hj:T u=some j)
 (hz:j.zero.length=j.size) (hp:0<j.size) (h1:j.zero.all AV.cell1=true):OLoc P o e h [] [] (some (.lst false [])):=by
 intro H ι a w s Q hs g1 g2;have hx':look s.env x=some (.int k zi):=by rw[g1 x Bg,hx]
 have hy':look s.env y=some (.int k' zj):=by rw[g1 y Bg,hy]
 have hvx:=(Ai hs hx').int_inv;have hvy:=(Ai hs hy').int_inv;subst hni;subst hnj;obtain⟨info,d,e1,e2,e3,e4,e5,e6⟩:=Af (hT _ _ hi);obtain⟨info',d',e1',e2',e3',e4',e5',e6'⟩:=Af (hT _ _ hj);have hd:=A0 (P:=P) (d:=d) (e3▸hk);subst hd;obtain⟨z,hz1,hz2⟩:=Cz e6' hz hp;have hrun:=run_make (P:=P) w t u info' z e2 e1' hz1 k k' 0 0 Ab Ab Az Ab;have hexec:(execOp a.eval o).run P w=.ok (.value (.slice (some ⟨w.heap.size,0,none⟩) 0 0)) (w.alloc (.cells (madeCells z.cells (0*info'.size)) u)):=by
  simp only[execOp,ho,hvx,hvy,Sem.run_bind,hrun,Result.andThen_ok,Sem.run_pure,Int.toNat_zero]
 unfold Oper.wp;rw[hexec];have hold:∀rb,rb<w.heap.size->(w.alloc (.cells (madeCells z.cells (0*info'.size)) u)).heap[rb]?=w.heap[rb]?:=fun rb hlt=>heap_alloc_old w _ hlt
 refine⟨_,H,ι,rfl,(fun x ex=>?_),hs.heap.grow hold,Step.grow hold Az rfl rfl⟩
 cases ex
 exact .lst0 _ _ _ _ Fu (Nat.zero_le _) (fun _=>rfl) trivial
theorem HB(hT:Bc P T){t t':TypeId}{x:Operand}{i:Ae}{u:Nat}(ho:o.op=.binOp .eql t x (.const (.slice none 0 0)) t')(ht:T t=some i)(hk:i.k=.slice u)(a:Act)(w:World){ad:Option Addr}{n c:Nat}(hv:a.eval x=.slice ad n c):
 (execOp a.eval o).run P w=.ok (.value (.bool ad.isNone)) w:=by
 obtain⟨info,d,e1,e2,e3,e4,e5,e6⟩:=Af (hT _ _ ht);have hd:=A0 (P:=P) (d:=d) (e3▸hk);subst hd;have hc:a.eval (.const (.slice none 0 0))=.slice none 0 0:=rfl;have hg:(eqGuard .eql t x (.const (.slice none 0 0)) (.slice ad n c) (.slice none 0 0)).run P w=.ok () w:=by unfold eqGuard;simp
 simp only[execOp,ho,hv,hc,Sem.run_bind,hg,Result.andThen_ok,Lib.run_eql_slice_nil w t u ad n c 0 0 e2,Sem.run_pure]
theorem OS(hT:Bc P T){t t':TypeId}{x:Operand}{i:Ae}{u:Nat}(ho:o.op=.binOp .eql t x (.const (.slice none 0 0)) t')(hx:look e x=some .nil)(ht:T t=some i)(hk:i.k=.slice u):QLoc P o e h [] (.bool true):=by
 intro H ι a w s hs g1 g2;have hx':look s.env x=some .nil:=by rw[g1 x Bg,hx]
 exact⟨_,.bool _ _,HB hT ho ht hk a w (Ai hs hx').nil_inv⟩
theorem T4(hT:Bc P T){t t':TypeId}{x:Operand}{i:Ae}{u b n off len:Nat}{p:Bool}{sz:Nat}{es:List (List AV)}(ho:o.op=.binOp .eql t x (.const (.slice none 0 0)) t')(hx:look e x=some (.ref b n off len))(ht:T t=some i)(hk:i.k=.slice u)
 (hb:h b=some (.row p sz es)) (hn:n=es.length) (hpos:0<n):QLoc P o e h [b] (.bool false):=by
 intro H ι a w s hs g1 g2;have hx':look s.env x=some (.ref b n off len):=by rw[g1 x Bg,hx]
 have hb':s.h b=some (.row p sz es):=by rw[g2 b Az,hb]
 obtain⟨r,hl,⟨r1,r2,r3,r4,r5,r6⟩,r7⟩:=hs.heap.obj b _ hb' rfl;have hsol:r.csz≠0:=fun h0=>by
  have:0<es.length*sz:=Nat.mul_pos Ab r2;omega
 obtain⟨hlen,cap,hvv,_⟩:=(Ai hs hx').ref_live hl Ab hsol;exact⟨_,.bool _ _,HB hT ho ht hk a w hvv⟩
theorem YB(hT:Bc P T){t t':TypeId}{x:Operand}{i:Ae}{u:Nat}{ex:Bool}{es:List (List AV)}(ho:o.op=.binOp .eql t x (.const (.slice none 0 0)) t')(hx:look e x=some (.lst ex es))(ht:T t=some i)(hk:i.k=.slice u):
 gD P o e h [] (fun W r=>W=[]/\∃v,r=.bool v):=by
 intro H ι a w s Q hs g1 g2;have hx':look s.env x=some (.lst ex es):=by rw[g1 x Bg,hx]
 obtain⟨ad,cap,hv⟩:=(Ai hs hx').lst_len;unfold Oper.wp;rw[HB hT ho ht hk a w hv];exact⟨[],_,_,H,ι,⟨rfl,_,rfl⟩,rfl,.bool _ _,hs.heap,Step.refl _ _ _ _⟩
theorem QH(hT:Bc P T){t:TypeId}{x:Operand}{i:Ae}{u:Nat}{ex:Bool}(ho:o.op=.call {callee:=.builtin .clear,args:= #[x],argTypes:= #[t]})(hx:look e x=some (.lst ex []))(ht:T t=some i)(hk:i.k=.slice u):OLoc P o e h [] [] (some (.tup [])):=by
 intro H ι a w s Q hs g1 g2;have hx':look s.env x=some (.lst ex []):=by rw[g1 x Fv,hx]
 obtain⟨info,d,e1,e2,e3,e4,e5,e6⟩:=Af (hT _ _ ht);have hd:=A0 (P:=P) (d:=d) (e3▸hk);subst hd;obtain⟨ad,cap,hv⟩:=(Ai hs hx').lst_len;have hrun:(Builtin.clear_ #[t] o.type #[.slice ad 0 cap]).run P w=.ok (.tuple #[]) w:=by
  cases ad<;>simp[Builtin.clear_,run_underlying e2]
 have hexec:(execOp a.eval o).run P w=.ok (.value (.tuple #[])) w:=by
  simp only[execOp,ho,resolve,invoke,builtin,Sem.run_bind,Sem.run_pure,Result.andThen_ok,List.map_toArray,List.map_cons,List.map_nil];rw[show a.eval x=.slice ad 0 cap from hv,hrun];rfl
 unfold Oper.wp;rw[hexec];exact⟨_,H,ι,rfl,(fun x ex=>by cases ex;exact .tup _ _ _ rfl Xa),hs.heap,Step.refl _ _ _ _⟩
theorem Ue(hT:Bc P T){t:TypeId}{x:Operand}{i j:Ae}{u b n:Nat}{es:List (List AV)}{c0:AV}(ho:o.op=.call {callee:=.builtin .clear,args:= #[x],argTypes:= #[t]})(hx:look e x=some (.ref b n 0 n))(ht:T t=some i)(hk:i.k=.slice u)(hj:T u=some j)
 (hb:h b=some (.row true 1 es)) (hn:n=es.length) (hpos:0<n) (hz:j.zero=[c0]) (hsz:j.size=1) (h1:c0.cell1=true) (hpu:c0.isPure1=true):OLoc P o e h [b] [(b,.row true 1 (List.replicate n [c0]))] (some (.tup [])):=by
 intro H ι a w s Q hs g1 g2;have hx':look s.env x=some (.ref b n 0 n):=by rw[g1 x Fv,hx]
 have hb':s.h b=some (.row true 1 es):=by rw[g2 b Az,hb]
 obtain⟨info,d,e1,e2,e3,e4,e5,e6⟩:=Af (hT _ _ ht);obtain⟨info',d',e1',e2',e3',e4',e5',e6'⟩:=Af (hT _ _ hj);have hd:=A0 (P:=P) (d:=d) (e3▸hk);subst hd;obtain⟨z,hz1,hz2⟩:=Cz e6' (by rw[hz,hsz];rfl) Ab;rw[hz]at hz2;obtain⟨z1,z2⟩:=CC (H:=H) (ι:=AE) hz2;obtain⟨cv,hcv⟩:∃cv,z.cells= #[cv]:=by
  have:z.cells.size=1:=by simpa using z1.symm
  exact⟨z.cells[0],Array.ext (by simpa using this) (by intro k k1 k2;simp at k2;subst k2;simp)⟩
 have hcr:Rel H AE c0 cv:=z2 0 c0 cv rfl (by rw[hcv];rfl);have hc1:cv.oneCell'=true:=Ka hcr h1;subst hn;obtain⟨r,hl,⟨r1,r2,r3,r4,r5,r6⟩,r7⟩:=hs.heap.obj b _ hb' rfl;have hsol:r.csz≠0:=fun h0=>by omega
 obtain⟨hlen,cap,hvv,hlc,hcap,hmax⟩:=(Ai hs hx').ref_live hl Ab hsol;obtain⟨c,TT,w1,w2,w3⟩:=r6 hsol;rw[r1]at hvv;simp only[Nat.zero_mul]at hvv;have hzc:(Builtin.zeroCells z.cells es.length).toList=List.replicate es.length cv:=by
  rw[hcv];simp[Builtin.zeroCells];apply List.ext_getElem
  . simp
  . intro i h1 h2;simp[Nat.mod_one]
 have hfit:0+0+(List.replicate es.length cv).length<=c.size:=by rw[List.length_replicate,w2];omega
 have hst:=CP P r.rb 0 TT (List.replicate es.length cv) 0 c w w1 hfit (by intro v hv;rw[List.eq_of_mem_replicate hv];exact hc1);simp only[Nat.zero_add,List.take_zero,List.nil_append,List.length_replicate]at hst;have hrun:(Builtin.clear_ #[t] o.type #[.slice (some ⟨r.rb,0,none⟩) es.length cap]).run P w=.ok (.tuple #[]) (w.setRow r.rb (List.replicate es.length cv++c.toList.drop es.length).toArray):=by
  obtain⟨m,hm⟩:∃m,es.length=m+1:=⟨es.length-1,by omega⟩
  rw[hm]at hzc hst|-;simp[Builtin.clear_,run_underlying e2,zeroValue,typeInfo,e1',hz1,hzc,hst]
 have hexec:(execOp a.eval o).run P w=.ok (.value (.tuple #[])) (w.setRow r.rb (List.replicate es.length cv++c.toList.drop es.length).toArray):=by
  simp only[execOp,ho,resolve,invoke,builtin,Sem.run_bind,Sem.run_pure,Result.andThen_ok,List.map_toArray,List.map_cons,List.map_nil];rw[hvv,hrun];rfl
 generalize hC:(List.replicate es.length cv++c.toList.drop es.length).toArray=C at*;have hCs:C.size=c.size:=by rw[<-hC];simp;omega
 have hrow:rowCells H AE 1 (List.replicate es.length [c0]) C:=by
  refine⟨fun i cs e=>by rw[List.eq_of_mem_replicate (List.mem_of_getElem? e)];rfl,fun i cs k y e1 e2=>?_⟩;have hi:i<es.length:=by have:=(List.getElem?_eq_some_iff.1 e1).1;simpa using this
  have:=List.eq_of_mem_replicate (List.mem_of_getElem? e1);subst this;have hk0:k=0:=by have:=(List.getElem?_eq_some_iff.1 e2).1;simp at this;omega
  subst hk0;simp at e2;subst e2;refine⟨cv,?_,hcr,h1⟩;rw[<-hC];simp only[List.getElem?_toArray];rw[List.getElem?_append_left FI,List.getElem?_replicate,if_pos Ab]
 obtain⟨u1,u2⟩:=hs.heap.upd (w':=w.setRow r.rb C) (o0:=.row true 1 es) (o':=.row true 1 (List.replicate es.length [c0])) (r':=r) hb' rfl
  (.inr ⟨r,hl,rfl,.inl rfl⟩) (fun _=>.inr ⟨r,hl,rfl,hsol,rfl⟩)
  (fun rb hlt' hne=>setRow_other w r.rb rb _ (hne r hl rfl hsol)) Az (FL _ _ _) (EW _ _ _)
  ⟨r1,r2,by simp[r3],by simpa using r4,hrow.1,fun _=>⟨C,TT,w1.setRow hCs,hCs.trans w2,hrow⟩⟩
 unfold Oper.wp;rw[hexec];exact⟨_,H,_,rfl,(fun x ex=>by cases ex;exact .tup _ _ _ rfl Xa),u1,u2⟩
end
section
variable {P : Program} {Q : Exit -> Ac -> Prop} {s : Ac} {c : Code}
def Un(P:Program)(c:Code)(Q:Exit->Ac->Prop):Nat->Ac->Prop
  |0,s=>AGo P c s (Bk (fun _=>False) Q)
  |n+1,s=>AGo P c s (Bk (Un P c Q n) Q)
theorem RA{n:Nat}(h:AGo P c s (Bk (Un P c Q n) Q)):Un P c Q (n+1) s:=h
theorem Rz(h:AGo P c s (Bk (fun _=>False) Q)):Un P c Q 0 s:=h
theorem PX{e:Exit}{s:Ac}{K:Ac->Prop}(h:Bk (fun _=>False) Q e s):Bk K Q e s:=by
 cases e with
 |normal=>exact False.elim h
 |_=>exact h
theorem bn{e:Exit}{s:Ac}{g:Nat}(h:Bk (Un P c Q g) Q e s):Bk (fun s'=>∃g',Un P c Q g' s'/\g'<g+1) Q e s:=by
 cases e with
 |normal=>exact⟨g,h,Nat.lt_succ_self g⟩
 |_=>exact h
theorem AGo.unroll(n:Nat)(h:Un P c Q n s):AGo P (.loop c) s Q:=by
 refine AGo.loop (Un P c Q) (fun g=>g) n h fun g s hg=>?_
 cases g with
 |zero=>exact AGo.mono (Q:=Bk (fun _=>False) Q) hg fun e s h=>PX h
 |succ g=>exact AGo.mono (Q:=Bk (Un P c Q g) Q) hg fun e s h=>bn h
end
section
variable {P : Program} {T : Nat -> Option Ae} {o : Oper} {e : Ar} {h : Aa}
theorem Of{f g:Nat->Option (Nat×Nat)}(hfg:∀i p,f i=some p->g i=some p):∀(ps:List (Nat×Value)) (cs r:Array Value),Instr.fill f cs ps=some r->Instr.fill g cs ps=some r
 | [],_,_,h=>h
 |(i,v)::ps,cs,r,h=>by
  unfold Instr.fill at h|-
  cases e:f i with
  |none=>rw[e]at h;cases h
  |some p=>
   rw[e]at h;rw[hfg i p e];obtain⟨off,sz⟩:=p;simp only at h|-;split at h
   . cases h
   . rename_i hc;rw[if_neg hc];exact Of hfg ps _ _ h
def Ov(len sz u:Nat):List (Nat×Nat):=(List.range len).map fun k=>(k*sz,u)
theorem Ku(hT:Bc P T){t:TypeId}{parts:Array (Nat×Operand)}{i j:Ae}{len u:Nat}{ps:List (Nat×AV)}{r:List AV}(ho:o.op=.build t parts)(hx:A6 e parts.toList=some ps)(hi:T t=some i)(hk:i.k=.array len u)(hj:T u=some j)(hz:i.zero.length=i.size)(hp:0<i.size)
 (hfit:DF T (Ov len j.size u) ps=true) (hr:CB (Ov len j.size u) ps i.zero=some r):QLoc P o e h [] (.agg r):=by
 intro H ι a w s hs g1 g2;have hx':A6 s.env parts.toList=some ps:=by
  exact WT
 obtain⟨l1,l2⟩:=Ci hs hx';obtain⟨info,d,e1,e2,e3,e4,e5,e6⟩:=Af (hT _ _ hi);obtain⟨info',d',e1',e2',e3',e4',e5',e6'⟩:=Af (hT _ _ hj);have hd:=GR (P:=P) (d:=d) (e3▸hk);subst hd;obtain⟨z,hz1,hz2⟩:=Cz e6 hz hp;obtain⟨z1,z2⟩:=CC (H:=H) (ι:=ι) hz2
 let places:Array (Nat×Nat):=((List.range len).map fun k=>(k*j.size,j.size)).toArray
 have hpl:∀(i off t:Nat),(Ov len j.size u)[i]?=some (off,t)->∃i',T t=some i'/\places[i]?=some (off,i'.size):=fun i off t h=>by
  simp only[Ov,List.getElem?_map,Option.map_eq_some_iff,Prod.mk.injEq]at h;obtain⟨k,hk,rfl,rfl⟩:=h;exact⟨j,hj,by simp[places,hk]⟩
 obtain⟨vs,f1,f2,f3⟩:=Mx (T:=T) (s:=s) (a:=a) (w:=w) hpl ps (parts.toList.map fun(i,x)=>(i,a.eval x)) i.zero z.cells r (by simp[l1]) (fun k p q k1 k2=>⟨(l2 k p q k1 k2).1,(l2 k p q k1 k2).2,Gh hfit k p k1⟩) (by simpa using z1) (fun j x v k1 k2=>z2 j x v k1 (by simpa using k2)) hr;have f1':=Of (g:=fun i=>some (i*j.size,j.size)) (fun i p h=>by
  simp only[places,List.getElem?_toArray,List.getElem?_map,Option.map_eq_some_iff]at h;obtain⟨k,hk,rfl⟩:=h;have:=(List.getElem?_eq_some_iff.1 hk);simp at this;rw[this.2]) _ _ _ f1
 refine⟨.agg vs,.agg _ _ _ f2 f3,?_⟩;have hparts:(parts.map fun(i,x)=>(i,a.eval x)).toList=parts.toList.map fun(i,x)=>(i,a.eval x):=by simp
 simp only[execOp,ho,Instr.build,zeroValue,typeInfo,Sem.run_bind,run_program,Result.andThen_ok,e1,hz1,Sem.run_pure,Aj e2,EE e1',e4',hparts,f1']
end
def AH(l:List UInt8):List (List AV):=l.map fun b=>[AV.int .u8 b.toNat]
theorem LU:∀(l:List UInt8) (s:ByteArray),(l.map (fun b:UInt8=>((b.toNat:Nat):Int))).foldl (fun r n=>r.push (UInt8.ofNat n.toNat)) s=⟨s.data++l.toArray⟩
 | [],s=>by simp
 |b::r,s=>by
  simp only[List.map_cons,List.foldl_cons,Int.toNat_natCast,UInt8.ofNat_toNat];rw[LU r];show ByteArray.mk (s.data.push b++r.toArray)=_;congr 1;apply Array.toList_inj.1
  simp
theorem Qu(l:List UInt8):(l.map (fun b:UInt8=>((b.toNat:Nat):Int))).foldl (fun r n=>r.push (UInt8.ofNat n.toNat)) ByteArray.empty=⟨l.toArray⟩:=by
 rw[LU];show ByteArray.mk (#[]++l.toArray)=_
 simp
section
variable {P : Program} {T : Nat -> Option Ae} {o : Oper} {e : Ar} {h : Aa}
theorem Ss(hT:Bc P T){t u:TypeId}{x:Operand}{l:List UInt8}{ex:Bool}{i j k:Ae}{v:Nat}(ho:o.op=.convert t u x)(hx:look e x=some (.lst ex (AH l)))(hi:T t=some i)(hik:i.k=.slice v)(hv:T v=some k)(hk:k.k=.int .u8)(hj:T u=some j)(hjk:j.k=.string):
 QLoc P o e h [] (.str ⟨l.toArray⟩):=by
 intro H ι a w s hs g1 g2;have hx':look s.env x=some (.lst ex (AH l)):=by rw[g1 x Bg,hx]
 obtain⟨info,d,e1,e2,e3,e4,e5,e6⟩:=Af (hT _ _ hi);obtain⟨info',d',e1',e2',e3',e4',e5',e6'⟩:=Af (hT _ _ hj);obtain⟨info'',d'',e1'',e2'',e3'',e4'',e5'',e6''⟩:=Af (hT _ _ hv);have hd:=A0 (P:=P) (d:=d) (e3▸hik);subst hd;have hd:=CZ (P:=P) (d:=d') (e3'▸hjk);subst hd;have hd:=Ex (P:=P) (d:=d'') (e3''▸hk);subst hd;have hvx:=Ai hs hx';generalize hva:a.eval x=va at hvx;refine⟨_,.str _ _,?_⟩;simp only[execOp,ho,hva,Sem.run_bind];have key:(Go.convert t u va).run P w=.ok (.string ⟨l.toArray⟩) w:=by
  rcases hvx.lst_inv with⟨hl,ad,cap,rfl,h1,h2,h3,h4⟩|⟨hne,b,off,cap,sz,c,vals,rfl,hb,hsz',hv',hr,hc1,hex,hcap,hmax⟩
  . have hl0:l=[]:=by simpa[AH]using hl
    subst hl0
    cases ad with
    |none=>simp[Go.convert,Aj e2,Aj e2',Aj e2'',Conv.bytesToString,Sem.run_pure];rfl
    |some ad=>
     rw[run_convert_bytes_string w t u v (some ad) 0 cap e2 e2'' e2'];rw[run_bytesToString w ad 0 cap [] (by simpa using run_loadCells (P:=P) (w:=w) ad 0 (fun _=>undef) (fun j hj=>by omega))];rfl
  . rw[run_convert_bytes_string w t u v (some ⟨b,off,none⟩) (AH l).length cap e2 e2'' e2'];obtain⟨TT,fr,hbw⟩:=hs.heap.know b c hb;have hlen:(AH l).length=l.length:=by simp[AH]
    rw[run_bytesToString w _ _ cap (l.map (fun b:UInt8=>((b.toNat:Nat):Int))) ?_,Qu];have hld:=run_loadCells_list (P:=P) (w:=w) ⟨b,off,none⟩ (l.map (fun b:UInt8=>Value.int .u8 b.toNat)) (fun j y hj=>by
     rw[List.getElem?_map]at hj
     cases hlj:l[j]? with
     |none=>rw[hlj]at hj;cases hj
     |some n=>
      rw[hlj]at hj
      cases hj
      have hbc:(AH l)[j]?=some [AV.int .u8 n.toNat]:=by simp[AH,hlj]
      have hsz:sz=1:=(hsz' j _ hbc).symm;subst hsz;have q1:=hv' j _ 0 _ hbc rfl;have q2:=(hr j _ 0 _ hbc rfl).int_inv;rw[Eb,Hn hbw];rw[q2,Nat.mul_one,Nat.add_zero]at q1;exact q1)
    rw[hlen];simpa[List.map_map,Function.comp_def]using hld
 simp only[key,Result.andThen_ok,Sem.run_pure]
end
section
variable {P : Program} {T : Nat -> Option Ae} {o : Oper} {e : Ar} {h : Aa}
end
section
variable {P : Program} {T : Nat -> Option Ae} {o : Oper} {e : Ar} {h : Aa}
theorem XY(hT:Bc P T){t:TypeId}{x y y':Operand}{ex:Bool}{es:List (List AV)}{i j:Ae}{u:Nat}{k k':IntKind}(ho:o.op=.slice t x none (some y) (some y'))(hx:look e x=some (.lst ex es))(hy:look e y=some (.int k (es.length:Int)))(hy':look e y'=some (.int k' (es.length:Int)))(ht:T t=some i)(hk:i.k=.slice u)(hj:T u=some j):
 QLoc P o e h [] (.lst true es):=by
 intro H ι a w s hs g1 g2;have hx':look s.env x=some (.lst ex es):=by rw[g1 x Bg,hx]
 have hy1:look s.env y=some (.int k (es.length:Int)):=by rw[g1 y Bg,hy]
 have hy2:look s.env y'=some (.int k' (es.length:Int)):=by rw[g1 y' Bg,hy']
 obtain⟨info,d,e1,e2,e3,e4,e5,e6⟩:=Af (hT _ _ ht);obtain⟨info',d',e1',e2',e3',e4',e5',e6'⟩:=Af (hT _ _ hj);have hd:=A0 (P:=P) (d:=d) (e3▸hk);subst hd;have hvx:=Ai hs hx';have hv1:=(Ai hs hy1).int_inv;have hv2:=(Ai hs hy2).int_inv;generalize hva:a.eval x=va at hvx;have hrun:∀(ad:Option Addr) (cap:Nat),es.length<=cap->va=.slice ad es.length cap->(execOp a.eval o).run P w=.ok (.value (.slice (if es.length=0 then ad else ad.map (·.add (0*j.size))) (es.length-0) (es.length-0))) w:=fun ad cap hcap hv=>by
  simp only[execOp,ho,hva,hv,hv1,hv2,Instr.sliceAt,Instr.slice,Option.map_none,Option.map_some,Sem.run_bind,Aj e2,Result.andThen_ok,EE e1',e4',Sem.run_pure];simp[Instr.sliceBounds,Instr.sliceBound,asIntOf,hcap]
 rcases hvx.lst_inv with⟨rfl,ad,cap,rfl,h1,h2,h3,h4⟩|⟨hne,b,off,cap,sz,c,vals,rfl,hb,hsz',hv,hr,hc1,hex,hcap,hmax⟩
 . refine⟨_,?_,hrun ad cap (Nat.zero_le _) rfl⟩;simp only[List.length_nil,if_true,Nat.sub_zero];exact .lst0 _ _ _ _ (fun _=>rfl) (Nat.zero_le _) (fun _=>rfl) trivial
 . refine⟨_,?_,hrun _ cap hcap rfl⟩;have hl:es.length≠0:=fun h=>hne (List.eq_nil_of_length_eq_zero h)
   rw[if_neg hl];have hadd:(some (⟨b,off,none⟩:Addr)).map (·.add (0*j.size))=some ⟨b,off,none⟩:=by simp[Addr.add]
   rw[hadd,Nat.sub_zero];exact .lst ι true es b off es.length sz c vals hne hb hsz' hv hr hc1 (fun _=>rfl) (Nat.le_refl _) Ab
def V1(f:Bool)(b:Nat)(es:List (List AV)):AV:=bif f then .lst true es else .ref b es.length 0 es.length
def Pe(f:Bool)(sz:Nat)(es:List (List AV)):AObj:=bif f then .free else .row true sz es
theorem NV(hT:Bc P T){t t':TypeId}{x y:Operand}{i i' j:Ae}{u u':Nat}{f ex2:Bool}{sz:Nat}{es es2:List (List AV)}(b:Nat)
 (ho:o.op=.call {callee:=.builtin .append,args:= #[x,y],argTypes:= #[t,t']}) (hx:look e x=some (V1 f b es)) (hy:look e y=some (.lst ex2 es2)) (hi:T t=some i) (hk:i.k=.slice u) (hj:T u=some j) (hi':T t'=some i') (hk':i'.k=.slice u')
 (hb:h b=some (Pe f sz es)) (hsz:sz=j.size) (hz:j.zero.length=j.size) (hp:0<j.size)
 (hu:∀cs∈es,cs.length=sz) (hpu:∀cs∈es,cs.all AV.isPure1=true) (hu2:∀cs∈es2,cs.length=sz) (hpure:∀cs∈es2,cs.all AV.isPure1=true)
 (hby:(es.length+es2.length)*j.bytes<=140737488355328) (hml:es.length+es2.length<=maxLen):
 OLoc P o e h [b] [(b,Pe (f&&es2.isEmpty) sz (es++es2))] (some (V1 (f&&es2.isEmpty) b (es++es2))):=by
 cases f with
 |false=>
  have:=G8 hT ho hx hy hi hk hj hi' hk' hb rfl hsz hz hp (.lst ex2 es2) hu2 (fun _=>hpure) (m:=es2.length) rfl hby hml;simpa[V1,Pe]using this
 |true=>
  simp only[V1,Pe,cond_true]at hx hb
  cases hes2:es2 with
  |nil=>
   subst hes2;simp only[List.isEmpty_nil,Bool.and_self,List.append_nil,Pe,V1,cond_true];intro H ι a w s Q hs g1 g2;have hx':look s.env x=some (.lst true es):=by rw[g1 x Fv,hx]
   have hy':look s.env y=some (.lst ex2 []):=by rw[g1 y Fv,hy]
   have hb':s.h b=some .free:=by rw[g2 b Az,hb]
   obtain⟨info,d,e1,e2,e3,e4,e5,e6⟩:=Af (hT _ _ hi);obtain⟨infou,du,f1,f2,f3,f4,f5,f6⟩:=Af (hT _ _ hj);obtain⟨info',d',e1',e2',e3',e4',e5',e6'⟩:=Af (hT _ _ hi');have hd:=A0 (P:=P) (d:=d) (e3▸hk);subst hd;have hd':=A0 (P:=P) (d:=d') (e3'▸hk');subst hd';have hvx:=Ai hs hx';have hvy:=Ai hs hy';generalize hva:a.eval x=va at hvx;generalize hvb:a.eval y=vb at hvy;obtain⟨news,hsrcw,hnews⟩:=JN hs.heap (SrcOf.lst ex2 []) hvy e2' hp (by intro cs h;cases h) w rfl;rw[<-f4]at hsrcw;have hnn:news=[]:=List.eq_nil_of_length_eq_zero (by rw[hsrcw.newsLen];simp);subst hnn;have hsame:AA s.h [(b,.free)]=s.h:=by
    funext c;exact eV
   have hexec:∀(v:Value) (w':World),(Builtin.append_ #[t,t'] o.type #[va,vb]).run P w=.ok v w'->(execOp a.eval o).run P w=.ok (.value v) w':=fun v w' hrun=>by
    exact UJ
   have hrun:(Builtin.append_ #[t,t'] o.type #[va,vb]).run P w=.ok va w:=by
    rcases hvx.lst_inv with⟨rfl,ad,cap,rfl,h1,h2,h3,h4⟩|⟨hne,b0,off,cap,sz0,c,vals,rfl,hb0,hsz',hv,hr,hc1,hex,hcap,hmax⟩
    . have:=h1 rfl;subst this;exact GZ t t' o.type u infou e2 f1 ad vb hsrcw
    . have hsrc0:Src P infou.size t' vb 0 [] w:=hsrcw;have h1:=hsrc0.len;have h2:=hsrc0.cells;rcases hsrcw.kind with⟨e',hk⟩|hk<;>simp[Builtin.append_,run_underlying e2,run_underlying hk,sizeOf,typeInfo,f1,h1,h2,hcap,storeCells]
   unfold Oper.wp;rw[hexec _ _ hrun,hsame];exact⟨va,H,ι,rfl,(fun x ex=>by have:=Option.some.inj ex;subst this;exact hvx),hs.heap,Step.refl _ _ _ _⟩
  |cons y0 r0=>
   rw[<-hes2];have hpos:0<es2.length:=by rw[hes2];simp
   have hie:es2.isEmpty=false:=by rw[hes2];rfl
   simp only[hie,Bool.and_false,Pe,V1,cond_false];subst hsz;refine Du hb Az hp fun H ι a w s hs g1 g2=>?_
   have hx':look s.env x=some (.lst true es):=by rw[g1 x Fv,hx]
   have hy':look s.env y=some (.lst ex2 es2):=by rw[g1 y Fv,hy]
   obtain⟨info,d,e1,e2,e3,e4,e5,e6⟩:=Af (hT _ _ hi);obtain⟨infou,du,f1,f2,f3,f4,f5,f6⟩:=Af (hT _ _ hj);obtain⟨info',d',e1',e2',e3',e4',e5',e6'⟩:=Af (hT _ _ hi');have hd:=A0 (P:=P) (d:=d) (e3▸hk);subst hd;have hd':=A0 (P:=P) (d:=d') (e3'▸hk');subst hd';obtain⟨z,hz1,hz2⟩:=Cz f6 hz hp;have hzl:z.cells.size=j.size:=by rw[<-hz];simpa using(CC (H:=H) (ι:=AE) hz2).1.symm
   have hvx:=Ai hs hx';have hvy:=Ai hs hy';generalize hva:a.eval x=va at hvx;generalize hvb:a.eval y=vb at hvy;have hexec:∀(v:Value) (w':World),(Builtin.append_ #[t,t'] o.type #[va,vb]).run P w=.ok v w'->(execOp a.eval o).run P w=.ok (.value v) w':=fun v w' hrun=>by
    exact UJ
   obtain⟨news,hsrcw,hnews⟩:=JN hs.heap (SrcOf.lst ex2 es2) hvy e2' hp hu2 w rfl;rw[<-f4]at hsrcw;have hnl:news.length=es2.length*j.size:=by rw[hsrcw.newsLen,f4]
   have h63:((es.length+es2.length:Nat):Int)<=9223372036854775807:=by
    have:=hml;simp only[maxLen]at this;omega
   -- what stands there already
   obtain⟨base,olds,hv,hold,hol,holdr⟩:∃(base:Option Addr) (olds:List Value),va=.slice base es.length es.length/\(Builtin.firstCells infou.size es.length (.slice base es.length es.length)).run P w.drew=.ok olds.toArray w.drew/\olds.length=es.length*j.size/\
    (∀(i:Nat) (cs:List AV) (k:Nat) (x:AV),es[i]?=some cs->cs[k]?=some x->∃v,olds[i*j.size+k]?=some v/\Rel H AE x v/\x.cell1=true):=by
    rcases hvx.lst_inv with⟨rfl,ad,cap,rfl,h1,h2,h3,h4⟩|⟨hne,b0,off,cap,sz0,c,vals,rfl,hb0,hsz',hv,hr,hc1,hex,hcap,hmax⟩
    . have:=h1 rfl;subst this;refine⟨ad,[],rfl,?_,by simp,fun i cs k x h1=>by simp at h1⟩
      cases ad<;>simp[Builtin.firstCells,loadCells,loadCellsFrom]
    . have hcl:=hex rfl;subst hcl;obtain⟨TT,fr,hbw⟩:=hs.heap.know b0 c hb0;have hss:sz0=j.size:=by
       exact gI
      subst hss;have hget:∀k,k<es.length*j.size->∃v,c[off+k]?=some v:=fun k hk=>by
       have hi:k/j.size<es.length:=Nat.div_lt_of_lt_mul (by rw[Nat.mul_comm];exact hk);have hm:k%j.size<j.size:=Nat.mod_lt _ hp;have hjj:k/j.size*j.size+k%j.size=k:=by rw[Nat.mul_comm];exact Nat.div_add_mod k j.size
       have h1:es[k/j.size]?=some es[k/j.size]:=List.getElem?_eq_getElem hi;have h2:(es[k/j.size])[k%j.size]?=some ((es[k/j.size])[k%j.size]'(by rw[hsz' _ _ h1];exact hm)):=List.getElem?_eq_getElem _;have:=hv _ _ _ _ h1 h2;rw[Nat.add_assoc,hjj]at this;exact⟨_,this⟩
      have hfit:off+es.length*j.size<=c.size:=by
       rcases Nat.eq_zero_or_pos (es.length*j.size)with h0|h0
       . have:=List.length_pos_iff.2 hne;have:=Nat.mul_pos this hp;omega
       . obtain⟨v,hv⟩:=hget (es.length*j.size-1) Ab;have:=(Array.getElem?_eq_some_iff.1 hv).1;omega
      have hg:∀k,k<es.length*j.size->((c.toList.drop off).take (es.length*j.size))[k]?=c[off+k]?:=fun k hk=>by
       rw[List.getElem?_take_of_lt hk,List.getElem?_drop,Array.getElem?_toList]
      have hl:((c.toList.drop off).take (es.length*j.size)).length=es.length*j.size:=by simp;omega
      refine⟨_,(c.toList.drop off).take (es.length*j.size),rfl,?_,hl,fun i cs k x h1 h2=>?_⟩
      . rw[f4];refine run_firstCells_some (P:=P) w.drew j.size es.length ⟨b0,off,none⟩ es.length es.length _ hl (fun k v hk=>?_);have hkl:k<es.length*j.size:=by
         have:=(List.getElem?_eq_some_iff.1 hk).1;omega
        rw[hg k hkl]at hk;rw[Eb,World.cell?_drew,Hn hbw];exact hk
      . have hi:i<es.length:=(List.getElem?_eq_some_iff.1 h1).1;have hkk:k<j.size:=by rw[<-hsz' i cs h1];exact(List.getElem?_eq_some_iff.1 h2).1
        have h3:=hv i cs k x h1 h2;exact⟨_,by rw[hg _ (BZ hi hkk),<-Nat.add_assoc];exact h3,hr i cs k x h1 h2,hc1 i cs k x h1 h2⟩
   have hfit:Builtin.nextslicecap (es.length+es2.length) es.length*infou.bytes<=281474976710656:=growslice_fits Ab (by rw[f5];exact hby);have hrun:=run_append_grow_src (P:=P) w t t' o.type u infou z e2 f1 hz1 base es.length es.length olds hold vb es2.length news hsrcw Ab h63 hfit;have hge:=grownCap_ge w (es.length+es2.length) es.length u;have hcm:grownCap w (es.length+es2.length) es.length u<=maxLen:=grownCap_le_maxLen w _ es.length u hml;generalize hcc:grownCap w (es.length+es2.length) es.length u=nc at*;generalize hC:(olds++news).toArray++Builtin.zeroCells z.cells (nc-(es.length+es2.length))=C at*;have hCs:C.size=nc*j.size:=by
    exact fC
   have hCg:∀k,k<olds.length+news.length->C[k]?=(olds++news)[k]?:=fun k hk=>by
    exact WZ
   have hnewsp:∀(i:Nat) (cs:List AV) (k:Nat) (y:AV),es2[i]?=some cs->cs[k]?=some y->∃v,news[i*j.size+k]?=some v/\Rel H AE y v/\y.cell1=true:=fun i cs k y h1 h2=>by
    obtain⟨v,k1,k2,k3⟩:=hnews i cs k y h1 h2;exact⟨v,k1,B3 (List.all_eq_true.1 (hpure cs (List.mem_of_getElem? h1)) y (List.mem_of_getElem? h2)) k2,k3⟩
   refine⟨_,C,u,w.drew,rfl,rfl,rfl,?_,De hol hnl hu2 (fun i cs h=>hu cs (List.mem_of_getElem? h)) holdr hnewsp hCg,hexec _ _ (hv▸hrun),?_⟩
   . rw[List.length_append,hCs];exact Nat.mul_le_mul_right _ hge
   . have:=Rel.refL (H:=H) (Cv ι b ⟨w.heap.size,j.size,(es++es2).length,C.size⟩) b (es++es2).length 0 (es++es2).length nc _ (AO _ _ _) rfl Ab (by rw[List.length_append];exact hge) (by simp[hCs]) hcm;simpa using this
end
theorem Ghost.trans{s s' s'':Ac}(g1:Ghost s s')(g2:Ghost s' s''):Ghost s s'':=fun H ι a w hs=>by
 obtain⟨H1,ι1,h1,s1⟩:=g1 H ι a w hs;obtain⟨H2,ι2,h2,s2⟩:=g2 H1 ι1 a w h1;exact⟨H2,ι2,h2,Step.trans hs.heap s1 h1.heap s2⟩
theorem VH{H:Aq}{ι:AL}{v:Value}(h:Rel H ι .nil v):Rel H ι (.lst false []) v:=by
 rw[h.nil_inv];exact .lst0 _ _ _ _ Fu (Nat.zero_le _) (fun _=>rfl) trivial
theorem Nj{n:Nat}{e:Ar}{h:Aa}(b:Nat){sz:Nat}{es es':List (List AV)}(hb:h b=some (.row true sz es))(hl:es'.length=es.length)
 (hw:∀(i:Nat) (cs cs':List AV),es[i]?=some cs->es'[i]?=some cs'->cs'.length=cs.length/\∀(j:Nat) (x y:AV),cs[j]?=some x->cs'[j]?=some y->y.cell1=true/\∀H v,Rel H AE x v->Rel H AE y v):Ghost ⟨n,e,h⟩ ⟨n,e,Al h b (.row true sz es')⟩:=fun H ι a w hs=>by
 obtain⟨r,hr,⟨r1,r2,r3,r4,r5,r6⟩,r7⟩:=hs.heap.obj b _ hb rfl;have hlput:Cv ι b r=ι:=by
  funext c
  by_cases hc:c=b
  . subst hc;rw[AO,hr]
  . rw[B8 _ _ hc]
 have old:∀(i:Nat) (cs':List AV),es'[i]?=some cs'->∃cs,es[i]?=some cs:=fun i cs' h=>by
  have:=(List.getElem?_eq_some_iff.1 h).1;exact⟨_,List.getElem?_eq_getElem Ab⟩
 have hlen:∀(i:Nat) (cs':List AV),es'[i]?=some cs'->cs'.length=sz:=fun i cs' h=>by
  obtain⟨cs,hc⟩:=old i cs' h;rw[(hw i cs cs' hc h).1,r5 i cs hc]
 have:=hs.heap.upd (w':=w) (o0:=.row true sz es) (o':=.row true sz es') (r':=r) hb rfl (.inr ⟨r,hr,rfl,.inl rfl⟩) (fun hs'=>.inr ⟨r,hr,rfl,hs',rfl⟩) (fun _ _ _=>rfl) (Nat.le_refl _) rfl rfl
  ⟨r1,r2,by rw[hl];exact r3,by rw[hl];exact r4,hlen,fun hsol=>by
   obtain⟨c,TT,w1,w2,w3⟩:=r6 hsol;exact⟨c,TT,w1,w2,hlen,fun k ds q z hk hq=>by
    obtain⟨cs,hc⟩:=old k ds hk;obtain⟨e1,e2⟩:=hw k cs ds hc hk;have hq':q<cs.length:=by rw[<-e1];exact(List.getElem?_eq_some_iff.1 hq).1
    have hx:cs[q]?=some cs[q]:=List.getElem?_eq_getElem hq';obtain⟨v,f1,f2,f3⟩:=w3.2 k cs q _ hc hx;obtain⟨g1,g2⟩:=e2 q _ z hx hq;exact⟨v,f1,g2 _ _ f2,g1⟩⟩⟩
 exact W0
theorem Bm{h:Aa}{k b:Nat}(hh:HSub (AU k) h)(hb:b<k):HSub (AU k) (hrm h b):=fun c x hx=>by
 have hne:c≠b:=fun e=>by
  subst e;have h1:Nat.blt c k=true:=by rw[Nat.blt_eq];exact hb
  simp only[AU,h1,cond_true]at hx
  cases hx
 rw[Hi _ hne];exact hh c x hx
def Ao(K:IntKind)(l:List Int):List AV:=l.map fun n=>.int K n
def C4(K:IntKind)(l:List Int):Array Value:=(l.map fun n=>Value.int K n).toArray
theorem V2{H:Aq}{ι:AL}{K:IntKind}{l:List Int}{us:Array Value}(hl:(Ao K l).length=us.size)(h:∀(j:Nat) (x:AV) (v:Value),(Ao K l)[j]?=some x->us[j]?=some v->Rel H ι x v):us=C4 K l:=by
 apply Array.ext
 . simpa[Ao,C4]using hl.symm
 . intro j h1 h2;have hj:j<l.length:=by simpa[C4]using h2
   have:=h j (.int K l[j]) us[j] (by simp[Ao,hj]) (Array.getElem?_eq_getElem h1);rw[this.int_inv];simp[C4]
section
variable {P : Program}
theorem GX{w:World}{t:TypeId}{K:IntKind}{l:List Int}(hu:P.underlying t=some (.int K)){j:Nat}{n:Int}(h:l[j]?=some n):(part t (C4 K l) j).run P w=.ok (.int K n) w:=
 JQ hu rfl (by simp[C4,h])
theorem Ly{w:World}{t:TypeId}{K:IntKind}(hu:P.underlying t=some (.int K))(d:Nat)(l1 l2:List Int):∀(m k:Nat),l1.length=k+m->l2.length=k+m->
 (Op.eqItems (d+1) t 1 (C4 K l1) (C4 K l2) (List.range' k m)).run P w=.ok (decide (l1.drop k=l2.drop k)) w
 |0,k,h1,h2=>by
  rw[List.drop_of_length_le Ab,List.drop_of_length_le Ab];simp[Op.eqItems]
 |m+1,k,h1,h2=>by
  have g1:k<l1.length:=by omega
  have g2:k<l2.length:=by omega
  have ih:=Ly (w:=w) hu d l1 l2 m (k+1) Ab Ab;rw[List.range'_succ];simp only[Op.eqItems,Nat.mul_one,Sem.run_bind,GX hu (List.getElem?_eq_getElem g1),GX hu (List.getElem?_eq_getElem g2),Result.andThen_ok,run_equalIn_int w d t _ _ _ _ hu];have hd:(l1.drop k=l2.drop k)↔(l1[k]=l2[k]/\l1.drop (k+1)=l2.drop (k+1)):=by
   rw[List.drop_eq_getElem_cons g1,List.drop_eq_getElem_cons g2,List.cons.injEq]
  by_cases he:l1[k]=l2[k]
  . simp only[he,if_true,Result.andThen_ok];simp only[hd,he,true_and];simp[ih]
  . simp[hd,he]
theorem HT{w:World}{t e:TypeId}{n:Nat}{K:IntKind}(hu:P.underlying t=some (.array n e))(he:P.underlying e=some (.int K))(hc:P.cellsOf e=1)(d:Nat){l1 l2:List Int}(h1:l1.length=n)(h2:l2.length=n):
 (Op.equalIn (d+2) t (.agg (C4 K l1)) (.agg (C4 K l2))).run P w=.ok (decide (l1=l2)) w:=by
 obtain⟨i,hi⟩:=info_of_underlying he;rw[run_equalIn_array w (d+1) _ _ hu hi,hc,List.range_eq_range'];have:=Ly (w:=w) he d l1 l2 n 0 Ab Ab;simpa using this
theorem M6{w:World}{kt:TypeId}{K:IntKind}(hk:P.underlying kt=some (.int K))(em:Bool)(n:Nat)(z:Int):(Instr.checkKey em (n+1) kt (.int K z)).run P w=.ok () w:=by
 rw[Instr.checkKey];simp[Aj hk]
theorem Eh{w:World}{t e:TypeId}{n:Nat}{K:IntKind}(hu:P.underlying t=some (.array n e))(he:P.underlying e=some (.int K))(hc:P.cellsOf e=1)(em:Bool){l:List Int}(h:l.length=n):(Instr.checkKey em 10000 t (.agg (C4 K l))).run P w=.ok () w:=by
 obtain⟨i,hi⟩:=info_of_underlying he;rw[Instr.checkKey];simp only[Sem.run_bind,Aj hu,Result.andThen_ok];simp only[Std.Legacy.Range.forIn_eq_forIn_range',Std.Legacy.Range.size,Nat.sub_zero,Nat.add_one_sub_one,Nat.div_one];have key:∀(m k:Nat),l.length=k+m->((forIn (List.range' k m) PUnit.unit fun i r=>do let a<-sizeOf e;let b<-part e (C4 K l) (i*a);Instr.checkKey em 9999 e b;pure (ForInStep.yield PUnit.unit)):Sem PUnit).run P w=.ok PUnit.unit w:=by
  intro m
  induction m with
  |zero=>intro k hk;simp
  |succ m ih=>
   intro k hk;have hkl:k<l.length:=by omega
   have ih':=ih (k+1) Ab;rw[List.range'_succ];simp only[List.forIn_cons,Sem.run_bind,run_sizeOf w hi,hc,Nat.mul_one,Result.andThen_ok,GX he (List.getElem?_eq_getElem hkl),M6 he em 9998];simpa using ih'
 have h0:=key n 0 Ab;simp at h0|-;rw[h0];rfl
end
abbrev GD:=List (List Int×AV)
def BI(K:IntKind)(m:GD):List (AV×AV):=m.map fun p=>(.agg (Ao K p.1),p.2)
def Fq(z:List Int):GD->Option (Nat×AV)
  | []=>none
  |(k,v)::r=>bif z==k then some (0,v)else(Fq z r).map fun p=>(p.1+1,p.2)
def Ng(z:List Int)(m:GD):Option AV:=(Fq z m).map (·.2)
def Kd(z:List Int)(v:AV):GD->GD
  | []=>[(z,v)]
  |(k,u)::r=>bif z==k then(k,v)::r else(k,u)::Kd z v r
inductive EntRelA(H:Aq)(K:IntKind):GD->List MapEntry->Prop
  |nil:EntRelA H K [] []
  |cons (z:List Int) (v:AV) (m:GD) (e:MapEntry) (es:List MapEntry) (hk:e.key=.agg (C4 K z)) (hv:Rel H AE v e.val) (h:EntRelA H K m es):EntRelA H K ((z,v)::m) (e::es)
theorem di(H:Aq)(K:IntKind)(z:List Int):Rel H AE (.agg (Ao K z)) (.agg (C4 K z)):=
 .agg _ _ _ (by simp[Ao,C4]) fun j x u h1 h2=>by
  simp only[Ao,List.getElem?_map,Option.map_eq_some_iff]at h1;obtain⟨n,hn,rfl⟩:=h1;have:u=.int K n:=by simpa[C4,hn]using h2.symm
  subst this;exact .int _ _ _
theorem Rel.ints{H:Aq}{ι:AL}{K:IntKind}{z:List Int}{v:Value}(h:Rel H ι (.agg (Ao K z)) v):v=.agg (C4 K z):=by
 obtain⟨us,rfl,h1,h2⟩:=h.agg_inv;rw[V2 h1 h2]
theorem ME{H:Aq}{K:IntKind}:∀{m:GD} {es:List MapEntry},(BI K m).length=es.length->(∀(j:Nat) (k v:AV),(BI K m)[j]?=some (k,v)->∃e,es[j]?=some e/\Rel H AE k e.key/\Rel H AE v e.val)->EntRelA H K m es
 | [],es,h1,_=>by
  have:es=[]:=List.length_eq_zero_iff.1 (by simpa[BI]using h1.symm);subst this;exact .nil
 |(z,v)::m,[],h1,_=>by simp[BI]at h1
 |(z,v)::m,e::es,h1,h2=>by
  obtain⟨e',g1,g2,g3⟩:=h2 0 (.agg (Ao K z)) v rfl;simp at g1;subst g1;exact .cons z v m e es g2.ints g3 (ME (by simpa[BI]using h1) fun j k u hj=>by
   obtain⟨e',k1,k2⟩:=h2 (j+1) k u (by simpa[BI]using hj);exact⟨e',by simpa using k1,k2⟩)
theorem EntRelA.out{H:Aq}{K:IntKind}{m:GD}{es:List MapEntry}(h:EntRelA H K m es):(BI K m).length=es.length/\∀(j:Nat) (k v:AV),(BI K m)[j]?=some (k,v)->∃e,es[j]?=some e/\Rel H AE k e.key/\Rel H AE v e.val:=by
 induction h with
 |nil=>exact⟨rfl,fun j k v h=>by simp[BI]at h⟩
 |cons z v m e es hk hv h ih=>
  refine⟨by simpa[BI]using ih.1,fun j k u hj=>?_⟩
  cases j with
  |zero=>
   simp[BI]at hj;obtain⟨rfl,rfl⟩:=hj;exact⟨e,rfl,by rw[hk];exact di _ _ _,hv⟩
  |succ j=>
   obtain⟨e',k1,k2⟩:=ih.2 j k u (by simpa[BI]using hj);exact⟨e',by simpa using k1,k2⟩
theorem mapCellsA_iff{H:Aq}{K:IntKind}{m:GD}{es:Array MapEntry}:Hb H (BI K m) es↔EntRelA H K m es.toList:=by
 constructor
 . rintro⟨h1,h2⟩
   exact ME Ld fun j k v hj=>by
    obtain⟨e,g1,g2⟩:=h2 j k v hj;exact⟨e,by simpa using g1,g2⟩
 . intro h;exact fD
theorem EntRelA.find{H:Aq}{K:IntKind}{m:GD}{es:List MapEntry}{P:Program}{w:World}{t e0:TypeId}{n:Nat}(hu:P.underlying t=some (.array n e0))(he:P.underlying e0=some (.int K))(hc:P.cellsOf e0=1)
 (h:EntRelA H K m es) {z:List Int} (hz:z.length=n) (hm:∀p∈m,p.1.length=n):∀i,∃r,(Instr.findAsking t (.agg (C4 K z)) es i).run P w=.ok r w/\
 ((Fq z m=none/\r=none)\/∃j v e,Fq z m=some (j,v)/\r=some (i+j,e.val)/\es[j]?=some e/\e.key=.agg (C4 K z)/\Rel H AE v e.val):=by
 induction h with
 |nil=>exact fun i=>⟨none,by simp[Instr.findAsking],.inl ⟨rfl,rfl⟩⟩
 |cons k v m e es hk hv h ih=>
  intro i;obtain⟨r,r1,r2⟩:=ih (fun p hp=>hm p (by simp[hp])) (i+1);have heq:(Op.equal t (.agg (C4 K z)) e.key).run P w=.ok (decide (z=k)) w:=by
   rw[hk];exact HT hu he hc 9998 hz (hm (k,v) Az)
  by_cases hzk:z=k
  . subst hzk;refine⟨some (i,e.val),by simp[Instr.findAsking,heq],.inr ⟨0,v,e,by simp[Fq],rfl,rfl,hk,hv⟩⟩
  . have hb:(z==k)=false:=by simpa using hzk
    refine⟨r,by simp[Instr.findAsking,heq,hzk,r1],?_⟩;rcases r2 with⟨g1,g2⟩|⟨j,u,e',g1,g2,g3,g4⟩
    . exact .inl ⟨by simp[Fq,hb,g1],g2⟩
    . exact .inr ⟨j+1,u,e',by simp[Fq,hb,g1],by rw[g2];congr 2;omega,by simpa using g3,g4⟩
theorem EntRelA.set_new{H:Aq}{K:IntKind}{m:GD}{es:List MapEntry}(h:EntRelA H K m es){z:List Int}{v:AV}{val:Value}(hv:Rel H AE v val)(clk:Nat)(hn:Fq z m=none):EntRelA H K (Kd z v m) (es++[{key:=.agg (C4 K z),val:=val,born:=clk}]):=by
 induction h with
 |nil=>exact .cons z v [] _ [] rfl hv .nil
 |cons k u m e es hk hu h ih=>
  unfold Fq at hn
  cases hz:z==k with
  |true=>rw[hz]at hn;cases hn
  |false=>
   rw[hz]at hn;have:Fq z m=none:=by simpa using hn
   unfold Kd;rw[hz];exact .cons k u _ e _ hk hu (ih this)
theorem EntRelA.set_old{H:Aq}{K:IntKind}{m:GD}{es:List MapEntry}(h:EntRelA H K m es){z:List Int}{v:AV}{val:Value}(hv:Rel H AE v val):∀{j:Nat} {v0:AV},Fq z m=some (j,v0)->EntRelA H K (Kd z v m) (es.modify j fun e=>{e with key:=.agg (C4 K z),val:=val}):=by
 induction h with
 |nil=>intro j v0 hn;cases hn
 |cons k u m e es hk hu h ih=>
  intro j v0 hn;unfold Fq at hn
  cases hz:z==k with
  |true=>
   rw[hz]at hn;simp at hn;obtain⟨rfl,rfl⟩:=hn;unfold Kd;exact eG
  |false=>
   rw[hz]at hn;simp only[cond_false,Option.map_eq_some_iff]at hn;obtain⟨⟨j',v'⟩,g1,g2⟩:=hn;simp at g2;obtain⟨rfl,rfl⟩:=g2;unfold Kd;rw[hz];exact .cons k u _ e _ hk hu (ih g1)
theorem EF{P:Program}{w:World}{t e0:TypeId}{n:Nat}(hu:P.underlying t=some (.array n e0))(x:Value)(es:List MapEntry):(Instr.findKey t x es).run P w=(Instr.findAsking t x es).run P w:=
 run_findKey_eq w (by rw[hu]) x es
theorem OM(K:IntKind)(z:List Int):Instr.sameBits 10000 (.agg (C4 K z)) (.agg (C4 K z))=true:=by
 rw[Instr.sameBits];simp only[beq_self_eq_true,Bool.true_and,List.all_eq_true]
 rintro⟨a,b⟩ hab
 have h1:∀(l:List Value) (a b:Value),(a,b)∈l.zip l->a=b/\a∈l:=by
  intro l
  induction l with
  |nil=>intro a b h;simp at h
  |cons x l ih=>
   intro a b h;simp only[List.zip_cons_cons,List.mem_cons,Prod.mk.injEq]at h;rcases h with⟨rfl,rfl⟩|h
   . exact⟨rfl,by simp⟩
   . obtain⟨g1,g2⟩:=ih a b h;exact⟨g1,by simp[g2]⟩
 obtain⟨rfl,hm⟩:=h1 _ a b hab;simp only[C4,List.mem_map]at hm;obtain⟨n,_,rfl⟩:=hm;rw[Instr.sameBits]
 simp
theorem M5{P:Program}{w:World}{K:IntKind}(z:List Int):(Instr.keyThatStays (.agg (C4 K z)) (.agg (C4 K z))).run P w=.ok (.agg (C4 K z)) w:=by
 unfold Instr.keyThatStays;rw[if_pos (OM K z)];rfl
section
variable {P : Program} {T : Nat -> Option Ae} {o : Oper} {e : Ar} {h : Aa}
theorem LQ(hT:Bc P T){t t':TypeId}{x y:Operand}{K:IntKind}{l1 l2:List Int}{i j:Ae}{n e0:Nat}(neg:Bool)(ho:o.op=.binOp (bif neg then .neq else .eql) t x y t')(hx:look e x=some (.agg (Ao K l1)))(hy:look e y=some (.agg (Ao K l2)))(hp:P.eqGuardType P.depth t=false)(hi:T t=some i)(hk:i.k=.array n e0)
 (hj:T e0=some j) (hjk:j.k=.int K) (h1:l1.length=n) (h2:l2.length=n) (hc:P.cellsOf e0=1):QLoc P o e h [] (.bool (bif neg then !(decide (l1=l2))else decide (l1=l2))):=by
 intro H ι a w s hs g1 g2;have hx':look s.env x=some (.agg (Ao K l1)):=by rw[g1 x Bg,hx]
 have hy':look s.env y=some (.agg (Ao K l2)):=by rw[g1 y Bg,hy]
 have hvx:=(Ai hs hx').ints;have hvy:=(Ai hs hy').ints;obtain⟨info,d,e1,e2,e3,e4,e5,e6⟩:=Af (hT _ _ hi);obtain⟨info',d',e1',e2',e3',e4',e5',e6'⟩:=Af (hT _ _ hj);have hd:=GR (P:=P) (d:=d) (e3▸hk);subst hd;have hd':=Ex (P:=P) (d:=d') (e3'▸hjk);subst hd';have hrun:(Op.equalIn 10000 t (.agg (C4 K l1)) (.agg (C4 K l2))).run P w=.ok (decide (l1=l2)) w:=HT e2 e2' hc 9998 h1 h2;refine⟨_,.bool _ _,?_⟩
 cases neg with
 |true=>
  simp only[cond_true]at ho|-;simp only[execOp,ho,hvx,hvy,Sem.run_bind,run_eqGuard_agg w .neq t x y _ _ hp,Result.andThen_ok,run_neq_struct,hrun,Sem.run_pure]
 |false=>
  simp only[cond_false]at ho|-;simp only[execOp,ho,hvx,hvy,Sem.run_bind,run_eqGuard_agg w .eql t x y _ _ hp,Result.andThen_ok,run_eql_struct,hrun,Sem.run_pure]
theorem Ks(hT:Bc P T){t kt et:TypeId}{x y:Operand}{b:Nat}{K:IntKind}{z:List Int}{m:GD}{i j j0:Ae}{n e0:Nat}{zv:Value}{z0:AV}(ho:o.op=.lookup t x y true)(hx:look e x=some (.map b))(hy:look e y=some (.agg (Ao K z)))(hb:h b=some (.map (BI K m)))
 (hi:T t=some i) (hk:i.k=.map kt et) (hj:T kt=some j) (hjk:j.k=.array n e0) (hj0:T e0=some j0) (hjk0:j0.k=.int K) (hc:P.cellsOf e0=1) (hzl:z.length=n) (hm:∀p∈m,p.1.length=n) (hz:(P.info? et).bind (·.zero)=some zv) (hz0:Ho zv=some z0):QLoc P o e h [b] (.tup [(Ng z m).getD z0,.bool (Ng z m).isSome]):=by
 intro H ι a w s hs h1 h2;have hx':look s.env x=some (.map b):=by rw[h1 x Bg,hx]
 have hy':look s.env y=some (.agg (Ao K z)):=by rw[h1 y Bg,hy]
 have hb':s.h b=some (.map (BI K m)):=by rw[h2 b Az,hb]
 obtain⟨info,d,e1,e2,e3,e4,e5,e6⟩:=Af (hT _ _ hi);obtain⟨info',d',e1',e2',e3',e4',e5',e6'⟩:=Af (hT _ _ hj);obtain⟨info0,d0,e10,e20,e30,e40,e50,e60⟩:=Af (hT _ _ hj0);have hd:=GQ (P:=P) (d:=d) (e3▸hk);subst hd;have hd':=GR (P:=P) (d:=d') (e3'▸hjk);subst hd';have hd0:=Ex (P:=P) (d:=d0) (e30▸hjk0);subst hd0;have hvy:=(Ai hs hy').ints;obtain⟨r,hr,hr0,hvx⟩:=(Ai hs hx').map_inv;obtain⟨r',hl,⟨r1,r2,es,clk,r3,r4,r6⟩,r5⟩:=hs.heap.obj b _ hb' rfl;rw[hr]at hl;cases hl;obtain⟨rr,f1,f2⟩:=(mapCellsA_iff.1 r4).find (w:=w) e2' e20 hc hzl hm 0;have hzero:(zeroValue et).run P w=.ok zv w:=by
  exact gR
 rcases f2 with⟨g1,rfl⟩|⟨p,v,en,g1,rfl,g3,g4,g5⟩
 . refine⟨.tuple #[zv,.bool false],?_,?_⟩
   . simp only[Ng,g1,Option.map_none,Option.getD_none,Option.isSome_none];exact kA
   . simp[execOp,ho,Instr.lookup,hvx,hvy,Aj e2,MapKept.run_getObj_map r3,Eh e2' e20 hc _ hzl,EF e2',f1,hzero]
 . refine⟨.tuple #[en.val,.bool true],?_,?_⟩
   . simp only[Ng,g1,Option.map_some,Option.getD_some,Option.isSome_some];exact kE
   . simp[execOp,ho,Instr.lookup,hvx,hvy,Aj e2,MapKept.run_getObj_map r3,Eh e2' e20 hc _ hzl,EF e2',f1]
theorem Sz{t:TypeId}(K:IntKind)(b:Nat)(ho:o.op=.makeMap t none)(hb:h b=some .free):OLoc P o e h [b] [(b,.map (BI K []))] (some (.map b)):=JX K b ho hb
theorem Mc{H:Aq}{ι:AL}{s:Ac}{a:Act}{w:World}(hs:Sim H ι s a w){b:Nat}{K:IntKind}{m m':GD}{r:Ent}{es es':Array MapEntry}{clk clk':Nat}(hb:s.h b=some (.map (BI K m)))(hr:ι b=some r)(r1:r.sz=0)(r2:r.solid)
 (r3:w.heap[r.rb]?=some (.map es clk)) (hm:EntRelA H K m' es'.toList) (hbo:BornOk clk' (es'.toList.map (·.born))):
 HeapRel H ι (Al s.h b (.map (BI K m'))) {w with heap:=w.heap.setIfInBounds r.rb (.map es' clk')}/\Step H ι s.h w H ι (Al s.h b (.map (BI K m'))) {w with heap:=w.heap.setIfInBounds r.rb (.map es' clk')}:=by
 have hlt:r.rb<w.heap.size:=(Array.getElem?_eq_some_iff.1 r3).1;have:=hs.heap.upd (o':=.map (BI K m')) (r':=r) (w':={w with heap:=w.heap.setIfInBounds r.rb (.map es' clk')}) hb rfl (.inr ⟨r,hr,rfl,.inl rfl⟩) (fun _=>.inr ⟨r,hr,rfl,r2,rfl⟩)
  (fun rb _ hne=>by
   have:rb≠r.rb:=hne r hr rfl r2;simp[Array.getElem?_setIfInBounds_ne (Ne.symm this)]) Az rfl rfl
  ⟨r1,r2,es',clk',by simp[hlt],mapCellsA_iff.2 hm,hbo⟩
 rwa[show Cv ι b r=ι from by
  funext c
  by_cases hc:c=b
  . subst hc;rw[AO,hr]
  . rw[B8 _ _ hc]]at this
theorem I9(hT:Bc P T){t kt et:TypeId}{x y u:Operand}{b:Nat}{K:IntKind}{z:List Int}{m:GD}{q:AV}{i j j0:Ae}{n e0:Nat}(ho:o.op=.mapUpdate t x y u)(hd:o.dst=none)(hx:look e x=some (.map b))(hy:look e y=some (.agg (Ao K z)))(hu:look e u=some q)(hp:q.isPure=true)
 (hb:h b=some (.map (BI K m))) (hi:T t=some i) (hk:i.k=.map kt et) (hj:T kt=some j) (hjk:j.k=.array n e0) (hj0:T e0=some j0) (hjk0:j0.k=.int K) (hc:P.cellsOf e0=1) (hzl:z.length=n) (hm:∀p∈m,p.1.length=n):OLoc P o e h [b] [(b,.map (BI K (Kd z q m)))] none:=by
 intro H ι a w s Q hs h1 h2;have hx':look s.env x=some (.map b):=by rw[h1 x Bg,hx]
 have hy':look s.env y=some (.agg (Ao K z)):=by rw[h1 y Bg,hy]
 have hu':look s.env u=some q:=by rw[h1 u Bg,hu]
 have hb':s.h b=some (.map (BI K m)):=by rw[h2 b Az,hb]
 obtain⟨info,d,e1,e2,e3,e4,e5,e6⟩:=Af (hT _ _ hi);obtain⟨info',d',e1',e2',e3',e4',e5',e6'⟩:=Af (hT _ _ hj);obtain⟨info0,d0,e10,e20,e30,e40,e50,e60⟩:=Af (hT _ _ hj0);have hd1:=GQ (P:=P) (d:=d) (e3▸hk);subst hd1;have hd':=GR (P:=P) (d:=d') (e3'▸hjk);subst hd';have hd0:=Ex (P:=P) (d:=d0) (e30▸hjk0);subst hd0;have hvy:=(Ai hs hy').ints;obtain⟨r,hr,hr0,hvx⟩:=(Ai hs hx').map_inv;obtain⟨r',hl,⟨r1,r2,es,clk,r3,r4,r6⟩,r5⟩:=hs.heap.obj b _ hb' rfl;rw[hr]at hl;cases hl;have hrv:=DE (ι':=AE) hp (Ai hs hu');have hE:=mapCellsA_iff.1 r4;obtain⟨rr,f1,f2⟩:=hE.find (w:=w) e2' e20 hc hzl hm 0;unfold Oper.wp;rcases f2 with⟨g1,rfl⟩|⟨p,v,en,g1,rfl,g3,g4,g5⟩
 . have hrun:(execOp a.eval o).run P w=.ok .skip {w with heap:=w.heap.setIfInBounds r.rb (.map (es.push {key:=.agg (C4 K z),val:=a.eval u,born:=clk}) (clk+1))}:=by
    simp[execOp,ho,Instr.mapUpdate,hvx,hvy,Aj e2,MapKept.run_getObj_map r3,Eh e2' e20 hc _ hzl,EF e2',f1,MapKept.run_setObj_map _ r3]
   rw[hrun];obtain⟨u1,u2⟩:=Mc hs (es':=es.push {key:=.agg (C4 K z),val:=a.eval u,born:=clk}) (clk':=clk+1) hb' hr r1 r2 r3 (m':=Kd z q m) (by rw[Array.toList_push];exact hE.set_new hrv clk g1) g8;exact UI
 . have hrun:(execOp a.eval o).run P w=.ok .skip {w with heap:=w.heap.setIfInBounds r.rb (.map (es.modify p fun e=>{e with key:=.agg (C4 K z),val:=a.eval u}) clk)}:=by
    have g3':es[p]?=some en:=by simpa using g3
    simp[execOp,ho,Instr.mapUpdate,hvx,hvy,Aj e2,MapKept.run_getObj_map r3,Eh e2' e20 hc _ hzl,EF e2',f1,MapKept.run_setObj_map _ r3,g3',g4,M5]
   rw[hrun];obtain⟨u1,u2⟩:=Mc hs (es':=es.modify p fun e=>{e with key:=.agg (C4 K z),val:=a.eval u}) (clk':=clk) hb' hr r1 r2 r3 (m':=Kd z q m) (by rw[Array.toList_modify];exact hE.set_old hrv g1) (by rw[Hp];exact r6);exact UI
end
def CY(b:Nat)(es:List (List AV)):AV:=V1 es.isEmpty b es
def Dv(sz:Nat)(es:List (List AV)):AObj:=Pe es.isEmpty sz es
def DR(b:Nat)(es:List (List AV)):AV:=bif es.isEmpty then .lst false []else .ref b es.length 0 es.length
def Fe(es:List (List AV)):AObj:=bif es.isEmpty then .free else .row true 1 es
theorem bs{α:Type}(l:List α)(x:α):(l++[x]).isEmpty=false:=by cases l<;>rfl
theorem Gq{α:Type}{l:List α}{k:Nat}(h:k<l.length):l.isEmpty=false:=by cases l with|nil=>simp at h|cons=>rfl
theorem iv{b k:Nat}{es:List (List AV)}(h:k<es.length):CY b es=.ref b es.length 0 es.length:=by simp[CY,Gq h,V1]
theorem XI{sz k:Nat}{es:List (List AV)}(h:k<es.length):Dv sz es=.row true sz es:=by simp[Dv,Gq h,Pe]
theorem ie{b k:Nat}{es:List (List AV)}(h:k<es.length):DR b es=.ref b es.length 0 es.length:=by simp[DR,Gq h]
theorem OE{k:Nat}{es:List (List AV)}(h:k<es.length):Fe es=.row true 1 es:=by simp[Fe,Gq h]
theorem OG{b:Nat}{es es':List (List AV)}(h:es'.length=es.length):DR b es'=DR b es:=by
 cases es with
 |nil=>
  have:es'=[]:=List.eq_nil_of_length_eq_zero h;rw[this]
 |cons x r=>
  cases es' with
  |nil=>simp at h
  |cons y q=>simp only[DR,List.isEmpty_cons,cond_false,h]
theorem V0(f:Bool)(b:Nat)(es:List (List AV)):(V1 f b es).cells=[V1 f b es]:=by cases f<;>rfl
theorem JO(b:Nat)(es:List (List AV)):(CY b es).cells=[CY b es]:=V0 _ _ _
theorem JP(b:Nat)(es:List (List AV)):(CY b es).cell1=true:=by unfold CY V1;cases es.isEmpty<;>rfl
theorem Hw(b:Nat)(es:List (List AV)):(DR b es).cells=[DR b es]:=by unfold DR;cases es.isEmpty<;>rfl
theorem NA(b:Nat)(es:List (List AV)):(DR b es).cell1=true:=by unfold DR;cases es.isEmpty<;>rfl
theorem DV{k:Nat->Bool}{b:Nat}(es:List (List AV))(h:k b=true):(CY b es).avoid k=true:=by unfold CY V1;cases es.isEmpty<;>simp[AV.avoid,AV.flat,h]
theorem Hx{k:Nat->Bool}{b:Nat}(es:List (List AV))(h:k b=true):(DR b es).avoid k=true:=by unfold DR;cases es.isEmpty<;>simp[AV.avoid,AV.flat,h]
theorem NI{k:Nat->Bool}(sz:Nat)(es:List (List AV)):(Dv sz es).avoid k=true:=by unfold Dv Pe;cases es.isEmpty<;>rfl
theorem Nz{k:Nat->Bool}(es:List (List AV)):(Fe es).avoid k=true:=by unfold Fe;cases es.isEmpty<;>rfl
section
variable {P : Program} {T : Nat -> Option Ae} {o : Oper} {e : Ar} {h : Aa}
theorem iW(hT:Bc P T){t:TypeId}{x:Operand}{b:Nat}{es:List (List AV)}{i:Ae}{u:Nat}(ho:o.op=.call {callee:=.builtin .len,args:= #[x],argTypes:= #[t]})(hx:look e x=some (CY b es))(hi:T t=some i)(hk:i.k=.slice u):QLoc P o e h [] (.int .i64 (es.length:Int)):=by
 unfold CY V1 at hx
 cases hf:es.isEmpty with
 |true=>rw[hf]at hx;exact Qp hT ho hx hi (by rw[hk];rfl) rfl
 |false=>rw[hf]at hx;exact Qp hT ho hx hi (by rw[hk];rfl) rfl
theorem LP(hT:Bc P T){t:TypeId}{x y:Operand}{b sz:Nat}{es:List (List AV)}{k:IntKind}{n:Int}{i j:Ae}{u:Nat}(ho:o.op=.indexAddr t x y:=by exact rfl)(hx:look e x=some (CY b es):=by exact rfl)(hy:look e y=some (.int k n):=by exact rfl)
 (hi:T t=some i:=by exact rfl) (hk:i.k=.slice u:=by exact rfl) (hj:T u=some j:=by exact rfl) (hb:h b=some (Dv sz es):=by exact rfl) (hsz:sz=j.size:=by exact rfl) (h0:0<=n) (hn:n<es.length):QLoc P o e h [b] (.ptr b es.length n.toNat 0):=by
 have hlt:n.toNat<es.length:=by omega
 rw[iv hlt]at hx;rw[XI hlt]at hb;have:=An hT ho hx hy hi hk hj hb rfl hsz h0 hn;rwa[Nat.zero_add]at this
theorem Bh(hT:Bc P T){t:TypeId}{x y:Operand}{b:Nat}{es:List (List AV)}{k:IntKind}{n:Int}{i j:Ae}{u:Nat}(ho:o.op=.indexAddr t x y)(hx:look e x=some (DR b es))(hy:look e y=some (.int k n))
 (hi:T t=some i) (hk:i.k=.slice u) (hj:T u=some j) (hb:h b=some (Fe es)) (hsz:1=j.size) (h0:0<=n) (hn:n<es.length):QLoc P o e h [b] (.ptr b es.length n.toNat 0):=by
 have hlt:n.toNat<es.length:=by omega
 rw[ie hlt]at hx;rw[OE hlt]at hb;have:=An hT ho hx hy hi hk hj hb rfl hsz h0 hn;rwa[Nat.zero_add]at this
theorem i5{b sz k:Nat}{es:List (List AV)}{cs:List AV}(hb:h b=some (Dv sz es))(hi:es[k]?=some cs):PtsTo h (.ptr b es.length k 0) [b] cs:=by
 have hlt:k<es.length:=(List.getElem?_eq_some_iff.1 hi).1;rw[XI hlt]at hb;exact .ptr b es.length k 0 true sz es cs hb rfl hi
theorem I4{b k:Nat}{es:List (List AV)}{cs:List AV}(hb:h b=some (Fe es))(hi:es[k]?=some cs):PtsTo h (.ptr b es.length k 0) [b] cs:=by
 have hlt:k<es.length:=(List.getElem?_eq_some_iff.1 hi).1;rw[OE hlt]at hb;exact .ptr b es.length k 0 true 1 es cs hb rfl hi
theorem I8(hT:Bc P T){t:TypeId}{x y:Operand}{b m k off:Nat}{p:Bool}{sz:Nat}{es:List (List AV)}{cs:List AV}{q:AV}{i:Ae}(ho:o.op=.store t x y)(hd:o.dst=none)(hx:look e x=some (.ptr b m k off))(hy:look e y=some q)(hi:T t=some i)(his:i.size=1)
 (hb:h b=some (.row p sz es)) (hm:m=es.length) (hk:es[k]?=some cs) (hq:q.cells=[q]) (hfit:off+1<=sz) (h1:q.cell1=true) (hp:p=true->q.isPure1=true):
 OLoc P o e h [b] [(b,.row p sz (es.set k (Cm cs off [q])))] none:=by
 have:=Be hT ho hd hx hy hi hb hm hk (by rw[hq,his];rfl) (by rw[his];exact hfit) (by rw[hq];simp[h1]) (fun h=>by rw[hq];simp[hp h]);rwa[hq]at this
theorem DG(hT:Bc P T){t:TypeId}{x y:Operand}{b k:Nat}{es:List (List AV)}{q:AV}{i:Ae}(ho:o.op=.store t x y)(hd:o.dst=none)(hx:look e x=some (.ptr b es.length k 0))(hy:look e y=some q)(hi:T t=some i)(his:i.size=1)
 (hb:h b=some (Fe es)) (hk:k<es.length) (hc:∀cs∈es,cs.length=1) (hq:q.cells=[q]) (h1:q.cell1=true) (hp:q.isPure1=true):
 OLoc P o e h [b] [(b,Fe (es.set k [q]))] none:=by
 rw[OE hk]at hb;have hg:=List.getElem?_eq_getElem hk;have:=I8 hT ho hd hx hy hi his hb rfl hg hq (Nat.le_refl _) h1 (fun _=>hp);have hl:es[k].length=1:=hc _ (List.getElem_mem hk);have e1:Cm es[k] 0 [q]=[q]:=by
  unfold Cm;rw[List.drop_of_length_le (by simp[hl])];rfl
 rw[e1]at this;rwa[OE (k:=k) (by rw[List.length_set];exact hk)]
theorem Ih(hT:Bc P T){t t':TypeId}{x y:Operand}{i i' j:Ae}{u u':Nat}{ex2:Bool}{sz:Nat}{es:List (List AV)}{x0:List AV}{b:Nat}
 (ho:o.op=.call {callee:=.builtin .append,args:= #[x,y],argTypes:= #[t,t']}) (hx:look e x=some (CY b es)) (hy:look e y=some (.lst ex2 [x0])) (hi:T t=some i) (hk:i.k=.slice u) (hj:T u=some j) (hi':T t'=some i') (hk':i'.k=.slice u')
 (hb:h b=some (Dv sz es)) (hsz:sz=j.size) (hz:j.zero.length=j.size) (hp:0<j.size)
 (hu:∀cs∈es,cs.length=sz) (hpu:∀cs∈es,cs.all AV.isPure1=true) (hu2:x0.length=sz) (hpure:x0.all AV.isPure1=true)
 (hby:(es.length+1)*j.bytes<=140737488355328) (hml:es.length+1<=maxLen):
 OLoc P o e h [b] [(b,Dv sz (es++[x0]))] (some (CY b (es++[x0]))):=by
 have:=NV (f:=es.isEmpty) hT b ho hx hy hi hk hj hi' hk' hb hsz hz hp hu hpu (by simpa using hu2) (by simpa using hpure) hby hml;have e1:(es.isEmpty&&[x0].isEmpty)=(es++[x0]).isEmpty:=by rw[bs];simp
 rw[e1]at this;exact this
theorem Ja(hT:Bc P T){t:TypeId}{x y:Operand}{i j:Ae}{u n:Nat}{k k':IntKind}{zi zj:Int}(b:Nat)(ho:o.op=.makeSlice t x y)(hx:look e x=some (.int k zi))(hy:look e y=some (.int k' zj))(hni:zi=(n:Int))(hnj:zj=(n:Int))(hi:T t=some i)(hk:i.k=.slice u)(hj:T u=some j)
 (hb:h b=some .free) (hz:j.zero.length=j.size) (hsz:j.size=1) (h1:j.zero.all AV.cell1=true) (hby:j.bytes*n<=281474976710656) (hm:n<=maxLen):
 OLoc P o e h [b] [(b,Fe (List.replicate n j.zero))] (some (DR b (List.replicate n j.zero))):=by
 cases n with
 |zero=>
  intro H ι a w s Q hs g1 g2;have h0:=O2 (h:=h) hT ho hx hy hni hnj hi hk hj hz Ab h1 H ι a w s Q hs g1 (fun b hb=>by simp at hb);have hb':s.h b=some .free:=by rw[g2 b Az,hb]
  have hsame:AA s.h [(b,Fe (List.replicate 0 j.zero))]=s.h:=by
   funext c
   by_cases hc:c=b
   . subst hc;simp[AA,Au,hb',Fe]
   . simp[AA,Ax _ _ hc]
  rw[hsame];exact h0
 |succ n=>
  have:=B7 hT b true ho hx hy hni hnj hi hk hj hb hz Ab h1 (Nat.le_refl _) hby hm;have e1:Fe (List.replicate (n+1) j.zero)=.row true 1 (List.replicate (n+1) j.zero):=rfl;have e2:DR b (List.replicate (n+1) j.zero)=.ref b (n+1) 0 (n+1):=by
   simp[DR,List.replicate_succ]
  rw[e1,e2];rw[hsz]at this;exact this
end
theorem Ghost.weakRowF{n:Nat}{e:Ar}{h:Aa}(b:Nat){sz:Nat}{es es':List (List AV)}(hb:h b=some (.row false sz es))(hl:es'.length=es.length)
 (hw:∀(i:Nat) (cs cs':List AV),es[i]?=some cs->es'[i]?=some cs'->cs'.length=cs.length/\∀(j:Nat) (x y:AV),cs[j]?=some x->cs'[j]?=some y->(x.cell1=true->y.cell1=true)/\∀H ι v,Rel H ι x v->Rel H ι y v):Ghost ⟨n,e,h⟩ ⟨n,e,Al h b (.row false sz es')⟩:=fun H ι a w hs=>by
 obtain⟨r,hr,⟨r1,r2,r3,r4,r5,r6⟩,r7⟩:=hs.heap.obj b _ hb rfl;have hlput:Cv ι b r=ι:=by
  funext c
  by_cases hc:c=b
  . subst hc;rw[AO,hr]
  . rw[B8 _ _ hc]
 have hget:∀(i:Nat) (cs':List AV),es'[i]?=some cs'->∃cs,es[i]?=some cs:=fun i cs' hi=>by
  have:i<es'.length:=(List.getElem?_eq_some_iff.1 hi).1;exact⟨es[i]'(Ab),List.getElem?_eq_getElem Ab⟩
 have:=hs.heap.upd (o':=.row false sz es') (r':=r) (w':=w) hb rfl (.inr ⟨r,hr,rfl,.inl rfl⟩) (fun hsol=>.inr ⟨r,hr,rfl,hsol,rfl⟩) (fun _ _ _=>rfl) (Nat.le_refl _) rfl rfl
  ⟨r1,r2,by rw[hl];exact r3,by rw[hl];exact r4,fun i cs' hi=>by
   obtain⟨cs,hc⟩:=hget i cs' hi;rw[(hw i cs cs' hc hi).1];exact r5 i cs hc,fun hsol=>by
   obtain⟨c,T,c1,c2,c3,c4⟩:=r6 hsol;refine⟨c,T,c1,c2,fun i cs' hi=>?_,?_⟩
   . obtain⟨cs,hc⟩:=hget i cs' hi;rw[(hw i cs cs' hc hi).1];exact r5 i cs hc
   rw[hlput];intro i cs' j y hi hj;obtain⟨cs,hc⟩:=hget i cs' hi;obtain⟨w1,w2⟩:=hw i cs cs' hc hi;have hjlt:j<cs'.length:=(List.getElem?_eq_some_iff.1 hj).1;have hx:cs[j]?=some (cs[j]'(Ab)):=List.getElem?_eq_getElem Ab;obtain⟨v,v1,v2,v3⟩:=c4 i cs j _ hc hx;obtain⟨g1,g2⟩:=w2 j _ y hx hj;exact⟨v,v1,g2 _ _ _ v2,g1 v3⟩⟩
 exact W0
theorem cE{H:Aq}{ι:AL}{v:Value}(h:Rel H ι .nil v):Rel H ι (.lst true []) v:=by
 rw[h.nil_inv];exact .lst0 _ _ _ _ (fun _=>rfl) (Nat.zero_le _) (fun _=>rfl) trivial
section
variable {P : Program} {T : Nat -> Option Ae} {o : Oper} {e : Ar} {h : Aa}
end
section
variable {P : Program} {T : Nat -> Option Ae} {o : Oper} {e : Ar} {h : Aa}
end
def yF:List AObj->Nat->AObj
  | [],_=>.free
  |o::_,0=>o
  |_::L,n+1=>yF L n
def nb(L:List AObj):Aa:=fun c=>some (yF L c)
section
variable {P : Program} {T : Nat -> Option Ae} {o : Oper} {e : Ar} {h : Aa}
theorem bN(hT:Bc P T){t:TypeId}{x:Operand}{f:Nat}{cs:List AV}{r:AV}{i j:Ae}{fs:List (Nat×Nat)}{off u:Nat}(ho:o.op=.field t x f)(hx:look e x=some (.agg cs))(hi:T t=some i)(hk:i.k=.struct fs)
 (hf:fs[f]?=some (off,u)) (hj:T u=some j) (hc:j.k.isCell=true) (hr:cs[off]?=some r):QLoc P o e h [] r:=by
 intro H ι a w s hs h1 h2;have hx':look s.env x=some (.agg cs):=by rw[h1 x Bg,hx]
 obtain⟨info,d,e1,e2,e3,e4,e5,e6⟩:=Af (hT _ _ hi);obtain⟨info',d',f1,f2,f3,f4,f5,f6⟩:=Af (hT _ _ hj);obtain⟨A,rfl,rfl,hz⟩:=Dk (P:=P) (d:=d) (e3▸hk);rw[List.getElem?_map,Array.getElem?_toList]at hf
 cases ef:A[f]? with
 |none=>rw[ef]at hf;cases hf
 |some g=>
  rw[ef]at hf;simp only[Option.map_some,Option.some.injEq,Prod.mk.injEq]at hf;obtain⟨rfl,rfl⟩:=hf;obtain⟨us,hv,hl,hrel⟩:=(Ai hs hx').agg_inv;have hlt:g.offset<us.size:=by rw[<-hl];exact(List.getElem?_eq_some_iff.1 hr).1
  have hagg:Ml d'=false:=by
   have:=TP (P:=P) (d:=d') (by rw[<-f3];exact hc)
   cases d'<;>first|rfl|exact absurd rfl (this.1 _)|exact absurd rfl (this.2 _ _)
  refine⟨us[g.offset],hrel g.offset r _ hr (Array.getElem?_eq_getElem hlt),?_⟩;simp only[execOp,ho,Instr.field,hv,Sem.run_bind,Sem.run_pure,Result.andThen_ok,Aj e2,ef,asAgg,part,Hz f2,hagg,Bool.false_eq_true,if_false,Array.getElem?_eq_getElem hlt]
end
def NT(h:Aa):AV->Option (List Nat×List AV)
  | .loc cs=>some ([],cs)
  | .ptr b n i o=>match h b with
    |some (.row p sz es)=>match Nat.beq n es.length,es[i]? with
      |true,some cs=>some ([b],cs.drop o)
      |_,_=>none
    |_=>none
  |_=>none
theorem LV{h:Aa}{p:AV}{R:List Nat}{cs:List AV}(e:NT h p=some (R,cs)):PtsTo h p R cs:=by
 unfold NT at e;split at e
 . simp only[Option.some.injEq,Prod.mk.injEq]at e;obtain⟨rfl,rfl⟩:=e;exact .loc _
 . split at e
   . rename_i b n i o p sz es hb;split at e
     . rename_i cs h1 h2;simp only[Option.some.injEq,Prod.mk.injEq]at e;obtain⟨rfl,rfl⟩:=e;exact .ptr _ _ _ _ _ _ _ _ hb (Nat.eq_of_beq_eq_true h1) h2
     . cases e
   . cases e
 . cases e
def ua(T:Nat->Option Ae)(o:Op)(e:Ar)(h:Aa):Option (List Nat×AV):=
  match o with
  | .move x=>match look e x with
    |some p=>some ([],p)
    |none=>none
  | .assign x=>match look e x with
    |some p=>some ([],p)
    |none=>none
  | .load t x=>match look e x,T t with
    |some p,some i=>match NT h p with
      |some (R,cs)=>match D3 i cs with
        |some r=>some (R,r)
        |none=>none
      |none=>none
    |_,_=>none
  | .fieldAddr t x f=>match look e x,T t with
    |some p,some i=>match i.k with
      | .struct fs=>match fs[f]? with
        |some (off,u)=>match Ha p off with
          |some r=>some ([],r)
          |none=>none
        |none=>none
      |_=>none
    |_,_=>none
  | .binOp op t x y t'=>match look e x,look e y with
    |some p,some q=>match AM op p q with
      |some r=>some ([],r)
      |none=>none
    |_,_=>none
  | .unOp .not t x=>match look e x with
    |some (.bool b)=>some ([],.bool (!b))
    |_=>none
  | .pick c x y=>match look e c with
    |some (.bool true)=>match look e x with
      |some p=>some ([],p)
      |none=>none
    |some (.bool false)=>match look e y with
      |some p=>some ([],p)
      |none=>none
    |_=>none
  | .extract x k=>match look e x with
    |some (.tup vs)=>match vs[k]? with
      |some r=>some ([],r)
      |none=>none
    |_=>none
  | .nilCheck x=>match look e x with
    |some p=>match(match p with| .loc _| .ptr .. =>true|_=>false)with
      |true=>some ([],p)
      |false=>none
    |none=>none
  | .field t x f=>match look e x,T t with
    |some (.agg cs),some i=>match i.k with
      | .struct fs=>match fs[f]? with
        |some (off,u)=>match T u with
          |some j=>match j.k.isCell,cs[off]? with
            |true,some r=>some ([],r)
            |_,_=>none
          |none=>none
        |none=>none
      |_=>none
    |_,_=>none
  | .convert t u x=>match look e x,T t,T u with
    |some (.int k' n),some i,some j=>match j.k with
      | .int k=>some ([],.int k (k.wrap n))
      |_=>none
    |_,_,_=>none
  | .call ⟨.builtin .len,args,tys⟩=>match args.toList,tys.toList with
    | [x],[t]=>match look e x,T t with
      |some p,some i=>match(match p with| .str _=>(match i.k with| .string=>true|_=>false)|_=>(match i.k with| .slice _=>true|_=>false)),KB p with
        |true,some n=>some ([],.int .i64 n)
        |_,_=>none
      |_,_=>none
    |_,_=>none
  |_=>none
theorem Jz{α:Type}{a:Array α}{x:α}(h:a.toList=[x]):a= #[x]:=Array.ext' h
section
variable {P : Program} {T : Nat -> Option Ae} {o : Oper} {e : Ar} {h : Aa} {R : List Nat} {r : AV}
theorem LS(hT:Bc P T)(hq:ua T o.op e h=some (R,r)):QLoc P o e h R r:=by
 unfold ua at hq;split at hq
 . rename_i x ho;split at hq
   . rename_i p hp;simp only[Option.some.injEq,Prod.mk.injEq]at hq;obtain⟨rfl,rfl⟩:=hq;exact If (.inl ho) hp
   . cases hq
 . rename_i x ho;split at hq
   . rename_i p hp;simp only[Option.some.injEq,Prod.mk.injEq]at hq;obtain⟨rfl,rfl⟩:=hq;exact If (.inr ho) hp
   . cases hq
 . rename_i t x ho;split at hq
   . rename_i p i hp hi;split at hq
     . rename_i R' cs hc;split at hq
       . rename_i r' hr;simp only[Option.some.injEq,Prod.mk.injEq]at hq;obtain⟨rfl,rfl⟩:=hq;exact Aw hT ho hp hi (LV hc) hr
       . cases hq
     . cases hq
   . cases hq
 . rename_i t x f ho;split at hq
   . rename_i p i hp hi;split at hq
     . rename_i fs hk;split at hq
       . rename_i off u hf;split at hq
         . rename_i r' hr;simp only[Option.some.injEq,Prod.mk.injEq]at hq;obtain⟨rfl,rfl⟩:=hq;exact Er hT ho hp hi hk hf hr
         . cases hq
       . cases hq
     . cases hq
   . cases hq
 . rename_i op t x y t' ho;split at hq
   . rename_i p q hp hq';split at hq
     . rename_i r' hr;simp only[Option.some.injEq,Prod.mk.injEq]at hq;obtain⟨rfl,rfl⟩:=hq;exact BB ho hp hq' hr
     . cases hq
   . cases hq
 . rename_i t x ho;split at hq
   . rename_i b hp;simp only[Option.some.injEq,Prod.mk.injEq]at hq;obtain⟨rfl,rfl⟩:=hq;exact IZ ho hp
   . cases hq
 . rename_i c x y ho;split at hq
   . rename_i hc;split at hq
     . rename_i p hp;simp only[Option.some.injEq,Prod.mk.injEq]at hq;obtain⟨rfl,rfl⟩:=hq;exact G2 true ho hc rfl hp
     . cases hq
   . rename_i hc;split at hq
     . rename_i p hp;simp only[Option.some.injEq,Prod.mk.injEq]at hq;obtain⟨rfl,rfl⟩:=hq;exact Gf false ho hc rfl hp
     . cases hq
   . cases hq
 . rename_i x k ho;split at hq
   . rename_i vs hp;split at hq
     . rename_i r' hr;simp only[Option.some.injEq,Prod.mk.injEq]at hq;obtain⟨rfl,rfl⟩:=hq;exact HE ho hp hr
     . cases hq
   . cases hq
 . rename_i x ho;split at hq
   . rename_i p hp;split at hq
     . rename_i hc;simp only[Option.some.injEq,Prod.mk.injEq]at hq;obtain⟨rfl,rfl⟩:=hq;exact Ie ho hp (by cases p<;>first|rfl|cases hc)
     . cases hq
   . cases hq
 . rename_i t x f ho;split at hq
   . rename_i cs i hp hi;split at hq
     . rename_i fs hk;split at hq
       . rename_i off u hf;split at hq
         . rename_i j hj;split at hq
           . rename_i r' hc hr;simp only[Option.some.injEq,Prod.mk.injEq]at hq;obtain⟨rfl,rfl⟩:=hq;exact bN hT ho hp hi hk hf hj hc hr
           . cases hq
         . cases hq
       . cases hq
     . cases hq
   . cases hq
 . rename_i t u x ho;split at hq
   . rename_i k' n i j hp hi hj;split at hq
     . rename_i k hk;simp only[Option.some.injEq,Prod.mk.injEq]at hq;obtain⟨rfl,rfl⟩:=hq;exact NR hT ho hp hi hj hk
     . cases hq
   . cases hq
 . rename_i args tys ho;split at hq
   . rename_i x t ha ht;split at hq
     . rename_i p i hp hi;split at hq
       . rename_i n hk hn;simp only[Option.some.injEq,Prod.mk.injEq]at hq;obtain⟨rfl,rfl⟩:=hq;exact Qp hT (ho.trans (by rw[Jz ha,Jz ht])) hp hi (by cases p<;>exact hk) hn
       . cases hq
     . cases hq
   . cases hq
 . cases hq
end
def X4(T:Nat->Option Ae)(ops:Array Oper)(n:Nat):Nat->List Oper->Ar->Aa->Option (List Oper×Ar)
  |0,l,e,_=>some (l,e)
  |k+1,o::l,e,h=>match o.dst with
    |some d=>match Nat.blt d n,Av ops o e with
      |true,some true=>match ua T o.op e h with
        |some (_,r)=>X4 T ops n k l (Ad e d r) h
        |none=>none
      |true,some false=>X4 T ops n k l (Ad e d (.tup [])) h
      |_,_=>none
    |none=>none
  |_+1,[],_,_=>none
section
variable {P : Program} {T : Nat -> Option Ae} {ops : Array Oper} {n : Nat} {h : Aa} {K : Ac -> Prop}
theorem aQ(hT:Bc P T):∀(k:Nat) {l l':List Oper} {e e':Ar},X4 T ops n k l e h=some (l',e')->AOps P ops l' ⟨n,e',h⟩ K->AOps P ops l ⟨n,e,h⟩ K
 |0,l,l',e,e',hq,hr=>by
  simp only[X4,Option.some.injEq,Prod.mk.injEq]at hq;obtain⟨rfl,rfl⟩:=hq;exact hr
 |k+1,[],_,_,_,hq,_=>by cases hq
 |k+1,o::l,l',e,e',hq,hr=>by
  unfold X4 at hq;split at hq
  . rename_i d hd;split at hq
    . rename_i hb hg;split at hq
      . rename_i R r hv;exact AOps.s d hd hb hg (LS hT hv) (aQ hT k hq hr)
      . cases hq
    . rename_i hb hg;exact AOps.k d hd hb hg (aQ hT k hq hr)
    . cases hq
  . cases hq
end
def Qr(T:Nat->Option Ae)(ops:Array Oper)(n:Nat):Nat->List Oper->Ar->Aa->List (List Nat×List Nat)->Option (List Oper×Ar×List (List Nat×List Nat))
  |0,l,e,_,acc=>some (l,e,acc)
  |k+1,o::l,e,h,acc=>match o.dst with
    |some d=>match Nat.blt d n,Av ops o e with
      |true,some true=>match ua T o.op e h with
        |some (R,r)=>Qr T ops n k l (Ad e d r) h (acc++[(R,[])])
        |none=>none
      |true,some false=>Qr T ops n k l (Ad e d (.tup [])) h (acc++[([],[])])
      |_,_=>none
    |none=>none
  |_+1,[],_,_,_=>none
section
variable {P : Program} {T : Nat -> Option Ae} {ops : Array Oper} {n : Nat} {h : Aa} {K : Ac -> Prop}
theorem dQ(hT:Bc P T):∀(k:Nat) {l l':List Oper} {e e':Ar} {acc acc':List (List Nat×List Nat)},Qr T ops n k l e h acc=some (l',e',acc')->DOps P ops n l' e' h acc' K->DOps P ops n l e h acc K
 |0,l,l',e,e',acc,acc',hq,hr=>by
  simp only[Qr,Option.some.injEq,Prod.mk.injEq]at hq;obtain⟨rfl,rfl,rfl⟩:=hq;exact hr
 |k+1,[],_,_,_,_,_,hq,_=>by cases hq
 |k+1,o::l,l',e,e',acc,acc',hq,hr=>by
  unfold Qr at hq;split at hq
  . rename_i d hd;split at hq
    . rename_i hb hg;split at hq
      . rename_i R r hv;exact DOps.s d hd hb hg (LS hT hv) (dQ hT k hq hr)
      . cases hq
    . rename_i hb hg;exact aK d hd hb hg (dQ hT k hq hr)
    . cases hq
  . cases hq
end
section
variable {P : Program} {T : Nat -> Option Ae} {ops : Array Oper} {rest : List Oper} {n : Nat} {e : Ar} {h : Aa} {K : Ac -> Prop} {acc : List (List Nat × List Nat)} {d : Nat} {t ty : TypeId} {ps : String} {af : Array Edge} {x y : Operand}
theorem wK{op:Op}{g:Nat×Bool}(hr:AOps P ops rest ⟨n,Ad e d (.tup []),h⟩ K)(hb:Nat.blt d n=true:=by exact rfl)(hg:Av ops ⟨some d,op,ty,ps,af,some g⟩ e=some false:=by exact rfl):AOps P ops (⟨some d,op,ty,ps,af,some g⟩::rest) ⟨n,e,h⟩ K:=ak d hr rfl hb hg
theorem wS{b m k off sz:Nat}{p:Bool}{es:List (List AV)}{cs:List AV}{q:AV}{i:Ae}(hT:Bc P T)(hr:AOps P ops rest ⟨n,e,AA h [(b,.row p sz (es.set k (Cm cs off q.cells)))]⟩ K)(hx:look e x=some (.ptr b m k off):=by exact rfl)(hy:look e y=some q:=by exact rfl)(hi:T t=some i:=by exact rfl)
 (hb:h b=some (.row p sz es):=by exact rfl) (hm:m=es.length:=by exact rfl) (hk:es[k]?=some cs:=by exact rfl) (hq:q.cells.length=i.size:=by exact rfl) (hfit:off+i.size<=sz:=by decide) (h1:q.cells.all AV.cell1=true:=by exact rfl) (hp:p=true->q.cells.all AV.isPure1=true:=by first|exact fun _=>rfl|(intro h;cases h)):
 AOps P ops (⟨none,.store t x y,ty,ps,af,none⟩::rest) ⟨n,e,h⟩ K:=AOps.w rfl rfl (Be hT rfl rfl hx hy hi hb hm hk hq hfit h1 hp) hr
theorem vS{b m k off sz:Nat}{p:Bool}{es:List (List AV)}{cs:List AV}{q:AV}{i:Ae}(hT:Bc P T)(hr:DOps P ops n rest e (AA h [(b,.row p sz (es.set k (Cm cs off q.cells)))]) (acc++[([b],[b])]) K)(hx:look e x=some (.ptr b m k off):=by exact rfl)(hy:look e y=some q:=by exact rfl)(hi:T t=some i:=by exact rfl)
 (hb:h b=some (.row p sz es):=by exact rfl) (hm:m=es.length:=by exact rfl) (hk:es[k]?=some cs:=by exact rfl) (hq:q.cells.length=i.size:=by exact rfl) (hfit:off+i.size<=sz:=by decide) (h1:q.cells.all AV.cell1=true:=by exact rfl) (hp:p=true->q.cells.all AV.isPure1=true:=by first|exact fun _=>rfl|(intro h;cases h)):
 DOps P ops n (⟨none,.store t x y,ty,ps,af,none⟩::rest) e h acc K:=DOps.w rfl rfl (Be hT rfl rfl hx hy hi hb hm hk hq hfit h1 hp) hr
end
inductive Gs:Nat->Prop
  |mk (n:Nat):Gs n
theorem vo{n:Nat}(_:Gs (n+1)):Gs n:=.mk n
theorem wk(n:Nat){p q:Prop}(k:q)(w:Gs n->q->p:=by
 intro g_ k_;repeat(replace g_:=vo g_;first|refine aQ Am 1 rfl ?_|refine an ?_|refine ve ?_|refine j7 ?_|refine act ?_|refine BK ?_|refine vE ?_|refine wK ?_|refine Cj ?_|refine dQ Am 1 rfl ?_|refine wS Am ?_|refine DOps.nil Ay ?_|refine aN yH ?_|refine AGo.block ?_|refine AGo.exit ?_|refine vS Am ?_|refine aq _ (I3 Am rfl rfl rfl rfl rfl A7 rfl rfl rfl) ?_|refine dq _ (I3 Am rfl rfl rfl rfl rfl A7 rfl rfl rfl) ?_|refine ak _ ?_|refine dk _ ?_)
 exact k_):p:=w (.mk n) k
end Go.Proofs.YtijlphdockhgjaaGreatDoor.Sv
namespace Go.Proofs.YtijlphdockhgjaaGreatDoor.Sv
open Go Go.ChangeShapes Go.WideShapes Go.ChangeAt Go.RowKit
def BR(W:World):Aq:=fun b=>match W.heap[b]? with
  |some (.cells c _ _)=>some c
  |_=>none
theorem Q2(W:World)(hg:GlobOk (BR W)):PB (BR W) W where
 know:=fun b c h=>by
  unfold BR at h;split at h
  . rename_i c' T fr e;cases h;exact⟨T,fr,e⟩
  . cases h
 glob:=hg
theorem Ej{W:World}{a:Addr}{v:Value}(h:W.cell? a=some v):∃c,BR W a.block=some c/\a.spot=none/\c[a.off]?=some v:=by
 unfold World.cell? at h;split at h
 . rename_i c T fr e;split at h
   . cases h
   . rename_i hs;refine⟨c,by simp[BR,e],?_,h⟩
     cases e2:a.spot with
     |none=>rfl
     |some x=>simp[e2]at hs
 . cases h
def Reads(W:World)(cs:List Value)(xs:List AV):Prop:=xs.length=cs.length/\∀(j:Nat) (x:AV) (v:Value),xs[j]?=some x->cs[j]?=some v->Rel (BR W) AE x v/\x.cell1=true
section
variable {H : Type}
def Dec(enc:TypeId×Value->H)(P:Program)(W:World)(t:TypeId){α:Type}(f:α->List AV)(Q:α->Prop):Prop:=
  ∀(fuel:Nat) (cs:List Value) (x:DataW H×List MemPlace),DataW.trod enc P W 0 (fun _=>true) true fuel t cs=some x->(x.1.weights P t).all (· <=reachBytes)=true->∃a,Reads W cs (f a)/\Q a
variable {enc : TypeId × Value -> H} {P : Program} {W : World} {t e : TypeId}
theorem Reads.one{v:Value}{x:AV}(h:Rel (BR W) AE x v)(h1:x.cell1=true):Reads W [v] [x]:=⟨rfl,fun j y u hy hu=>by
 cases j with
 |zero=>simp at hy hu;subst hy;subst hu;exact⟨h,h1⟩
 |succ j=>simp at hy⟩
theorem Dec.int{k:IntKind}(ht:P.underlying t=some (.int k)):Dec enc P W t (fun n:Int=>[.int k n]) (fun n=>(Lit.int k n).wf=true):=fun fuel cs x h _=>by
 obtain⟨n,rfl,rfl,hw⟩:=DataW.trod_int ht h;exact⟨n,.one (.int _ _ _) rfl,hw⟩
theorem Dec.bool(ht:P.underlying t=some .bool):Dec enc P W t (fun b:Bool=>[.bool b]) (fun _=>True):=fun fuel cs x h _=>by
 obtain⟨b,rfl,rfl⟩:=DataW.trod_bool ht h;exact⟨b,.one (.bool _ _) rfl,trivial⟩
theorem Dec.string(ht:P.underlying t=some .string):Dec enc P W t (fun s:ByteArray=>[.str s]) (fun s=>s.size<=maxLen/\s.size<=reachBytes):=fun fuel cs x h hw=>by
 obtain⟨s,rfl,rfl,hs⟩:=DataW.trod_string ht h;refine⟨s,.one (.str _ _) rfl,hs,?_⟩;simpa[DataW.weights]using hw
theorem Hj{α:Type}{R:Nat->α->Prop}:∀n:Nat,(∀i,i<n->∃a,R i a)->∃l:List α,l.length=n/\∀i a,l[i]?=some a->R i a
 |0,_=>⟨[],rfl,fun i a h=>by simp at h⟩
 |n+1,h=>by
  obtain⟨l,h1,h2⟩:=Hj n (fun i hi=>h i Ab);obtain⟨a,ha⟩:=h n Ab;refine⟨l++[a],by simp[h1],fun i b hb=>?_⟩
  by_cases hi:i<n
  . rw[List.getElem?_append_left Ab]at hb;exact h2 i b hb
  . rw[List.getElem?_append_right Ab]at hb;have:i=n:=by
     rcases Nat.lt_or_ge (i-l.length) 1 with h|h
     . omega
     . rw[List.getElem?_eq_none PI]at hb;cases hb
    subst this;simp[h1]at hb;subst hb;exact ha
theorem ET:∀{ds:List (DataW H)} {d:DataW H} {i:Nat},(DataW.weightsAll P e ds).all (· <=reachBytes)=true->ds[i]?=some d->(d.weights P e).all (· <=reachBytes)=true
 | [],_,_,_,h=>by simp at h
 |d::r,d',0,hw,h=>by
  simp at h;subst h;simp only[DataW.weightsAll,List.all_append,Bool.and_eq_true]at hw;exact hw.1
 |d::r,d',i+1,hw,h=>by
  simp only[DataW.weightsAll,List.all_append,Bool.and_eq_true]at hw;exact ET (ds:=r) hw.2 PI
theorem Dec.slice{α:Type}{f:α->List AV}{Q:α->Prop}(ht:P.underlying t=some (.slice e))(hc:0<P.cellsOf e)(he:Dec enc P W e f Q):
 Dec enc P W t (fun l:List α=>[.lst false (l.map f)]) (fun l=>l.length*P.bytesOf e<=reachBytes/\∀a∈l,Q a):=fun fuel cs x h hw=>by
 rcases DataW.trod_slice ht h with⟨rfl,rfl⟩|⟨a,len,cap,elems,rest,n,rfl,rfl,rfl,hb,hl,hm,hlen,hel,hsp,hns⟩
 . exact⟨[],.one (.lst0 _ _ _ _ Fu (Nat.zero_le _) (fun _=>rfl) trivial) rfl,by simp,fun a h=>by cases h⟩
 simp only[DataW.weights,ht,List.all_cons,List.all_append,Bool.and_eq_true,decide_eq_true_eq,List.length_map]at hw;obtain⟨w1,w2,w3⟩:=hw;have key:∀i,i<len->∃y,∃cs',W.cells? 0 (a.add (i*P.cellsOf e)) (P.cellsOf e)=some cs'/\Reads W cs' (f y)/\Q y:=fun i hi=>by
  have h1:=hel i hi;have hlt:i<elems.length:=by omega
  rw[List.getElem?_eq_getElem hlt]at h1;rw[Option.bind_eq_some_iff]at h1;obtain⟨cs',c1,c2⟩:=h1;obtain⟨y,y1,y2⟩:=he _ _ _ c2 (ET w2 (i:=i) (by rw[List.getElem?_map,List.getElem?_eq_getElem hlt];rfl));exact⟨y,cs',c1,y1,y2⟩
 obtain⟨l,l1,l2⟩:=Hj len key;have hQ:∀y∈l,Q y:=fun y hy=>by
  obtain⟨i,hi⟩:=List.mem_iff_getElem?.1 hy;obtain⟨cs',_,_,q⟩:=l2 i y hi;exact q
 exact lm
variable {T : Nat -> Option Ae}
theorem E8{i:Ae}(hT:Bc P T)(hi:T t=some i):P.cellsOf t=i.size:=by
 obtain⟨info,d,e1,e2,e3,e4,e5,e6⟩:=Af (hT _ _ hi);simp[Program.cellsOf,e1,e4]
theorem MO{i:Ae}(hT:Bc P T)(hi:T t=some i):P.bytesOf t=i.bytes:=by
 obtain⟨info,d,e1,e2,e3,e4,e5,e6⟩:=Af (hT _ _ hi);simp[Program.bytesOf,e1,e5]
theorem Br{k:IntKind}{i:Ae}(hT:Bc P T)(hi:T t=some i)(hk:i.k=.int k):Dec enc P W t (fun n:Int=>[.int k n]) (fun n=>(Lit.int k n).wf=true):=by
 obtain⟨info,d,e1,e2,e3,e4,e5,e6⟩:=Af (hT _ _ hi);have hd:=Ex (P:=P) (d:=d) (e3▸hk);subst hd;exact Dec.int e2
theorem WL{i:Ae}(hT:Bc P T)(hi:T t=some i)(hk:i.k=.bool):Dec enc P W t (fun b:Bool=>[.bool b]) (fun _=>True):=by
 obtain⟨info,d,e1,e2,e3,e4,e5,e6⟩:=Af (hT _ _ hi);have hd:=KW (P:=P) (d:=d) (e3▸hk);subst hd;exact Dec.bool e2
theorem Rx{i:Ae}(hT:Bc P T)(hi:T t=some i)(hk:i.k=.string):Dec enc P W t (fun s:ByteArray=>[.str s]) (fun s=>s.size<=maxLen/\s.size<=reachBytes):=by
 obtain⟨info,d,e1,e2,e3,e4,e5,e6⟩:=Af (hT _ _ hi);have hd:=CZ (P:=P) (d:=d) (e3▸hk);subst hd;exact Dec.string e2
theorem Dec.slice'{α:Type}{f:α->List AV}{Q:α->Prop}{i j:Ae}{u:Nat}(hT:Bc P T)(hi:T t=some i)(hk:i.k=.slice u)(hj:T u=some j)(hp:0<j.size)(he:Dec enc P W u f Q):
 Dec enc P W t (fun l:List α=>[.lst false (l.map f)]) (fun l=>l.length*j.bytes<=reachBytes/\∀a∈l,Q a):=by
 obtain⟨info,d,e1,e2,e3,e4,e5,e6⟩:=Af (hT _ _ hi);have hd:=A0 (P:=P) (d:=d) (e3▸hk);subst hd;have:=Dec.slice (enc:=enc) (W:=W) e2 (by rw[E8 hT hj];exact hp) he;rwa[MO hT hj]at this
theorem Cw:∀{ts:List TypeId} {ds:List (DataW H)} {t:TypeId} {d:DataW H} {i:Nat},(DataW.weightsEach P ts ds).all (· <=reachBytes)=true->ts[i]?=some t->ds[i]?=some d->(d.weights P t).all (· <=reachBytes)=true
 | [],_,_,_,_,_,h,_=>by simp at h
 |_::_,[],_,_,_,_,_,h=>by simp at h
 |t::ts,d::ds,t',d',0,hw,h1,h2=>by
  simp at h1 h2;subst h1;subst h2;simp only[DataW.weightsEach,List.all_append,Bool.and_eq_true]at hw;exact hw.1
 |t::ts,d::ds,t',d',i+1,hw,h1,h2=>by
  simp only[DataW.weightsEach,List.all_append,Bool.and_eq_true]at hw;exact Cw (ts:=ts) (ds:=ds) hw.2 Ld Lf
def vj(enc:TypeId×Value->H)(P:Program)(W:World)(T:Nat->Option Ae)(cs:List Value)(fs:List (Nat×Nat)):Prop:=
  ∀(i off u:Nat),fs[i]?=some (off,u)->∀{α:Type} {f:α->List AV} {Q:α->Prop},Dec enc P W u f Q->∃a,Reads W ((cs.drop off).take (P.cellsOf u)) (f a)/\Q a
theorem IQ{i:Ae}{fs:List (Nat×Nat)}(hT:Bc P T)(hi:T t=some i)(hk:i.k=.struct fs){fuel:Nat}{cs:List Value}{x:DataW H×List MemPlace}(h:DataW.trod enc P W 0 (fun _=>true) true fuel t cs=some x)(hw:(x.1.weights P t).all (· <=reachBytes)=true):
 cs.length=i.size/\vj enc P W T cs fs:=by
 obtain⟨info,d,e1,e2,e3,e4,e5,e6⟩:=Af (hT _ _ hi);obtain⟨A,rfl,rfl,_⟩:=Dk (P:=P) (d:=d) (e3▸hk);obtain⟨xs,n,rfl,rfl,hl,hxl,hx⟩:=DataW.trod_struct e2 h;refine⟨by rw[hl,E8 hT hi],fun j off u hj α f Q hd=>?_⟩;rw[List.getElem?_map,Option.map_eq_some_iff]at hj;obtain⟨F,hF,hF2⟩:=hj;simp only[Prod.mk.injEq]at hF2;obtain⟨rfl,rfl⟩:=hF2;have hFa:A[j]?=some F:=by simpa using hF
 have hjlt:j<xs.length:=by rw[hxl];exact(Array.getElem?_eq_some_iff.1 hFa).1
 have h1:=hx j F hFa;rw[List.getElem?_eq_getElem hjlt]at h1;simp only[DataW.weights,e2]at hw;exact hd _ _ _ h1 (Cw hw (i:=j) (by rw[List.getElem?_map,hF];rfl) (by rw[List.getElem?_map,List.getElem?_eq_getElem hjlt];rfl))
theorem Reads.nil(W:World)(cs:List Value):Reads W (cs.take 0) []:=⟨by simp,fun j x v h=>by simp at h⟩
theorem Reads.app{cs:List Value}{off n:Nat}{xs ys:List AV}(h1:Reads W (cs.take off) xs)(h2:Reads W ((cs.drop off).take n) ys)(ho:off<=cs.length):Reads W (cs.take (off+n)) (xs++ys):=by
 have hl1:xs.length=off:=by rw[h1.1,List.length_take];omega
 refine⟨by rw[List.length_append,h2.1,hl1];simp only[List.length_take,List.length_drop];omega,fun j x v hx hv=>?_⟩;rw[List.take_add]at hv
 by_cases hj:j<off
 . rw[List.getElem?_append_left Ab]at hx;rw[List.getElem?_append_left Xc]at hv;exact h1.2 j x v hx hv
 . rw[List.getElem?_append_right Ab]at hx;rw[List.getElem?_append_right Xc]at hv;have hll:(List.take off cs).length=off:=by rw[List.length_take];omega
   rw[hll]at hv;rw[hl1]at hx;exact h2.2 _ x v hx hv
theorem Reads.all{cs:List Value}{n:Nat}{xs:List AV}(h:Reads W (cs.take n) xs)(hn:cs.length=n):Reads W cs xs:=by
 rwa[List.take_of_length_le Ab]at h
theorem dZ{α:Type}{f:α->List AV}{Q:α->Prop}{v:Value}{d:DataW H}{ps:List MemPlace}(h:DataW.Trod enc P W 0 (fun _=>true) true t v d ps)(hw:(d.weights P t).all (· <=reachBytes)=true)(hd:Dec enc P W t f Q):∃a,Reads W v.cells.toList (f a)/\Q a:=by
 obtain⟨fuel,hf⟩:=h;exact hd _ _ _ hf hw
theorem Reads.val{v:Value}{xs:List AV}(h:Reads W v.cells.toList xs)(hv:∃cs,v=.agg cs):Rel (BR W) AE (.agg xs) v:=by
 obtain⟨cs,rfl⟩:=hv;exact .agg _ _ _ (by simpa[Value.cells]using h.1) fun j x u h1 h2=>(h.2 j x u h1 (by simpa[Value.cells]using h2)).1
theorem Reads.val1{v:Value}{x:AV}(h:Reads W v.cells.toList [x])(hv:∀cs,v≠ .agg cs):Rel (BR W) AE x v:=by
 have hc:v.cells.toList=[v]:=by cases v<;>first|rfl|exact absurd rfl (hv _)
 rw[hc]at h;exact(h.2 0 x v rfl rfl).1
theorem Sy{b0:Nat}{v:Value}{i:Ae}{fs:List (Nat×Nat)}(hT:Bc P T)(hi:T t=some i)(hk:i.k=.struct fs)(h:Value.okWide P W .any b0 t v):∃cs,v=.agg cs:=by
 obtain⟨info,d,e1,e2,e3,e4,e5,e6⟩:=Af (hT _ _ hi);obtain⟨A,rfl,_,_⟩:=Dk (P:=P) (d:=d) (e3▸hk);unfold Value.okWide at h;rw[e2]at h;obtain⟨cs,h1,_⟩:=h;exact⟨cs,h1⟩
theorem Grow.kept{H0 H':Aq}{W W':World}(g:Grow H0 W H' W')(may:MemPlace->Prop):W.keptBut W' may:=by
 refine⟨g.os,g.out,fun i hi=>?_⟩;rw[g.keep i hi];split<;>simp_all
theorem X8{f:Func}{s:ChangeSpec}{apart fresh handsOn:Bool}{W W':World}{args:Array Value}{v:Value}{ds gs:List (DataW H)}{before pa pv:List MemPlace}
 (hW:DataW.Whole enc P f.params.toList s.vars apart W args.toList ds gs before)
 (hres:∀(b:Nat) (sp:Nat->Bool) (hd:Bool),DataW.TrodAll enc P W' b sp hd f.resultTypes.toList (v.resultList f.resultTypes.size) (s.fn H (ds++gs)).results [])
 (hargs:∀sp:Nat->Bool,(∀p∈before,sp p.block=true)->DataW.TrodAll enc P W' 0 sp true f.params.toList args.toList (s.fn H (ds++gs)).args pa)
 (hvars:∀sp:Nat->Bool,(∀p∈before,sp p.block=true)->DataW.TrodVars enc P W' sp s.vars (s.fn H (ds++gs)).vars pv)
 (hps:before=pa++pv) (hk:∀may:MemPlace->Prop,W.keptBut W' may):s.post enc P f apart fresh handsOn false W args v W':=by
 have hold:∀p∈before,(fun b=>decide (b<W.heap.size)) p.block=true:=fun p hp=>by simpa using hW.lt p hp
 exact⟨ds,gs,before,[],pa,pv,hW,hres _ _ _,hargs _ hold,hvars _ hold,hk _,fun h=>by cases h⟩
theorem HS(hl:laidOutB P=true){W':World}{sp:Nat->Bool}:∀{ts:List TypeId} {vs:List Value} {ds:List (DataW H)} {ps:List MemPlace},ts.all (fun t=>P.readableRec t&&decide (t<P.types.size))=true->
 DataW.TrodAll enc P W 0 (fun _=>true) true ts vs ds ps->(∀p∈ps,W.sameAt W' p)->(∀p∈ps,sp p.block=true)->DataW.TrodAll enc P W' 0 sp true ts vs ds ps
 | [],vs,ds,ps,_,h,_,_=>by
  obtain⟨rfl,rfl,rfl⟩:=trodAll_nil h;rfl
 |t::ts,vs,ds,ps,hr,h,h1,h2=>by
  obtain⟨v,vs',d,ds',p,q,rfl,rfl,rfl,hd,hrest⟩:=trodAll_cons h;simp only[List.all_cons,Bool.and_eq_true,decide_eq_true_eq]at hr;exact⟨p,q,WideElems.Trod_stays hl hr.1.1 hr.1.2 hd (fun x hx=>h1 x Lc) (fun x hx=>h2 x Lc),HS hl hr.2 hrest (fun x hx=>h1 x Lc) (fun x hx=>h2 x Lc),rfl⟩
theorem Grow.same{H0 H':Aq}{W W':World}(g:Grow H0 W H' W'){p:MemPlace}(hp:p.block<W.heap.size):W.sameAt W' p:=by
 cases p with
 |cell b off=>
  have:=g.keep b hp;show W'.cell? _=W.cell? _;unfold World.cell?;simp only[this]
 |map b=>exact g.keep b hp
theorem VQ{f:FuncId}{fn:Func}{s:ChangeSpec}{args:Array Value}{ds gs:List (DataW H)}{before:List MemPlace}{tb:TypeId}{xs:List AV}(hl:laidOutB P=true)(hvs:s.vars=[])(hr:fn.params.toList.all (fun t=>P.readableRec t&&decide (t<P.types.size))=true)
 (hres:fn.resultTypes= #[tb]) (hb:P.underlying tb=some .bool) (hs1:(s.fn H (ds++gs)).results=[.lit (.bool true)]) (hs2:(s.fn H (ds++gs)).args=ds) (hs3:(s.fn H (ds++gs)).vars=[])
 (hW:DataW.Whole enc P fn.params.toList s.vars false W args.toList ds gs before) (hrel:RelAll (BR W) AE xs args) (hc:APure P f xs (fun r=>r=.bool true)) (hg:GlobOk (BR W)) {fresh handsOn:Bool}:
 Calls P f args W fun e W'=>∃v,e=.returned v/\s.post enc P fn false fresh handsOn false W args v W':=by
 have hW':=hW;obtain⟨p,q,hA,hV,rfl,hfz,hnd⟩:=hW;rw[hvs]at hV;obtain⟨rfl,rfl⟩:=trodVars_none hV;have hlt:∀x∈p++[],x.block<W.heap.size:=fun x hx=>hW'.lt x hx
 refine(hc (BR W) W args hrel (Q2 W hg)).mono fun e W' hx=>?_
 obtain⟨v,r,H',rfl,rfl,h3,h4⟩:=hx;have hv:=h3.bool_inv;subst hv;refine⟨_,rfl,X8 (pa:=p) (pv:=[]) hW' (fun b sp hd=>?_) (fun sp hsp=>?_) (fun sp hsp=>?_) rfl (fun may=>h4.kept may)⟩
 . rw[hs1,hres];exact trodAll_mk1 (shut_bool hb true)
 . rw[hs2];exact HS hl hr hA (fun x hx=>h4.same (hlt x Lc)) (fun x hx=>hsp x Lc)
 . rw[hs3,hvs];rfl
theorem RelAll.nil{K:Aq}{ι:AL}:RelAll K ι [] #[]:=⟨rfl,fun j x v h=>by simp at h⟩
theorem RelAll.cons{K:Aq}{ι:AL}{x:AV}{xs:List AV}{v:Value}{vs:List Value}(h:Rel K ι x v)(hs:RelAll K ι xs ⟨vs⟩):RelAll K ι (x::xs) ⟨v::vs⟩:=by
 refine⟨by have:=hs.1;simp at this|-;exact this,fun j y u h1 h2=>?_⟩
 cases j with
 |zero=>simp at h1 h2;subst h1;subst h2;exact h
 |succ j=>exact hs.2 j y u Ld Lf
end
end Go.Proofs.YtijlphdockhgjaaGreatDoor.Sv
namespace Go.Proofs.YtijlphdockhgjaaGreatDoor
open Go Sv
def strData{H:Type}(zs:List (List UInt8)):DataW H:=.agg (zs.map fun z=>.lit (.string z))
def strV(z:List UInt8):Value:=.string ⟨⟨z⟩⟩
theorem cells_of_strs{H:Type}{enc:TypeId×Value->H}{P:Program}{w:World}{base:Nat}{sp:Nat->Bool}{held:Bool}{fuel:Nat}{t e:TypeId}{n:Nat}{cs:List Value}{zs:List (List UInt8)}{p:List MemPlace}
 (ht:P.underlying t=some (.array n e)) (he:P.underlying e=some .string) (hce:P.cellsOf e=1) (hct:P.cellsOf t=n)
 (h:DataW.trod enc P w base sp held fuel t cs=some (strData zs,p)):cs=zs.map strV:=by
 cases fuel with
 |zero=>simp[DataW.trod]at h
 |succ fuel=>
  simp only[DataW.trod,ht,hce,hct,Nat.mul_one]at h;split at h
  . rename_i hl;obtain⟨xs,hm,hx⟩:=Option.map_eq_some_iff.1 h;have hxs:xs.map (·.1)=zs.map fun z=>(DataW.lit (.string z):DataW H):=by
     have:=congrArg Prod.fst hx;simpa[strData]using this
    have hxl:xs.length=n:=by simpa using Lib.mapM_length hm
    have hzl:zs.length=n:=by
     have:=congrArg List.length hxs;simp at this;omega
    apply List.ext_getElem?;intro i
    by_cases hi:i<n
    . obtain⟨b,hb,hf⟩:=Lib.mapM_at hm i i (by simp[hi]);obtain⟨z,hc,rfl,_⟩:=DataW.trod_string he hf;have h1:cs[i]?=some (.string z):=by
       have:=congrArg (·[0]?) hc;simpa[List.getElem?_take,List.getElem?_drop]using this
      have h2:(xs.map (·.1))[i]?=some (DataW.lit (.string z.data.toList):DataW H):=by simp[hb]
      rw[hxs]at h2;simp only[List.getElem?_map,Option.map_eq_some_iff,DataW.lit.injEq,Lit.string.injEq]at h2;obtain⟨z',hz',rfl⟩:=h2;rw[h1,List.getElem?_map,hz'];rfl
    . rw[List.getElem?_eq_none Ab,List.getElem?_eq_none FI]
  . cases h
theorem rel_strs{P:Program}{W:World}{name:String}{zs:List (List UInt8)}{rest:List (String×DataW Unit)}{g:Nat}{t e:TypeId}{n:Nat}
 (hg:P.globalNamed name=some g) (hty:(P.globals[g]?).map (·.type)=some t) (ht:P.underlying t=some (.array n e)) (he:P.underlying e=some .string) (hce:P.cellsOf e=1) (hct:P.cellsOf t=n)
 (h:laidMet P ((name,strData zs)::rest) W) (hne:0<zs.length):Rel (BR W) AE (Pm (zs.map strV)) (.pointer (some ⟨g,0,none⟩)):=by
 obtain⟨ps,⟨g',t',cs,fuel,p,q,hg',ht',hvar,hd,_,_⟩,_⟩:=h;obtain rfl:=Option.some.inj (hg.symm.trans hg');obtain rfl:=Option.some.inj (hty.symm.trans ht');have hcs:=cells_of_strs ht he hce hct hd;have cell:∀i,W.cell? ⟨g,i,none⟩=(zs.map strV)[i]?:=fun i=>by
  rw[World.var?_cell hg hvar i,<-hcs]
  simp
 obtain⟨c,hc,_,h0⟩:=Ej (show W.cell? ⟨g,0,none⟩=some (strV (zs[0]'hne)) by rw[cell,List.getElem?_map,List.getElem?_eq_getElem hne];rfl);have key:∀(j:Nat) (x:AV),((zs.map strV).map gk)[j]?=some x->∃z:List UInt8,x=.str ⟨⟨z⟩⟩/\c[0+j]?=some (strV z)/\(zs.map strV)[j]?=some (strV z):=fun j x hx=>by
  rw[List.getElem?_map]at hx;obtain⟨v,hv,rfl⟩:=Option.map_eq_some_iff.1 hx;obtain⟨z,hz,rfl⟩:=Option.map_eq_some_iff.1 (by rw[<-List.getElem?_map];exact hv);obtain⟨c',hc',_,hj'⟩:=Ej (show W.cell? ⟨g,j,none⟩=some (strV z) by rw[cell];exact hv);have:c'=c:=by rw[hc]at hc';exact(Option.some.inj hc').symm
  subst this;exact⟨z,rfl,by rw[Nat.zero_add];exact hj',hv⟩
 refine .loc _ _ g 0 c (fun j=>((zs.map strV)[j]?).getD undef) hc (fun j x hx=>?_) (fun j x hx=>?_) (fun j x hx=>?_)
 . obtain⟨z,rfl,h1,h2⟩:=key j x hx;rw[h2];exact h1
 . obtain⟨z,rfl,h1,h2⟩:=key j x hx;rw[h2];exact .str _ _
 . obtain⟨z,rfl,h1,h2⟩:=key j x hx;rfl
end Go.Proofs.YtijlphdockhgjaaGreatDoor
namespace Go.Proofs.YtijlphdockhgjaaGreatDoor.Sv
open Go
def setsOp(op:Int):Bool:=op==1||(op==2||(op==3||(op==4||(op==6||op==8))))
def Tac.sets(t:Tac):Int:=bif setsOp t.op then t.d else -1
def use1(op:Int):Bool:=op==2||(op==5||(op==6||op==9))
def use2(op:Int):Bool:=op==3||op==7
def Tac.uses(t:Tac):List Int:=bif use1 t.op then [t.a]else bif use2 t.op then [t.a,t.b]else []
theorem PV(t:Tac):t.uses.length<=2:=by
 unfold Tac.uses
 cases use1 t.op<;>cases use2 t.op<;>simp
def AX(i n:Int):Bool:=decide (0<=i)&&decide (i<n)
theorem TG(op:Int):(use1 op&&use2 op)=false:=by
 rw[Bool.eq_false_iff];intro h;simp only[use1,use2,Bool.and_eq_true,Bool.or_eq_true,beq_iff_eq]at h;omega
def FE(op:Int):Bool:=op==4||op==5
def Dd(op:Int):Bool:=op==6||op==7
def Tac.want(t:Tac):Tac where
  op:=t.op
  d:=bif setsOp t.op then t.d else 0
  a:=bif use1 t.op||use2 t.op then t.a else 0
  b:=bif use2 t.op then t.b else 0
  k:=bif t.op==3 then t.k else 0
  base:=bif FE t.op||(Dd t.op||t.op==10)then t.base else 0
  size:=bif Dd t.op then t.size else 0
  n:=bif t.op==1 then t.n else 0
def Tac.same(x y:Tac):Bool:=x.op==y.op&&(x.d==y.d&&(x.a==y.a&&(x.b==y.b&&(x.k==y.k&&(x.base==y.base&&(x.size==y.size&&(x.n==y.n&&true)))))))
theorem Tac.same_iff(x y:Tac):x.same y=true↔x=y:=by
 have h1:=Tac.eqCells x y;have h2:Sv.eqCells x.cells y.cells=some (x.same y):=rfl;rw[h1]at h2;have h3:decide (x=y)=x.same y:=by simpa using h2
 rw[<-h3,decide_eq_true_iff]
def Tac.rest(t:Tac)(f words:Int):Bool:=
  bif t.op==3 then decide (4<=t.k)&&decide (t.k<=15)
  else bif FE t.op then AX t.base words
  else bif Dd t.op then decide (1<=t.size)&&(decide (t.size<=4096)&&(decide (0<=t.base)&&decide (t.base<=words-t.size)))
  else bif t.op==10 then AX t.base f
  else true
def Tac.fits(t:Tac)(f regs words:Int):Bool:=
  decide (1<=t.op)&&(decide (t.op<=10)&&((!setsOp t.op||AX t.d regs)&&(t.uses.all (fun r=>AX r regs)&&(t.rest f words&&t.same t.want))))
theorem IT{t:Tac}(h:decide (t.sets>=0)=true):setsOp t.op=true:=by
 unfold Tac.sets at h
 cases e:setsOp t.op with
 |true=>rfl
 |false=>rw[e]at h;simp at h
theorem Uu{t:Tac}{f regs words:Int}(h:¬(1<=t.op/\t.op<=10)):t.fits f regs words=false:=by
 rw[Bool.eq_false_iff];intro h2;simp only[Tac.fits,Bool.and_eq_true,decide_eq_true_eq]at h2;exact h ⟨h2.1,h2.2.1⟩
theorem jL{t:Tac}{f regs words:Int}(h:setsOp t.op=true)(h2:AX t.d regs=false):t.fits f regs words=false:=by
 simp[Tac.fits,h,h2]
theorem ZG{t:Tac}{f regs words:Int}(h:t.uses.all (fun r=>AX r regs)=false):t.fits f regs words=false:=by
 simp only[Tac.fits,h,Bool.false_and,Bool.and_false]
theorem Od{t:Tac}{f regs words:Int}(h:t.rest f words=false):t.fits f regs words=false:=by
 simp only[Tac.fits,h,Bool.false_and,Bool.and_false]
theorem Wi{t:Tac}{f regs words:Int}(h1:decide (t.op<1)=false)(h2:decide (t.op>10)=false)(hd:(!setsOp t.op||AX t.d regs)=true)(hu:t.uses.all (fun r=>AX r regs)=true)(hr:t.rest f words=true):t.fits f regs words=t.same t.want:=by
 have h1':decide (1<=t.op)=true:=by simp at h1|-;omega
 have h2':decide (t.op<=10)=true:=by simp at h2|-;omega
 simp only[Tac.fits,h1',h2',hd,hu,hr,Bool.true_and]
def Block.ends(b:Block)(blocks regs:Int):Bool:=
  bif b.fin==1 then AX b.to blocks&&(b.v==0&&b.els==0)
  else bif b.fin==2 then AX b.to blocks&&(AX b.els blocks&&AX b.v regs)
  else b.fin==3&&(b.v==0&&(b.to==0&&b.els==0))
def Block.ok(x:Block)(blocks regs number words:Int):Bool:=x.ends blocks regs&&x.ins.all (fun t=>t.fits number regs words)
def BFunc.one(f:BFunc)(number words:Int):Bool:=
  decide (0<=f.regs)&&(decide (f.regs<=4000)&&(!f.blocks.isEmpty&&f.blocks.all (fun x=>x.ok f.blocks.length f.regs number words)))
def Blocks.right(b:Blocks):Bool:=
  decide (0<=b.words)&&(decide (b.words<=1048576)&&(!b.funcs.isEmpty&&b.funcs.zipIdx.all (fun p=>p.1.one (p.2:Int) b.words)))
def Block.count(x:Block):Nat:=1+x.ins.length
def BFunc.count(f:BFunc):Nat:=(f.blocks.map Block.count).sum
def Blocks.count(b:Blocks):Nat:=(b.funcs.map BFunc.count).sum
theorem Ub{f:BFunc}{number words:Int}(h:¬(0<=f.regs/\f.regs<=4000/\f.blocks.length≠0)):f.one number words=false:=by
 rw[Bool.eq_false_iff];intro h2;simp only[BFunc.one,Bool.and_eq_true,decide_eq_true_eq,Bool.not_eq_true',List.isEmpty_eq_false_iff]at h2;exact h ⟨h2.1,h2.2.1,fun e=>h2.2.2.1 (List.length_eq_zero_iff.1 e)⟩
theorem HG{f:BFunc}{number words:Int}(h1:0<=f.regs)(h2:f.regs<=4000)(h3:f.blocks.length≠0):f.one number words=f.blocks.all (fun x=>x.ok f.blocks.length f.regs number words):=by
 have h3':f.blocks.isEmpty=false:=by
  rw[List.isEmpty_eq_false_iff];intro e;rw[e]at h3;exact h3 rfl
 simp only[BFunc.one,decide_eq_true h1,decide_eq_true h2,h3',Bool.not_false,Bool.true_and]
theorem NN{b:Blocks}(h:¬(0<=b.words/\b.words<=1048576/\b.funcs.length≠0)):b.right=false:=by
 rw[Bool.eq_false_iff];intro h2;simp only[Blocks.right,Bool.and_eq_true,decide_eq_true_eq,Bool.not_eq_true',List.isEmpty_eq_false_iff]at h2;exact h ⟨h2.1,h2.2.1,fun e=>h2.2.2.1 (List.length_eq_zero_iff.1 e)⟩
theorem FM{b:Blocks}(h1:0<=b.words)(h2:b.words<=1048576)(h3:b.funcs.length≠0):b.right=b.funcs.zipIdx.all (fun p=>p.1.one (p.2:Int) b.words):=by
 have h3':b.funcs.isEmpty=false:=by
  rw[List.isEmpty_eq_false_iff];intro e;rw[e]at h3;exact h3 rfl
 simp only[Blocks.right,decide_eq_true h1,decide_eq_true h2,h3',Bool.not_false,Bool.true_and]
theorem BS{α:Type}{l:List α}{p:α->Bool}{k:Nat}{x:α}(hx:l[k]?=some x)(h:(l.take k).all p=true)(hp:p x=true):(l.take (k+1)).all p=true:=by
 rw[AR hx,List.all_append,h];simp[hp]
theorem BJ{α:Type}{l:List α}{p:α->Bool}{k:Nat}{x:α}(hx:l[k]?=some x)(hp:p x=false):l.all p=false:=by
 rw[Bool.eq_false_iff];intro h;rw[List.all_eq_true.1 h x (List.mem_of_getElem? hx)]at hp
 cases hp
theorem Cd{α:Type}{l:List α}{p:α->Bool}{k:Nat}(h:(l.take k).all p=true)(hk:l.length<=k):l.all p=true:=by
 rwa[List.take_of_length_le hk]at h
theorem XC{α:Type}{l:List α}{p:α->Nat}{k:Nat}{x:α}(hx:l[k]?=some x):((l.take (k+1)).map p).sum=((l.take k).map p).sum+p x:=by
 rw[AR hx,List.map_append,List.sum_append];simp
theorem Bl{α:Type}{l:List α}{k:Nat}{x:α}(hx:l[k]?=some x):l.zipIdx[k]?=some (x,k):=by
 rw[List.getElem?_zipIdx,hx];simp
def vd:Nat:=140737488355328
theorem BFunc.ext'{f g:BFunc}(h1:f.regs=g.regs)(h2:f.blocks=g.blocks):f=g:=by cases f;cases g;simp_all
theorem GS{α:Type}{l l':List α}{k:Nat}(h:l.take k=l'.take k)(h1:l.length<=k)(h2:l'.length<=k):l=l':=by
 rwa[List.take_of_length_le h1,List.take_of_length_le h2]at h
def F8(op a b:Int):Int×Int:=bif b==0 then(0,14)else bif op==7 then(IntKind.u32.wrap (a.tdiv b),0)else(a.tmod b,0)
def OB(op a b:Int):Int:=bif decide (b>31)then 0 else bif op==12 then IntKind.u32.wrap (a*2^(min b.toNat IntKind.u32.bits))else a.fdiv (2^(min b.toNat IntKind.u32.bits))
def IE(op a b:Int):Int:=bif (op==14&&decide (a<b))||(op==15&&a==b)then 1 else 0
def B1(op a b:Int):Int×Int:=
  bif op==4 then(IntKind.u32.wrap (a+b),0)
  else bif op==5 then(IntKind.u32.wrap (a-b),0)
  else bif op==6 then(IntKind.u32.wrap (a*b),0)
  else bif op==7||op==8 then F8 op a b
  else bif op==9 then(IntKind.u32.wrap ((BitVec.ofInt IntKind.u32.bits a&&&BitVec.ofInt IntKind.u32.bits b).toNat),0)
  else bif op==10 then(IntKind.u32.wrap ((BitVec.ofInt IntKind.u32.bits a|||BitVec.ofInt IntKind.u32.bits b).toNat),0)
  else bif op==11 then(IntKind.u32.wrap ((BitVec.ofInt IntKind.u32.bits a^^^BitVec.ofInt IntKind.u32.bits b).toNat),0)
  else bif op==12||op==13 then(OB op a b,0)
  else bif op==14||op==15 then(IE op a b,0)
  else(0,1)
def fS(p:Int×Int):AV:=.tup [.int .u32 p.1,.int .i64 p.2]
def Hf(n:Int):Prop:=0<=n/\n<4294967296
theorem DL(n:Int):Hf (IntKind.u32.wrap n):=by
 rw[IntKind.wrap_u32];constructor<;>omega
theorem Hv{op a b:Int}(ha:Hf a)(hb:Hf b):Hf (B1 op a b).1:=by
 unfold B1
 cases op==4<;>simp only[cond_true,cond_false]<;>try exact DL _
 cases op==5<;>simp only[cond_true,cond_false]<;>try exact DL _
 cases op==6<;>simp only[cond_true,cond_false]<;>try exact DL _
 cases op==7||op==8
 . simp only[cond_false]
   cases op==9<;>simp only[cond_true,cond_false]<;>try exact DL _
   cases op==10<;>simp only[cond_true,cond_false]<;>try exact DL _
   cases op==11<;>simp only[cond_true,cond_false]<;>try exact DL _
   cases op==12||op==13
   . simp only[cond_false]
     cases op==14||op==15
     . simp only[cond_false];constructor<;>omega
     . simp only[cond_true,IE]
       cases (op==14&&decide (a<b))||(op==15&&a==b)<;>simp only[cond_true,cond_false]<;>constructor<;>omega
   . simp only[cond_true,OB]
     cases decide (b>31)<;>simp only[cond_true,cond_false]
     . cases op==12<;>simp only[cond_true,cond_false]
       . have hp:(0:Int)<2^(min b.toNat IntKind.u32.bits):=Int.pow_pos Ab;rw[Int.fdiv_eq_ediv_of_nonneg _ (Int.le_of_lt hp)];refine⟨Int.ediv_nonneg ha.1 (Int.le_of_lt hp),?_⟩;have:=Int.ediv_le_self (2^(min b.toNat IntKind.u32.bits)) ha.1;have:=ha.2;omega
       . exact DL _
     . constructor<;>omega
 . simp only[cond_true,F8]
   cases hz:b==0<;>simp only[cond_true,cond_false]
   . cases op==7<;>simp only[cond_true,cond_false]
     . rw[Int.tmod_eq_emod_of_nonneg ha.1];have hb0:b≠0:=by simpa using hz
       refine⟨Int.emod_nonneg _ hb0,?_⟩;have:=Int.emod_lt_of_pos a (show 0<b by have:=hb.1;omega);have:=hb.2;omega
     . exact DL _
   . constructor<;>omega
theorem Mk:Hf 0:=by constructor<;>omega
section
variable {P : Program} {T : Nat -> Option Ae} {o : Oper} {e : Ar} {h : Aa}
end
theorem Ra{α:Type}{F:List α}{f:α->List AV}{z:List AV}{k n:Nat}(hF:F.length=n)(hk:k<n):((F.take k).map f++List.replicate (n-k) z)[0+((k:Nat):Int).toNat]?=some z:=by
 grind
theorem My{α:Type}{F:List α}{f:α->List AV}{z:List AV}{k n:Nat}{x:α}(hF:F.length=n)(hx:F[k]?=some x):((F.take k).map f++List.replicate (n-k) z).set (0+((k:Nat):Int).toNat) (f x)=(F.take (k+1)).map f++List.replicate (n-(k+1)) z:=by
 have hk:k<n:=by rw[<-hF];exact(List.getElem?_eq_some_iff.1 hx).1
 have hl:((F.take k).map f).length=k:=by simp;omega
 rw[Int.toNat_natCast,Nat.zero_add,List.set_append,if_neg Ab,hl,Nat.sub_self,AR hx,List.map_append,List.append_assoc];congr 1;obtain⟨m,hm⟩:∃m,n-k=m+1:=⟨n-k-1,by omega⟩
 have hm2:n-(k+1)=m:=by omega
 rw[hm,hm2];rfl
theorem E6{α:Type}{F:List α}{f:α->List AV}{z:List AV}{k n:Nat}(hF:F.length=n)(hk:k<=n):n=((F.take k).map f++List.replicate (n-k) z).length:=by
 simp;omega
theorem Rb{α:Type}{F:List α}{f:α->List AV}{z:List AV}{k n:Nat}(hF:F.length=n)(hk:n<=k):((((F.take k).map f++List.replicate (n-k) z).drop 0).take n)=F.map f:=by
 rw[Nat.sub_eq_zero_of_le hk,List.drop_zero,List.replicate_zero,List.append_nil,List.take_of_length_le FI,List.take_of_length_le Ab]
def QW(l:List Tac):Prop:=∀t∈l,Hf t.n
end Go.Proofs.YtijlphdockhgjaaGreatDoor.Sv
namespace Go.Proofs.YtijlphdockhgjaaGreatDoor.Sv
open Go Go.ChangeShapes Go.WideShapes Go.ChangeAt Go.RowKit
def QU(n:Int):Prop:= -9223372036854775808<=n/\n<=9223372036854775807
theorem Cu{n:Int}(h:(Lit.int .i64 n).wf=true):QU n:=by
 simpa[Lit.wf,IntKind.min,IntKind.max,IntKind.signed,IntKind.bits,QU]using h
theorem ib{n:Int}(h:(Lit.int .u32 n).wf=true):Hf n:=by
 simp[Lit.wf,IntKind.min,IntKind.max,IntKind.signed,IntKind.bits]at h;exact⟨h.1,by omega⟩
structure Tac.Ok(t:Tac):Prop where
  op:QU t.op
  d:QU t.d
  a:QU t.a
  b:QU t.b
  k:QU t.k
  base:QU t.base
  size:QU t.size
  n:Hf t.n
structure Block.Ok(x:Block):Prop where
  len:x.ins.length*64<=reachBytes
  ins:∀t∈x.ins,t.Ok
  fin:QU x.fin
  v:QU x.v
  to:QU x.to
  els:QU x.els
structure BFunc.Ok(f:BFunc):Prop where
  regs:QU f.regs
  len:f.blocks.length*56<=reachBytes
  blocks:∀x∈f.blocks,x.Ok
structure Blocks.Ok(b:Blocks):Prop where
  words:QU b.words
  len:b.funcs.length*32<=reachBytes
  funcs:∀f∈b.funcs,f.Ok
theorem BFunc.Ok.insW{f:BFunc}(h:f.Ok){x:Block}(hx:x∈f.blocks):QW x.ins:=fun t ht=>((h.blocks x hx).ins t ht).n
section
variable {H : Type} {enc : TypeId × Value -> H} {P : Program} {W : World} {T : Nat -> Option Ae}
theorem Dy{cs:List Value}{off u:Nat}{xs ys:List AV}{j:Ae}(hT:Bc P T)(hj:T u=some j){n:Nat}(hn:j.size=n)(h1:Reads W (cs.take off) xs)(h2:Reads W ((cs.drop off).take (P.cellsOf u)) ys)(ho:off<=cs.length):Reads W (cs.take (off+n)) (xs++ys):=by
 rw[E8 hT hj,hn]at h2;exact h1.app h2 ho
theorem dS{t p q:Nat}(hT:Bc P T){i j1 j2:Ae}(hi:T t=some i)(hk:i.k=.struct [(0,p),(1,p),(2,p),(3,p),(4,p),(5,p),(6,p),(7,q)])(hs:i.size=8)(h1:T p=some j1)(k1:j1.k=.int .i64)(s1:j1.size=1)(h2:T q=some j2)(k2:j2.k=.int .u32)(s2:j2.size=1):
 Dec enc P W t Tac.cells Tac.Ok:=fun fuel cs x h hw=>by
 obtain⟨hl,hp⟩:=IQ hT hi hk h hw;rw[hs]at hl;obtain⟨x0,a0,b0⟩:=hp 0 _ _ rfl (Br hT h1 k1);obtain⟨x1,a1,b1⟩:=hp 1 _ _ rfl (Br hT h1 k1);obtain⟨x2,a2,b2⟩:=hp 2 _ _ rfl (Br hT h1 k1);obtain⟨x3,a3,b3⟩:=hp 3 _ _ rfl (Br hT h1 k1);obtain⟨x4,a4,b4⟩:=hp 4 _ _ rfl (Br hT h1 k1);obtain⟨x5,a5,b5⟩:=hp 5 _ _ rfl (Br hT h1 k1);obtain⟨x6,a6,b6⟩:=hp 6 _ _ rfl (Br hT h1 k1);obtain⟨x7,a7,b7⟩:=hp 7 _ _ rfl (Br hT h2 k2);have c0:=Dy hT h1 s1 (Reads.nil W cs) a0 Ab;have c1:=Dy hT h1 s1 c0 a1 Ab;have c2:=Dy hT h1 s1 c1 a2 Ab;have c3:=Dy hT h1 s1 c2 a3 Ab;have c4:=Dy hT h1 s1 c3 a4 Ab;have c5:=Dy hT h1 s1 c4 a5 Ab;have c6:=Dy hT h1 s1 c5 a6 Ab;have c7:=Dy hT h2 s2 c6 a7 Ab;exact⟨⟨x0,x1,x2,x3,x4,x5,x6,x7⟩,c7.all hl,⟨Cu b0,Cu b1,Cu b2,Cu b3,Cu b4,Cu b5,Cu b6,ib b7⟩⟩
theorem Wu{t p s u:Nat}(hT:Bc P T){i j1 j2 j3:Ae}(hi:T t=some i)(hk:i.k=.struct [(0,s),(1,p),(2,p),(3,p),(4,p)])(hs:i.size=5)(h1:T p=some j1)(k1:j1.k=.int .i64)(s1:j1.size=1)
 (h2:T s=some j2) (k2:j2.k=.slice u) (s2:j2.size=1) (h3:T u=some j3) (s3:j3.size=8) (b3:j3.bytes=64) (hd:Dec enc P W u Tac.cells Tac.Ok):
 Dec enc P W t Block.cells Block.Ok:=fun fuel cs x h hw=>by
 obtain⟨hl,hp⟩:=IQ hT hi hk h hw;rw[hs]at hl;obtain⟨x0,a0,b0⟩:=hp 0 _ _ rfl (Dec.slice' hT h2 k2 h3 Ab hd);obtain⟨x1,a1,b1⟩:=hp 1 _ _ rfl (Br hT h1 k1);obtain⟨x2,a2,b2⟩:=hp 2 _ _ rfl (Br hT h1 k1);obtain⟨x3,a3,b3'⟩:=hp 3 _ _ rfl (Br hT h1 k1);obtain⟨x4,a4,b4⟩:=hp 4 _ _ rfl (Br hT h1 k1);have c0:=Dy hT h2 s2 (Reads.nil W cs) a0 Ab;have c1:=Dy hT h1 s1 c0 a1 Ab;have c2:=Dy hT h1 s1 c1 a2 Ab;have c3:=Dy hT h1 s1 c2 a3 Ab;have c4:=Dy hT h1 s1 c3 a4 Ab;rw[b3]at b0;exact⟨⟨x0,x1,x2,x3,x4⟩,c4.all hl,⟨b0.1,b0.2,Cu b1,Cu b2,Cu b3',Cu b4⟩⟩
end
theorem DW{b:Blocks}(h:b.right=true):0<=b.words/\b.words<=1048576/\b.funcs≠[]/\∀(i:Nat) (f:BFunc),b.funcs[i]?=some f->f.one (i:Int) b.words=true:=by
 simp only[Blocks.right,Bool.and_eq_true,decide_eq_true_eq,Bool.not_eq_true',List.isEmpty_eq_false_iff]at h;exact⟨h.1,h.2.1,h.2.2.1,fun i f hf=>List.all_eq_true.1 h.2.2.2 (f,i) (List.mem_of_getElem? (Bl hf))⟩
theorem Es{f:BFunc}{i w:Int}(h:f.one i w=true):0<=f.regs/\f.regs<=4000/\f.blocks≠[]/\∀x∈f.blocks,x.ends f.blocks.length f.regs=true/\∀t∈x.ins,t.fits i f.regs w=true:=by
 simp only[BFunc.one,Bool.and_eq_true,decide_eq_true_eq,Bool.not_eq_true',List.isEmpty_eq_false_iff]at h;refine⟨h.1,h.2.1,h.2.2.1,fun x hx=>?_⟩;have:=List.all_eq_true.1 h.2.2.2 x hx;simp only[Block.ok,Bool.and_eq_true]at this;exact⟨this.1,fun t ht=>List.all_eq_true.1 this.2 t ht⟩
theorem Il{α:Type}{p:α->Nat}:∀{l:List α} {x:α},x∈l->p x<=(l.map p).sum
 |y::l,x,h=>by
  rcases List.mem_cons.1 h with rfl|h
  . simp
  . have:=Il (p:=p) h;simp;omega
theorem Ww{b:Blocks}{f:BFunc}{x:Block}(hf:f∈b.funcs)(hx:x∈f.blocks):x.ins.length<b.count:=by
 have h1:f.count<=b.count:=Il hf;have h2:x.count<=f.count:=Il hx;simp only[Block.count]at h2;omega
end Go.Proofs.YtijlphdockhgjaaGreatDoor.Sv
namespace Go.Proofs.YtijlphdockhgjaaGreatDoor
open Go.ChangeShapes Go.WideShapes Go.ChangeAt Go.RowKit Sv
theorem own':ownKnob Tryz.prog.godebug=none:=by kernel_rfl
theorem laidOut':laidOutB Tryz.prog=true:=by kernel_rfl
theorem bool':Tryz.prog.underlying 4=some .bool:=by kernel_rfl
section
variable {H : Type} {enc : TypeId × Value -> H} {W : World}
theorem decTac:Dec enc Tryz.prog W 82 Tac.cells Tac.Ok:=dS Am rfl rfl rfl rfl rfl rfl rfl rfl rfl
theorem decBlock:Dec enc Tryz.prog W 67 Block.cells Block.Ok:=Wu Am rfl rfl rfl rfl rfl rfl rfl rfl rfl rfl rfl rfl decTac
end
end Go.Proofs.YtijlphdockhgjaaGreatDoor
namespace Go.Proofs.YtijlphdockhgjaaGreatDoor.Sv
open Go
theorem No{n:Nat}(h:n<9223372036854775808):IntKind.i64.wrap (n:Int)=(n:Int):=B4 Ab Ab
theorem UX{n:Nat}(h:n<18446744073709551616):IntKind.u64.wrap (n:Int)=(n:Int):=by
 rw[IntKind.wrap_u64];omega
theorem ZQ{k:IntKind}{a b:Nat}(hb:0<b):AM .rem (.int k (a:Int)) (.int k (b:Int))=some (.int k ((a%b:Nat):Int)):=by
 have h0:¬(b:Int)=0:=by omega
 simp only[AM,Bf,isShift,cond_false,if_true,if_neg h0];rw[Int.tmod_eq_emod_of_nonneg Ab,Int.natCast_emod]
theorem ZR{k:IntKind}{a b:Nat}(hb:0<b)(hw:k.wrap ((a/b:Nat):Int)=((a/b:Nat):Int)):AM .quo (.int k (a:Int)) (.int k (b:Int))=some (.int k ((a/b:Nat):Int)):=by
 have h0:¬(b:Int)=0:=by omega
 simp only[AM,Bf,isShift,cond_false,if_true,if_neg h0];rw[Int.tdiv_eq_ediv_of_nonneg Ab,<-Int.natCast_ediv,hw]
theorem ZS{k:IntKind}{a b:Nat}(hw:k.wrap ((a+b:Nat):Int)=((a+b:Nat):Int)):AM .add (.int k (a:Int)) (.int k (b:Int))=some (.int k ((a+b:Nat):Int)):=by
 simp only[AM,Bf,isShift,cond_false,if_true];rw[<-Int.natCast_add,hw]
section
variable {P : Program} {T : Nat -> Option Ae} {o : Oper} {e : Ar} {h : Aa}
end
def Tac.inR(t:Tac)(regs:Int):Prop:=(setsOp t.op=true->0<=t.d/\t.d<regs)/\∀u∈t.uses,0<=u/\u<regs
structure Mach where
  words:List Int
  out:List UInt8
  read:Nat
  steps:Nat
  fin:Int
def Ah(l:List Int)(z:Int):Int:=(l[z.toNat]?).getD 0
def Bi(l:List Int)(z v:Int):List Int:=l.set z.toNat v
def FD(n:Int):UInt8:=UInt8.ofNat n.toNat
def KU(s:ByteArray)(i:Nat):UInt8:=(s.data.toList[i]?).getD 0
def Bu(fuel:Int)(m:Mach):Bool×Mach:=bif decide ((m.steps:Int)>=fuel)then(false,{m with fin:=5})else(true,{m with steps:=m.steps+1})
def AB(call:Int->Mach->Mach)(s:ByteArray)(t:Tac)(regs:List Int)(m:Mach):List Int×Mach:=
  bif t.op==1 then(Bi regs t.d t.n,m)
  else bif t.op==2 then(Bi regs t.d (Ah regs t.a),m)
  else bif t.op==3 then
    (bif (B1 t.k (Ah regs t.a) (Ah regs t.b)).2==0 then(Bi regs t.d (B1 t.k (Ah regs t.a) (Ah regs t.b)).1,m)else(regs,{m with fin:=2}))
  else bif t.op==4 then(Bi regs t.d (Ah m.words t.base),m)
  else bif t.op==5 then(regs,{m with words:=Bi m.words t.base (Ah regs t.a)})
  else bif t.op==6 then(bif decide (Ah regs t.a>=t.size)then(regs,{m with fin:=3})else(Bi regs t.d (Ah m.words (t.base+Ah regs t.a)),m))
  else bif t.op==7 then(bif decide (Ah regs t.a>=t.size)then(regs,{m with fin:=3})else(regs,{m with words:=Bi m.words (t.base+Ah regs t.a) (Ah regs t.b)}))
  else bif t.op==8 then(bif decide (m.read<s.size)then(Bi regs t.d ((KU s m.read).toNat:Int),{m with read:=m.read+1})else(Bi regs t.d 256,m))
  else bif t.op==9 then(bif decide (m.out.length>=65536)then(regs,{m with fin:=4})else(regs,{m with out:=m.out++[FD (Ah regs t.a)]}))
  else bif t.op==10 then(regs,call t.base m)
  else(regs,m)
def D1(call:Int->Mach->Mach)(s:ByteArray)(fuel:Int):List Tac->List Int->Mach->Bool×List Int×Mach
  | [],regs,m=>(true,regs,m)
  |t::r,regs,m=>
    bif (Bu fuel m).1 then
      (bif (AB call s t regs (Bu fuel m).2).2.fin==0 then D1 call s fuel r (AB call s t regs (Bu fuel m).2).1 (AB call s t regs (Bu fuel m).2).2
       else(false,AB call s t regs (Bu fuel m).2))
    else(false,regs,(Bu fuel m).2)
def Block.next(k:Block)(regs:List Int):Int:=bif k.fin==2&&Ah regs k.v==0 then k.els else k.to
def FU(call:Int->Mach->Mach)(s:ByteArray)(fuel:Int)(f:BFunc):Nat->Int->List Int->Mach->Mach
  |0,_,_,m=>m
  |g+1,i,regs,m=>
    match f.blocks[i.toNat]? with
    |none=>m
    |some k=>
      let p:=D1 call s fuel k.ins regs m
      bif p.1 then
        (bif (Bu fuel p.2.2).1&& !(k.fin==3)then FU call s fuel f g (k.next p.2.1) p.2.1 (Bu fuel p.2.2).2 else(Bu fuel p.2.2).2)
      else p.2.2
def mfun(b:Blocks)(s:ByteArray)(fuel:Int):Nat->Int->Mach->Mach
  |0,_,m=>m
  |n+1,i,m=>
    match b.funcs[i.toNat]? with
    |none=>m
    |some f=>FU (mfun b s fuel n) s fuel f (fuel.toNat+1) 0 (List.replicate f.regs.toNat 0) m
def m0(b:Blocks):Mach:=⟨List.replicate b.words.toNat 0,[],0,0,0⟩
def Cb(fuel:Int):Int:=bif decide (fuel<0)then 0 else fuel
def DI(b:Blocks)(s:ByteArray)(fuel:Int):Mach:=
  let m:=mfun b s (Cb fuel) b.funcs.length ((b.funcs.length:Int)-1) (m0 b)
  bif m.fin==0 then {m with fin:=1}else m
def LI(m:Mach):List AV:=[.int .i64 m.fin,.str ⟨m.out.toArray⟩,.int .i64 m.steps]
def Ap(l:List Int):List (List AV):=l.map fun n=>[AV.int .u32 n]
def Kg(l:List Int):Prop:=∀v∈l,Hf v
theorem G1{l:List Int}(h:Kg l)(z:Int):Hf (Ah l z):=by
 grind[Ah,Mk,List.mem_of_getElem?,Kg,Hf]
theorem Gc{l:List Int}(h:Kg l)(z:Int){v:Int}(hv:Hf v):Kg (Bi l z v):=fun u hu=>by
 grind[Bi,Kg,Hf]
theorem By(l:List Int)(z v:Int):(Bi l z v).length=l.length:=by simp[Bi]
theorem Z6(c:UInt8):Hf ((c.toNat:Nat):Int):=by
 have:c.toNat<256:=UInt8.toNat_lt c;constructor<;>omega
structure Mach.good(W:Nat)(m:Mach):Prop where
  len:m.words.length=W
  words:Kg m.words
  out:m.out.length<=65536
theorem Kw(fuel:Int)(m:Mach):m.steps<=(Bu fuel m).2.steps:=by
 grind[Bu]
theorem JY{call:Int->Mach->Mach}{s:ByteArray}{W:Nat}(hc:∀i m,m.good W->(call i m).good W)(t:Tac)(ht:Hf t.n){regs:List Int}{m:Mach}(hr:Kg regs)(h:m.good W):
 Kg (AB call s t regs m).1/\(AB call s t regs m).1.length=regs.length/\(AB call s t regs m).2.good W:=by
 have ha:=G1 hr t.a;have hb:=G1 hr t.b;unfold AB
 cases t.op==1 with
 |true=>exact⟨Gc hr _ ht,By _ _ _,h⟩
 |false=>
 cases t.op==2 with
 |true=>exact⟨Gc hr _ ha,By _ _ _,h⟩
 |false=>
 cases t.op==3 with
 |true=>
  simp only[cond_true,cond_false]
  cases (B1 t.k (Ah regs t.a) (Ah regs t.b)).2==0 with
  |true=>exact⟨Gc hr _ (Hv ha hb),By _ _ _,h⟩
  |false=>exact⟨hr,rfl,⟨h.1,h.2,h.3⟩⟩
 |false=>
 cases t.op==4 with
 |true=>exact⟨Gc hr _ (G1 h.2 _),By _ _ _,h⟩
 |false=>
 cases t.op==5 with
 |true=>exact⟨hr,rfl,⟨by simp only[cond_true,cond_false];rw[By];exact h.1,Gc h.2 _ ha,h.3⟩⟩
 |false=>
 cases t.op==6 with
 |true=>
  simp only[cond_true,cond_false]
  cases decide (Ah regs t.a>=t.size)with
  |true=>exact⟨hr,rfl,⟨h.1,h.2,h.3⟩⟩
  |false=>exact⟨Gc hr _ (G1 h.2 _),By _ _ _,h⟩
 |false=>
 cases t.op==7 with
 |true=>
  simp only[cond_true,cond_false]
  cases decide (Ah regs t.a>=t.size)with
  |true=>exact⟨hr,rfl,⟨h.1,h.2,h.3⟩⟩
  |false=>exact⟨hr,rfl,⟨by simp only[cond_false];rw[By];exact h.1,Gc h.2 _ hb,h.3⟩⟩
 |false=>
 cases t.op==8 with
 |true=>
  simp only[cond_true,cond_false]
  cases decide (m.read<s.size)with
  |true=>exact⟨Gc hr _ (Z6 _),By _ _ _,⟨h.1,h.2,h.3⟩⟩
  |false=>exact⟨Gc hr _ ⟨by omega,by omega⟩,By _ _ _,h⟩
 |false=>
 cases t.op==9 with
 |true=>
  simp only[cond_true,cond_false]
  cases e:decide (m.out.length>=65536)with
  |true=>exact⟨hr,rfl,⟨h.1,h.2,h.3⟩⟩
  |false=>
   refine⟨hr,rfl,⟨h.1,h.2,?_⟩⟩;simp only[cond_false,List.length_append,List.length_cons,List.length_nil];simp at e;omega
 |false=>
 cases t.op==10 with
 |true=>exact⟨hr,rfl,hc _ _ h⟩
 |false=>exact⟨hr,rfl,h⟩
theorem SF{call:Int->Mach->Mach}{s:ByteArray}(hc:∀i m,m.steps<=(call i m).steps)(t:Tac)(regs:List Int)(m:Mach):m.steps<=(AB call s t regs m).2.steps:=by
 unfold AB
 cases t.op==1 with
 |true=>exact Nat.le_refl _
 |false=>
 cases t.op==2 with
 |true=>exact Nat.le_refl _
 |false=>
 cases t.op==3 with
 |true=>
  simp only[cond_true,cond_false]
  cases (B1 t.k (Ah regs t.a) (Ah regs t.b)).2==0<;>exact Nat.le_refl _
 |false=>
 cases t.op==4 with
 |true=>exact Nat.le_refl _
 |false=>
 cases t.op==5 with
 |true=>exact Nat.le_refl _
 |false=>
 cases t.op==6 with
 |true=>
  simp only[cond_true,cond_false]
  cases decide (Ah regs t.a>=t.size)<;>exact Nat.le_refl _
 |false=>
 cases t.op==7 with
 |true=>
  simp only[cond_true,cond_false]
  cases decide (Ah regs t.a>=t.size)<;>exact Nat.le_refl _
 |false=>
 cases t.op==8 with
 |true=>
  simp only[cond_true,cond_false]
  cases decide (m.read<s.size)<;>exact Nat.le_refl _
 |false=>
 cases t.op==9 with
 |true=>
  simp only[cond_true,cond_false]
  cases e:decide (m.out.length>=65536)<;>exact Nat.le_refl _
 |false=>
 cases t.op==10 with
 |true=>exact hc _ _
 |false=>exact Nat.le_refl _
theorem D0{call:Int->Mach->Mach}{s:ByteArray}{fuel:Int}(hc:∀i m,m.steps<=(call i m).steps):∀(l:List Tac) (regs:List Int) (m:Mach),m.steps<=(D1 call s fuel l regs m).2.2.steps
 | [],_,_=>Nat.le_refl _
 |t::r,regs,m=>by
  have h1:=Kw fuel m;have h2:=SF (s:=s) hc t regs (Bu fuel m).2;unfold D1
  cases (Bu fuel m).1 with
  |false=>exact h1
  |true=>
   simp only[cond_true]
   cases (AB call s t regs (Bu fuel m).2).2.fin==0 with
   |false=>exact Nat.le_trans h1 h2
   |true=>exact Nat.le_trans (Nat.le_trans h1 h2) (D0 hc r _ _)
theorem L8{call:Int->Mach->Mach}{s:ByteArray}{fuel:Int}(hc:∀i m,m.steps<=(call i m).steps){f:BFunc}:∀(g:Nat) (i:Int) (regs:List Int) (m:Mach),m.steps<=(FU call s fuel f g i regs m).steps
 |0,_,_,_=>Nat.le_refl _
 |g+1,i,regs,m=>by
  unfold FU;split
  . exact Nat.le_refl _
  . rename_i k hk;have h2:=D0 (s:=s) (fuel:=fuel) hc k.ins regs m;have h3:=Kw fuel (D1 call s fuel k.ins regs m).2.2;dsimp only
    cases (D1 call s fuel k.ins regs m).1 with
    |false=>exact h2
    |true=>
     simp only[cond_true]
     cases (Bu fuel (D1 call s fuel k.ins regs m).2.2).1&& !(k.fin==3)with
     |false=>exact Nat.le_trans h2 h3
     |true=>exact Nat.le_trans (Nat.le_trans h2 h3) (L8 hc g _ _ _)
theorem MT(n:Nat):Kg (List.replicate n 0):=fun v hv=>by
 grind[Mk,Kg]
def Blocks.insW(b:Blocks):Prop:=∀f∈b.funcs,∀x∈f.blocks,Sv.QW x.ins
theorem Gk{b:Blocks}{s:ByteArray}{fuel:Int}:∀(n:Nat) (i:Int) (m:Mach),m.steps<=(mfun b s fuel n i m).steps
 |0,_,_=>Nat.le_refl _
 |n+1,i,m=>by
  unfold mfun;split
  . exact Nat.le_refl _
  . exact L8 (fun i m=>Gk n i m) _ _ _ _
theorem C0(l:List Int):(Ap l).length=l.length:=by simp[Ap]
theorem IW(n:Nat):List.replicate n [AV.int .u32 0]=Ap (List.replicate n 0):=by simp[Ap]
theorem Ep{l:List Int}{z:Int}(h:0<=z/\z<l.length):(Ap l)[0+z.toNat]?=some [AV.int .u32 (Ah l z)]:=by
 grind[Ag,Ap,Ah]
theorem Vp(l:List Int)(z v:Int):(Ap l).set (0+z.toNat) [AV.int .u32 v]=Ap (Bi l z v):=by
 rw[Nat.zero_add,Ap,Ap,Bi,List.map_set]
theorem Zm{s:ByteArray}{i:Nat}(h:i<s.size):s.data.toList[i]?=some (KU s i):=by
 obtain⟨v,hv⟩:=Ag (l:=s.data.toList) (k:=i) PI;rw[KU,hv];rfl
theorem UW{n:Int}(h:Hf n):IntKind.u8.wrap n=(((FD n).toNat:Nat):Int):=by
 obtain⟨h1,h2⟩:=h;obtain⟨k,rfl⟩:=Int.eq_ofNat_of_zero_le h1;rw[IntKind.wrap_u8,FD,Int.toNat_natCast]
 (simp_all;done)
section
variable {P : Program} {T : Nat -> Option Ae} {o : Oper} {e : Ar} {h : Aa}
theorem Dc(hT:Bc P T){t u:TypeId}{x:Operand}{k k':IntKind}{n r:Int}{i j:Ae}(ho:o.op=.convert t u x)(hx:look e x=some (.int k' n))(hi:T t=some i)(hj:T u=some j)(hk:j.k=.int k)(hw:k.wrap n=r):QLoc P o e h [] (.int k r):=by
 grind[NR,Bc,look,QLoc]
end
section
variable {call : Int -> Mach -> Mach} {s : ByteArray} {t : Tac} {regs : List Int} {m : Mach}
theorem uB(h:t.op=1):AB call s t regs m=(Bi regs t.d t.n,m):=by simp[AB,h]
theorem uA(h:t.op=2):AB call s t regs m=(Bi regs t.d (Ah regs t.a),m):=by simp[AB,h]
theorem uz(h:t.op=3)(hz:((B1 t.k (Ah regs t.a) (Ah regs t.b)).2 !=0)=false):AB call s t regs m=(Bi regs t.d (B1 t.k (Ah regs t.a) (Ah regs t.b)).1,m):=by
 grind[B1,Ah,AB,Bi]
theorem jj(h:t.op=3)(hz:((B1 t.k (Ah regs t.a) (Ah regs t.b)).2 !=0)=true):AB call s t regs m=(regs,{m with fin:=2}):=by
 grind[B1,Ah,AB]
theorem uy(h:t.op=4):AB call s t regs m=(Bi regs t.d (Ah m.words t.base),m):=by simp[AB,h]
theorem ux(h:t.op=5):AB call s t regs m=(regs,{m with words:=Bi m.words t.base (Ah regs t.a)}):=by simp[AB,h]
theorem Ui(h:t.op=6\/t.op=7)(hz:decide (Ah regs t.a>=t.size)=true):AB call s t regs m=(regs,{m with fin:=3}):=by
 grind[AB,Ah]
theorem uw(h:t.op=6)(hz:decide (Ah regs t.a>=t.size)=false):AB call s t regs m=(Bi regs t.d (Ah m.words (t.base+Ah regs t.a)),m):=by
 grind[AB,Ah,Bi]
theorem uv(h:t.op=7)(hz:decide (Ah regs t.a>=t.size)=false):AB call s t regs m=(regs,{m with words:=Bi m.words (t.base+Ah regs t.a) (Ah regs t.b)}):=by
 grind[AB,Ah,Bi]
theorem uu(h:t.op=8)(hz:m.read<s.size):AB call s t regs m=(Bi regs t.d ((KU s m.read).toNat:Int),{m with read:=m.read+1}):=by
 grind[AB,Bi,KU]
theorem ji(h:t.op=8)(hz:¬m.read<s.size):AB call s t regs m=(Bi regs t.d 256,m):=by
 grind[AB,Bi]
theorem jh(h:t.op=9)(hz:m.out.length>=65536):AB call s t regs m=(regs,{m with fin:=4}):=by
 grind[AB]
theorem ut(h:t.op=9)(hz:¬m.out.length>=65536):AB call s t regs m=(regs,{m with out:=m.out++[FD (Ah regs t.a)]}):=by
 grind[AB,FD,Ah]
theorem SG(h:t.op=10):AB call s t regs m=(regs,call t.base m):=by simp[AB,h]
end
theorem YP{fuel:Int}{m:Mach}(h:decide ((m.steps:Int)>=fuel)=true):Bu fuel m=(false,{m with fin:=5}):=by simp[Bu,h]
theorem HJ{fuel:Int}{m:Mach}(h:decide ((m.steps:Int)>=fuel)=false):Bu fuel m=(true,{m with steps:=m.steps+1}):=by simp[Bu,h]
structure UB(t:Tac)(number R:Nat)(words:Nat):Prop where
  op:1<=t.op/\t.op<=10
  d:setsOp t.op=true->0<=t.d/\t.d<R
  a:use1 t.op=true\/use2 t.op=true->0<=t.a/\t.a<R
  b:use2 t.op=true->0<=t.b/\t.b<R
  base:t.op=4\/t.op=5->0<=t.base/\t.base<words
  arr:t.op=6\/t.op=7->1<=t.size/\t.size<=4096/\0<=t.base/\t.base+t.size<=words
  call:t.op=10->0<=t.base/\t.base<number
theorem Ls{t:Tac}{f regs words:Int}(h:t.fits f regs words=true):UB t f.toNat regs.toNat words.toNat:=by
 have h0:=h;simp only[Tac.fits,Bool.and_eq_true,Bool.or_eq_true,Bool.not_eq_true',List.all_eq_true,AX,decide_eq_true_eq]at h;obtain⟨h1,h2,h3,h4,h5,_⟩:=h;refine⟨⟨h1,h2⟩,fun e=>?_,fun e=>?_,fun e=>?_,fun e=>?_,fun e=>?_,fun e=>?_⟩
 . rcases h3 with h3|h3
   . rw[e]at h3;cases h3
   . omega
 . have:=h4 t.a (by rcases e with e|e<;>simp[Tac.uses,e]<;>cases use1 t.op<;>simp);omega
 . have e2:=TG t.op;rw[e,Bool.and_true]at e2;have:=h4 t.b (by simp[Tac.uses,e,e2]);omega
 . rcases e with e|e<;>simp[Tac.rest,FE,e,AX]at h5<;>omega
 . rcases e with e|e<;>simp[Tac.rest,FE,Dd,e]at h5<;>omega
 . simp[Tac.rest,FE,Dd,e,AX]at h5;omega
structure FG where
  i:Int
  regs:List Int
  m:Mach
  g:Nat
structure IG where
  j:Nat
  regs:List Int
  m:Mach
section
variable {call : Int -> Mach -> Mach} {s : ByteArray} {fuel : Int} {f : BFunc} {W R : Nat} {tgt : Mach} {q : FG} {k : Block} {r : IG}
theorem E0{m:Mach}(hs:(Bu fuel m).1=true):(m.steps:Int)<fuel/\(Bu fuel m).2={m with steps:=m.steps+1}:=by
 grind[Bu]
end
theorem Wr{k:Block}{blocks regs:Int}(h:k.ends blocks regs=true)(hf:(k.fin==3)=false)(l:List Int):0<=k.next l/\k.next l<blocks:=by
 grind[Block.ends,Block.next,AX,Ah]
theorem jP{k:Block}{blocks regs:Int}(h:k.ends blocks regs=true)(hf:(k.fin==2)=true):0<=k.v/\k.v<regs:=by
 grind[Block.ends,AX]
def kidx(k:List Int):List (List Int)->Option Nat
  | []=>none
  |x::r=>bif k==x then some 0 else(kidx k r).map (· +1)
def Ck(first:Int)(K:List (List Int))(k:List Int):Int×List (List Int):=
  match kidx k K with
  |some i=>(first+(i:Int),K)
  |none=>(first+(K.length:Int),K++[k])
def B5(first:Int):List (List Int)->GD
  | []=>[]
  |x::r=>(x,.int .i64 first)::B5 (first+1) r
theorem Ns(k:List Int):∀(K:List (List Int)) (first:Int),Fq k (B5 first K)=(kidx k K).map fun(i:Nat)=>(i,AV.int .i64 (first+(i:Int)))
 | [],_=>rfl
 |x::r,first=>by
  unfold B5 Fq kidx
  cases hx:k==x with
  |true=>simp
  |false=>
   simp only[cond_false,Ns k r (first+1),Option.map_map];congr 1;funext i;show(i+1,AV.int .i64 (first+1+(i:Int)))=(i+1,AV.int .i64 (first+((i+1:Nat):Int)));rw[show first+1+(i:Int)=first+((i+1:Nat):Int) by omega]
theorem Lk(k:List Int)(K:List (List Int))(first:Int):Ng k (B5 first K)=(kidx k K).map fun(i:Nat)=>AV.int .i64 (first+(i:Int)):=by
 unfold Ng;rw[Ns,Option.map_map];rfl
theorem PQ{k:List Int}:∀{K:List (List Int)} {first:Int},kidx k K=none->Kd k (.int .i64 (first+(K.length:Int))) (B5 first K)=B5 first (K++[k])
 | [],first,_=>by simp[B5,Kd]
 |x::r,first,h=>by
  unfold kidx at h
  cases hx:k==x with
  |true=>rw[hx]at h;cases h
  |false=>
   rw[hx]at h;have h':kidx k r=none:=by simpa using h
   have ih:=PQ (first:=first+1) h';simp only[List.cons_append,B5,Kd,hx,cond_false,List.length_cons];rw[<-ih];congr 3
   push_cast;omega
theorem Nt{K:List (List Int)}(h:∀k∈K,k.length=4):∀{first:Int},∀p∈B5 first K,p.1.length=4:=by
 induction K with
 |nil=>intro first p hp;simp[B5]at hp
 |cons x r ih=>
  intro first p hp
  simp only[B5,List.mem_cons]at hp;rcases hp with rfl|hp
  . exact h x Az
  . exact ih (fun k hk=>h k (by simp[hk])) p hp
theorem Pc{k:List Int}:∀{K:List (List Int)} {i:Nat},kidx k K=some i->i<K.length/\K[i]?=some k
 | [],i,h=>by cases h
 |x::r,i,h=>by
  unfold kidx at h
  cases hx:k==x with
  |true=>rw[hx]at h;cases h;exact⟨by simp,by simp at hx;simp[hx]⟩
  |false=>
   rw[hx]at h;simp only[cond_false,Option.map_eq_some_iff]at h;obtain⟨j,hj,rfl⟩:=h;obtain⟨h1,h2⟩:=Pc hj;exact⟨by simp;omega,by simpa using h2⟩
def AZ(first:Int)(K:List (List Int))(n:Int):Int×Bool:=
  bif decide (n<first)then(0,false)else(IntKind.u32.wrap (Ah ((K[(n-first).toNat]?).getD []) 1),Ah ((K[(n-first).toNat]?).getD []) 0==1)
def Bs(first:Int)(K:List (List Int))(op a b:Int):Int×List (List Int):=
  bif (AZ first K a).2&&(AZ first K b).2&&(B1 op (AZ first K a).1 (AZ first K b).1).2==0 then Ck first K [1,(B1 op (AZ first K a).1 (AZ first K b).1).1,0,0]
  else Ck first K [2,op,a,b]
structure VW where
  K:List (List Int)
  vals:List Int
  effs:List (List Int)
  time:Int
def VW.put(w:VW)(z:Int)(p:Int×List (List Int)):VW:={w with K:=p.2,vals:=Bi w.vals z p.1}
def VW.hap(w:VW)(t:Tac)(a b:Int):VW:={w with effs:=w.effs++[[2,t.op,t.base,t.size,a,b]]}
def VW.tick(w:VW):VW:={w with time:=w.time+1}
def GN(first:Int)(w:VW):Int×List (List Int):=Ck first w.K [4,(w.effs.length:Int),0,0]
def vrisky(first:Int)(w:VW)(t:Tac):Bool:=(t.k==7||t.k==8)&&(!(AZ first w.K (Ah w.vals t.b)).2||(AZ first w.K (Ah w.vals t.b)).1==0)
def VW.div(first:Int)(w:VW)(t:Tac):VW:=bif vrisky first w t then {w with effs:=w.effs++[[1,t.k,Ah w.vals t.a,Ah w.vals t.b,0,0]]}else w
def VW.bin(first:Int)(w:VW)(t:Tac):VW:=(w.div first t).put t.d (Bs first w.K t.k (Ah w.vals t.a) (Ah w.vals t.b))
def VW.step(first:Int)(w:VW)(t:Tac):VW:=
  bif t.op==1 then w.put t.d (Ck first w.K [1,t.n,0,0])
  else bif t.op==2 then {w with vals:=Bi w.vals t.d (Ah w.vals t.a)}
  else bif t.op==3 then w.bin first t
  else bif t.op==4 then w.put t.d (Ck first w.K [3,t.base,w.time,0])
  else bif t.op==5 then(w.hap t (Ah w.vals t.a) 0).tick
  else bif t.op==6 then(w.hap t (Ah w.vals t.a) 0).put t.d (GN first (w.hap t (Ah w.vals t.a) 0))
  else bif t.op==7 then(w.hap t (Ah w.vals t.a) (Ah w.vals t.b)).tick
  else bif t.op==8 then(w.hap t 0 0).put t.d (GN first (w.hap t 0 0))
  else bif t.op==9 then w.hap t (Ah w.vals t.a) 0
  else bif t.op==10 then(w.hap t 0 0).tick
  else w
structure VOk(first:Int)(R m:Nat)(w:VW):Prop where
  f:0<=first/\first<=100000
  k4:∀k∈w.K,k.length=4
  e6:∀k∈w.effs,k.length=6
  kl:w.K.length<=m
  el:w.effs.length<=m
  tl:0<=w.time/\w.time<=m
  vl:w.vals.length=R
  v:∀n∈w.vals,0<=n/\n<first+w.K.length
theorem IF{first:Int}{K:List (List Int)}{k:List Int}(h:∀k∈K,k.length=4)(hk:k.length=4)(hf:0<=first):
 (∀x∈(Ck first K k).2,x.length=4)/\K.length<=(Ck first K k).2.length/\(Ck first K k).2.length<=K.length+1/\0<=(Ck first K k).1/\(Ck first K k).1<first+(Ck first K k).2.length:=by
 unfold Ck
 cases e:kidx k K with
 |none=>
  refine⟨fun x hx=>?_,by simp,by simp,by dsimp only;omega,by simp;omega⟩;simp only[List.mem_append,List.mem_singleton]at hx;rcases hx with hx|rfl
  . exact h x hx
  . exact hk
 |some i=>
  have:=(Pc e).1;exact⟨h,Nat.le_refl _,Nat.le_succ _,by dsimp only;omega,by dsimp only;omega⟩
theorem U8{first:Int}{K:List (List Int)}{op a b:Int}(h:∀k∈K,k.length=4)(hf:0<=first):
 (∀x∈(Bs first K op a b).2,x.length=4)/\K.length<=(Bs first K op a b).2.length/\(Bs first K op a b).2.length<=K.length+1/\0<=(Bs first K op a b).1/\(Bs first K op a b).1<first+(Bs first K op a b).2.length:=by
 unfold Bs
 cases (AZ first K a).2&&(AZ first K b).2&&(B1 op (AZ first K a).1 (AZ first K b).1).2==0 with
 |true=>exact IF h rfl hf
 |false=>exact IF h rfl hf
theorem VOk.mono{first:Int}{R m m':Nat}{w:VW}(h:VOk first R m w)(hm:m<=m'):VOk first R m' w:=
 ⟨h.f,h.k4,h.e6,Nat.le_trans h.kl hm,Nat.le_trans h.el hm,⟨h.tl.1,by have:=h.tl.2;omega⟩,h.vl,h.v⟩
theorem VOk.put{first:Int}{R m:Nat}{w:VW}(h:VOk first R m w)(z:Int){p:Int×List (List Int)}(hp:(∀x∈p.2,x.length=4)/\w.K.length<=p.2.length/\p.2.length<=w.K.length+1/\0<=p.1/\p.1<first+p.2.length):VOk first R (m+1) (w.put z p) where
 f:=h.f
 k4:=hp.1
 e6:=h.e6
 kl:=by have:=h.kl;show p.2.length<=_;omega
 el:=by have:=h.el;show w.effs.length<=_;omega
 tl:=⟨h.tl.1,by have:=h.tl.2;show w.time<=_;omega⟩
 vl:=by show(Bi w.vals z p.1).length=R;rw[By];exact h.vl
 v:=fun n hn=>by
  have hn':n∈Bi w.vals z p.1:=hn;unfold Bi at hn';show 0<=n/\n<first+(p.2.length:Int)
  rcases List.mem_or_eq_of_mem_set hn' with hn'|rfl
  . have:=h.v n hn';omega
  . exact hp.2.2.2
theorem VOk.eff{first:Int}{R m:Nat}{w:VW}(h:VOk first R m w){x:List Int}(hx:x.length=6):VOk first R (m+1) {w with effs:=w.effs++[x]} where
 f:=h.f
 k4:=h.k4
 e6:=fun k hk=>by
  have hk':k∈w.effs++[x]:=hk;simp only[List.mem_append,List.mem_singleton]at hk';rcases hk' with hk'|rfl
  . exact h.e6 k hk'
  . exact hx
 kl:=by have:=h.kl;show w.K.length<=_;omega
 el:=by have:=h.el;show(w.effs++[x]).length<=_;simp;omega
 tl:=⟨h.tl.1,by have:=h.tl.2;show w.time<=_;omega⟩
 vl:=h.vl
 v:=h.v
theorem VOk.tick{first:Int}{R m:Nat}{w:VW}(h:VOk first R m w):VOk first R (m+1) w.tick where
 f:=h.f
 k4:=h.k4
 e6:=h.e6
 kl:=by have:=h.kl;show w.K.length<=_;omega
 el:=by have:=h.el;show w.effs.length<=_;omega
 tl:=⟨by have:=h.tl.1;show 0<=w.time+1;omega,by have:=h.tl.2;show w.time+1<=_;push_cast;omega⟩
 vl:=h.vl
 v:=h.v
theorem VOk.div{first:Int}{R m:Nat}{w:VW}(h:VOk first R m w)(t:Tac):VOk first R (m+1) (w.div first t):=by
 unfold VW.div
 cases vrisky first w t with
 |true=>exact h.eff rfl
 |false=>exact h.mono (Nat.le_succ _)
theorem ZU(first:Int)(w:VW)(t:Tac):(w.div first t).K=w.K:=by unfold VW.div;cases vrisky first w t<;>rfl
theorem T0{l:List Int}{z:Int}(h:0<=z/\z<l.length):Ah l z∈l:=by
 unfold Ah;rw[List.getElem?_eq_getElem Ab];exact List.getElem_mem _
theorem VOk.step{first:Int}{R m:Nat}{w:VW}(h:VOk first R m w)(t:Tac)(ha:use1 t.op=true->0<=t.a/\t.a<R):VOk first R (m+2) (w.step first t):=by
 unfold VW.step;have hp:=fun(k:List Int) (hk:k.length=4)=>IF (k:=k) h.k4 hk h.f.1
 cases t.op==1 with
 |true=>exact(h.put _ (hp _ rfl)).mono (Nat.le_succ _)
 |false=>
 cases h2:t.op==2 with
 |true=>
  have h2':t.op=2:=by simpa using h2
  refine VOk.mono (m:=m) ⟨h.f,h.k4,h.e6,h.kl,h.el,h.tl,?_,fun n hn=>?_⟩ Ab
  . show(Bi w.vals t.d _).length=R;rw[By];exact h.vl
  . have hn':n∈Bi w.vals t.d (Ah w.vals t.a):=hn;unfold Bi at hn';rcases List.mem_or_eq_of_mem_set hn' with hn'|rfl
    . exact h.v n hn'
    . have:=ha (by simp[use1,h2']);exact h.v _ (T0 (by rw[h.vl];exact this))
 |false=>
 cases t.op==3 with
 |true=>
  have h1:=h.div t;have:=U8 (op:=t.k) (a:=Ah w.vals t.a) (b:=Ah w.vals t.b) h.k4 h.f.1;rw[<-ZU first w t]at this;have h2:=h1.put t.d this;rw[ZU]at h2;exact h2
 |false=>
 cases t.op==4 with
 |true=>exact(h.put _ (hp _ rfl)).mono (Nat.le_succ _)
 |false=>
 cases t.op==5 with
 |true=>exact VOk.tick (VOk.eff h rfl)
 |false=>
 cases t.op==6 with
 |true=>exact VOk.put (VOk.eff h rfl) _ (IF (k:=[4,_,0,0]) h.k4 rfl h.f.1)
 |false=>
 cases t.op==7 with
 |true=>exact VOk.tick (VOk.eff h rfl)
 |false=>
 cases t.op==8 with
 |true=>exact VOk.put (VOk.eff h rfl) _ (IF (k:=[4,_,0,0]) h.k4 rfl h.f.1)
 |false=>
 cases t.op==9 with
 |true=>exact(VOk.eff h rfl).mono (Nat.le_succ _)
 |false=>
 cases t.op==10 with
 |true=>exact VOk.tick (VOk.eff h rfl)
 |false=>exact h.mono Ab
end Go.Proofs.YtijlphdockhgjaaGreatDoor.Sv
