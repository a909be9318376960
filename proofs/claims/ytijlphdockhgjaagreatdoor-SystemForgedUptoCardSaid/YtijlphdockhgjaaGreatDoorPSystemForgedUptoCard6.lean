/-
  A FAST EVALUATOR FOR INPUTS THAT ARE KNOWN (8): regions, code, calls: what is computed. Own work, over no program.
-/
import Derived.Test.YtijlphdockhgjaaGreatDoorPSystemForgedUptoCard5
import Derived.Test.YtijlphdockhgjaaGreatDoorPSystemForgedUptoCard3
import Derived.RangeFuncFrom
import Derived.TacticsIn
import Derived.Test.YtijlphdockhgjaaGreatDoorPSystemForgedUptoCard2
import Derived.Test.YtijlphdockhgjaaGreatDoorPSystemForgedUptoCard4
set_option linter.unusedVariables false
set_option linter.unusedSimpArgs false
set_option maxRecDepth 100000
set_option maxHeartbeats 2000000
namespace Go.Proofs.YtijlphdockhgjaaGreatDoor.Sv
open Go
inductive GL where
  |pure
  |foot (R W:List Nat)
  |call (H:TH) (k:Nat) (H':TH) (k':Nat)
inductive YR where
  |mk (x:Exit) (e:TE) (h:TH) (k:Nat)
  |bad (l:List Nat)
inductive YC where
  |mk (r:AV) (h:TH) (k:Nat)
  |bad (l:List Nat)
abbrev CL:=Nat->List AV->TH->Nat->YC
abbrev KF:=Nat->List Oper->CL->List GL->TE->TH->Nat->YR
abbrev SK:=Oper->KF->KF
noncomputable def xK(_:AV)(E:TE):TE:=E
noncomputable def xJ(d:Nat)(r:AV)(E:TE):TE:=Qt.set r (Fx d) E
noncomputable def FO(d:Option Nat):AV->TE->TE:=Option.rec (motive:=fun _=>AV->TE->TE) xK xJ d
noncomputable def xV(d:Option Nat)(ih:KF)(n:Nat)(ops:List Oper)(cl:CL)(acc:List GL)(E:TE)(H0:TH)(k0:Nat)(r:AV)(H:TH)(k:Nat):YR:=ih n ops cl (.call H0 k0 H k::acc) (FO d r E) H k
noncomputable def gm(c:YC)(d:Option Nat)(ih:KF)(n:Nat)(ops:List Oper)(cl:CL)(acc:List GL)(E:TE)(H0:TH)(k0:Nat):YR:=YC.rec (motive:=fun _=>YR) (xV d ih n ops cl acc E H0 k0) (fun l=>.bad l) c
noncomputable def jr(o:Oper)(ih:KF)(n:Nat)(ops:List Oper)(cl:CL)(acc:List GL)(E:TE)(H:TH)(k:Nat):YR:=.bad [o.dst.getD 9999]
noncomputable def jt(f:Nat)(xs:List AV)(o:Oper)(ih:KF)(n:Nat)(ops:List Oper)(cl:CL)(acc:List GL)(E:TE)(H:TH)(k:Nat):YR:=gm (cl f xs H k) o.dst ih n ops cl acc E H k
noncomputable def js(p:Nat×List AV):SK:=Prod.rec (motive:=fun _=>SK) jt p
noncomputable def uI(c:Option (Nat×List AV)):SK:=Option.rec (motive:=fun _=>SK) jr js c
section
variable (mt : Nat -> String -> Option Nat)
noncomputable def xW(o:Oper)(ih:KF)(n:Nat)(ops:List Oper)(cl:CL)(acc:List GL)(E:TE)(H:TH)(k:Nat):YR:=uI (calleeEv mt o.op (eF E)) o ih n ops cl acc E H k
noncomputable def xT(R:List Nat)(r:AV)(o:Oper)(ih:KF)(n:Nat)(ops:List Oper)(cl:CL)(acc:List GL)(E:TE)(H:TH)(k:Nat):YR:=ih n ops cl (.foot R []::acc) (FO o.dst r E) H k
noncomputable def xX(R:List Nat)(ob:AObj)(r:AV)(o:Oper)(ih:KF)(n:Nat)(ops:List Oper)(cl:CL)(acc:List GL)(E:TE)(H:TH)(k:Nat):YR:=ih n ops cl (.foot (k::R) [k]::acc) (FO o.dst r E) (Qt.set ob (Fx k) H) (Nat.succ k)
noncomputable def xU(R:List Nat)(b:Nat)(ob:AObj)(r:Option AV)(o:Oper)(ih:KF)(n:Nat)(ops:List Oper)(cl:CL)(acc:List GL)(E:TE)(H:TH)(k:Nat):YR:=Option.rec (motive:=fun _=>YR)
  (Option.rec (motive:=fun _=>YR) (ih n ops cl (.foot (b::R) [b]::acc) E (Qt.set ob (Fx b) H) k) (fun _=>.bad [7771]) o.dst)
  (fun r=>ih n ops cl (.foot (b::R) [b]::acc) (FO o.dst r E) (Qt.set ob (Fx b) H) k) r
noncomputable def fW(lr:LR):SK:=LR.rec (motive:=fun _=>SK) (xW mt) xT xX xU lr
noncomputable def KX(o:Oper)(ih:KF)(n:Nat)(ops:List Oper)(cl:CL)(acc:List GL)(E:TE)(H:TH)(k:Nat):YR:=fW mt (Mg o E H k) o ih n ops cl acc E H k
noncomputable def P8(o:Oper)(ih:KF)(n:Nat)(ops:List Oper)(cl:CL)(acc:List GL)(E:TE)(H:TH)(k:Nat):YR:=ih n ops cl (.pure::acc) (FO o.dst (.tup []) E) H k
noncomputable def KY(o:Oper)(ih:KF)(n:Nat)(ops:List Oper)(cl:CL)(acc:List GL)(E:TE)(H:TH)(k:Nat):YR:=.bad [7777]
noncomputable def gb(b:Bool):SK:=Bool.rec (motive:=fun _=>SK) P8 (KX mt) b
noncomputable def Qd(a b:Bool):Bool:=Bool.rec (motive:=fun _=>Bool) (Bool.rec (motive:=fun _=>Bool) true false b) b a
noncomputable def XD(v:AV):Bool->SK:=match v with
  | .bool b=>fun want=>gb mt (Qd b want)
  | .tup []=>fun _=>P8
  |_=>fun _=>KY
noncomputable def XE(v:Option AV):Bool->SK:=Option.rec (motive:=fun _=>Bool->SK) (fun _=>KY) (XD mt) v
noncomputable def dstOf(ops:List Oper)(j:Nat):Option Nat:=Option.rec (motive:=fun _=>Option Nat) none (fun o=>o.dst) (nthF ops j)
noncomputable def iq(d:Nat)(want:Bool)(o:Oper)(ih:KF)(n:Nat)(ops:List Oper)(cl:CL)(acc:List GL)(E:TE)(H:TH)(k:Nat):YR:=XE mt (Qt.at (Fx d) E) want o ih n ops cl acc E H k
noncomputable def XF(d:Option Nat):Bool->SK:=Option.rec (motive:=fun _=>Bool->SK) (fun _=>KY) (iq mt) d
noncomputable def fX(g:Nat×Bool)(o:Oper)(ih:KF)(n:Nat)(ops:List Oper)(cl:CL)(acc:List GL)(E:TE)(H:TH)(k:Nat):YR:=XF mt (dstOf ops g.1) g.2 o ih n ops cl acc E H k
noncomputable def fY(b:Bool):SK:=Bool.rec (motive:=fun _=>SK) KY (fun o=>Option.rec (motive:=fun _=>SK) (KX mt) (fX mt) o.guard o) b
noncomputable def dstOk(d:Option Nat)(n:Nat):Bool:=Option.rec (motive:=fun _=>Bool) true (fun d=>Nat.blt d n) d
noncomputable def P9(o:Oper)(_:List Oper)(ih:KF)(n:Nat)(ops:List Oper)(cl:CL)(acc:List GL)(E:TE)(H:TH)(k:Nat):YR:=fY mt (dstOk o.dst n) o ih n ops cl acc E H k
noncomputable def opsF(fin:KF)(l:List Oper):KF:=List.rec (motive:=fun _=>KF) fin (P9 mt) l
end
noncomputable def endS:KF:=fun _ _ _ _ E H k=>.mk .normal E H k
noncomputable def vz(x y:AV):Bool:=match x,y with
  | .str a,.str b=>dK (sL a) (sL b)
  | .val .nilFunc,.val .nilFunc=>true
  | .val .nilIface,.val .nilIface=>true
  | .val (.map none),.val (.map none)=>true
  |x,y=>x.eqS y
noncomputable def eqVs(q:AV->AV->Bool)(xs:List AV):List AV->Bool:=List.rec (motive:=fun _=>List AV->Bool) (fun ys=>List.rec (motive:=fun _=>Bool) true (fun _ _ _=>false) ys) (fun x _ ih ys=>List.rec (motive:=fun _=>Bool) false (fun y ys _=>Bool.rec (motive:=fun _=>Bool) false (ih ys) (q x y)) ys) xs
noncomputable def dI(q:AV->AV->Bool)(xs:List (List AV)):List (List AV)->Bool:=List.rec (motive:=fun _=>List (List AV)->Bool) (fun ys=>List.rec (motive:=fun _=>Bool) true (fun _ _ _=>false) ys) (fun x _ ih ys=>List.rec (motive:=fun _=>Bool) false (fun y ys _=>Bool.rec (motive:=fun _=>Bool) false (ih ys) (eqVs q x y)) ys) xs
noncomputable def yf(q:AV->AV->Bool)(x y:AV):Bool:=match x,y with
  | .lst ex es,.lst ex' es'=>and3 (Qd ex ex') (dI q es es') true
  | .agg cs,.agg cs'=>eqVs q cs cs'
  | .tup cs,.tup cs'=>eqVs q cs cs'
  | .loc cs,.loc cs'=>eqVs q cs cs'
  | .fn (.func f) fs cs,.fn (.func f') fs' cs'=>and3 (Nat.beq f f') (eqVs q fs fs') (eqVs q cs cs')
  |x,y=>vz x y
noncomputable def yg(d:Nat):AV->AV->Bool:=Nat.rec (motive:=fun _=>AV->AV->Bool) vz (fun _ ih=>yf ih) d
noncomputable def ye(q:AV->AV->Bool)(xs:List (AV×AV)):List (AV×AV)->Bool:=List.rec (motive:=fun _=>List (AV×AV)->Bool) (fun ys=>List.rec (motive:=fun _=>Bool) true (fun _ _ _=>false) ys) (fun x _ ih ys=>List.rec (motive:=fun _=>Bool) false (fun y ys _=>and3 (q x.1 y.1) (q x.2 y.2) (ih ys)) ys) xs
noncomputable def vA(x y:Option AObj):Bool:=match x,y with
  |some (.row p sz es),some (.row p' sz' es')=>and3 (Qd p p') (Nat.beq sz sz') (dI (yg 12) es es')
  |some (.map m),some (.map m')=>ye (yg 12) m m'
  |_,_=>false
noncomputable def Mm(a b:GL):Bool:=match a,b with
  | .pure,_=>true
  |_,.pure=>true
  | .foot R W,.foot R' W'=>Ch (R,W) (R',W')
  | .foot R W,.call H k H' k'=>and3 (allF (fun b=>and3 (Nat.blt b k) (vA (Qt.at (Fx b) H) (Qt.at (Fx b) H')) true) R) (allF (fun _=>false) W) true
  | .call H k H' k',.foot R W=>and3 (allF (fun b=>Bool.rec (motive:=fun _=>Bool) (and3 (Nat.blt b k) (vA (Qt.at (Fx b) H) (Qt.at (Fx b) H')) true) true (Nat.ble k' b)) R) (allF (fun b=>Nat.ble k' b) W) true
  | .call _ _ _ _,.call _ _ _ _=>false
noncomputable def chkI(ops:Array Oper)(infs:List GL):Bool:=
  (List.range ops.size).all fun j=>match ops[j]?,nthF infs j with
    |some oj,some sj=>oj.after.all (fun e=> !Region.binds .any e||Nat.blt e.on j)&&(List.range j).all fun i=>match ops[i]?,nthF infs i with
      |some oi,some si=>HN ops 24 oj i||(oi.apart ops oj&&Mm si sj)
      |_,_=>false
    |_,_=>false
noncomputable def bG(l:List GL):List GL->List GL:=List.rec (motive:=fun _=>List GL->List GL) (fun a=>a) (fun x _ ih a=>ih (x::a)) l
noncomputable def endD:KF:=fun _ ops _ acc E H k=>Bool.rec (motive:=fun _=>YR) (.bad [6666]) (.mk .normal E H k) (chkI ⟨ops⟩ (bG acc []))
abbrev GF:=Nat->Code->TE->TH->Nat->YR
abbrev CF:=GF->Nat->TE->TH->Nat->YR
abbrev Ni:=GF->List AV->TH->Nat->YC
noncomputable def xI(ys:List AV)(H:TH)(k:Nat):YC:=.mk (CQ ys) H k
noncomputable def tX(b:Bool)(ys:Option (List AV))(H:TH)(k f:Nat):YC:=Bool.rec (motive:=fun _=>YC) (.bad [f,8887]) (Option.rec (motive:=fun _=>YC) (.bad [f,8888]) (fun ys=>xI ys H k) ys) b
noncomputable def tY(r:YR)(fn:Func)(f:Nat):YC:=YR.rec (motive:=fun _=>YC) (fun x E H k=>tX (endsOk x) (resEv TI (eF E) (hF H k k) fn.results.toList) H k f) (fun l=>.bad (f::l)) r
noncomputable def Z5(fn:Func)(c:Code)(f:Nat)(go:GF)(xs:List AV)(H:TH)(k:Nat):YC:=Bool.rec (motive:=fun _=>YC) (.bad [f,8885]) (tY (go fn.ntmps c (JA xs 0 .lf) H k) fn f) (Nat.ble (CT xs) fn.ntmps)
noncomputable def uY(f:Nat)(_:GF)(_:List AV)(_:TH)(_:Nat):YC:=.bad [f,8886]
noncomputable def Z3(p:Option (Func×Code)):Nat->Ni:=Option.rec (motive:=fun _=>Nat->Ni) uY (fun p=>Prod.rec (motive:=fun _=>Nat->Ni) Z5 p) p
section
variable (mt : Nat -> String -> Option Nat) (sp : Nat -> Option Ni)
noncomputable def Fo(go:GF)(f:Nat)(xs:List AV)(H:TH)(k:Nat):YC:=Option.rec (motive:=fun _=>Ni) (Z3 (fnEv Tryz.prog f) f) (fun s=>s) (sp f) go xs H k
noncomputable def xF(E:TE)(H:TH)(k:Nat)(b:Code)(go:GF)(n:Nat):YR:=go n b E H k
noncomputable def ix(x:Exit)(E:TE)(H:TH)(k:Nat):Code->GF->Nat->YR:=match x with
  | .normal=>xF E H k
  |x=>fun _ _ _=>.mk x E H k
noncomputable def xG(l:List Nat)(_:Code)(_:GF)(_:Nat):YR:=.bad l
noncomputable def bB(r:YR):Code->GF->Nat->YR:=YR.rec (motive:=fun _=>Code->GF->Nat->YR) ix xG r
noncomputable def vc(b:Bool)(i:Nat)(E:TE)(H:TH)(k:Nat):YR:=Bool.rec (motive:=fun _=>YR) (.mk (.exit i) E H k) (.mk .normal E H k) b
noncomputable def u7(x:Exit)(E:TE)(H:TH)(k:Nat)(id:Nat):YR:=match x with
  | .exit i=>vc (Nat.beq i id) i E H k
  |x=>.mk x E H k
noncomputable def u9(r:YR)(id:Nat):YR:=YR.rec (motive:=fun _=>Nat->YR) u7 (fun l _=>.bad l) r id
noncomputable def yk(b:Bool)(x y:Code)(go:GF)(n:Nat)(E:TE)(H:TH)(k:Nat):YR:=go n (Bool.rec (motive:=fun _=>Code) y x b) E H k
noncomputable def ZV(x y:Code)(go:GF)(n:Nat)(E:TE)(H:TH)(k:Nat):YR:=.bad [7775]
noncomputable def uV(v:AV):Code->Code->CF:=match v with
  | .bool b=>yk b
  |_=>ZV
noncomputable def uW(v:Option AV):Code->Code->CF:=Option.rec (motive:=fun _=>Code->Code->CF) ZV uV v
noncomputable def gp(go:GF)(n:Nat)(E:TE)(H:TH)(k:Nat):YR:=.mk .normal E H k
noncomputable def uP(id:Nat)(go:GF)(n:Nat)(E:TE)(H:TH)(k:Nat):YR:=.mk (.exit id) E H k
noncomputable def yc(go:GF)(n:Nat)(E:TE)(H:TH)(k:Nat):YR:=.mk .ret E H k
noncomputable def yb(a b:Code)(go:GF)(n:Nat)(E:TE)(H:TH)(k:Nat):YR:=bB (go n a E H k) b go n
noncomputable def jH(t:Nat)(a b:Code)(go:GF)(n:Nat)(E:TE)(H:TH)(k:Nat):YR:=uW (lkT t E) a b go n E H k
noncomputable def uQ(t:Operand):Code->Code->CF:=Operand.rec (motive:=fun _=>Code->Code->CF) jH (fun _=>ZV) (fun _=>ZV) (fun _=>ZV) t
noncomputable def jI(id:Nat)(b:Code)(go:GF)(n:Nat)(E:TE)(H:TH)(k:Nat):YR:=u9 (go n b E H k) id
noncomputable def uO(b:Code)(go:GF)(n:Nat)(E:TE)(H:TH)(k:Nat):YR:=bB (go n b E H k) (.loop b) go n
noncomputable def iy(x:Exit)(E:TE)(H:TH)(k:Nat):YR:=match x with
  | .goto _=>.bad [5551]
  |x=>.mk x E H k
noncomputable def jG(b:Code)(go:GF)(n:Nat)(E:TE)(H:TH)(k:Nat):YR:=YR.rec (motive:=fun _=>YR) iy (fun l=>.bad l) (go n b E H k)
noncomputable def iQ(r:YR)(id:Nat):YR:=YR.rec (motive:=fun _=>YR) (fun x E H k=>.mk x E H k) (fun l=>.bad (id::l)) r
noncomputable def Mt(id:Nat)(ops:List Oper)(dr:Bool)(go:GF)(n:Nat)(E:TE)(H:TH)(k:Nat):YR:=iQ (opsF mt (Bool.rec (motive:=fun _=>KF) endS endD dr) ops n ops (Fo sp go) [] E H k) id
noncomputable def gq(f:Option Nat)(id:Nat)(ops:List Oper)(dr:Bool)(go:GF)(n:Nat)(E:TE)(H:TH)(k:Nat):YR:=Option.rec (motive:=fun _=>YR) (Mt mt sp id ops dr go n E H k) (fun t=>Mt mt sp id ops dr go n (Vd (ZE n k t E H).1 n) (Vd (ZE n k t E H).2 k) k) f
noncomputable def dA(id:Nat)(ops:List Oper)(dr:Bool)(go:GF)(n:Nat)(E:TE)(H:TH)(k:Nat):YR:=gq mt sp (fz36 n id) id ops dr go n E H k
noncomputable def jJ(go:GF)(n:Nat)(E:TE)(H:TH)(k:Nat):YR:=.bad [7774]
noncomputable def gz(c:Code):CF:=Code.casesOn (motive:=fun _=>CF) c gp (fun id ops dr=>dA mt sp id ops.toList dr) yb uQ jI uO (fun _ _ _ _=>jJ) uP jG (fun _=>gp) (fun _=>jJ) yc (fun _=>jJ)
noncomputable def goF(g:Nat):GF:=Nat.rec (motive:=fun _=>GF) (fun _ _ _ _ _=>.bad [7773]) (fun _ ih n c=>gz mt sp c ih n) g
end
def Rt(P:Program)(f:Nat)(xs:List AV)(H:TH)(k:Nat):YC->Prop
  | .mk r H' k'=>(∃p,fnEv P f=some p)/\k<=k'/\∀m,k'<=m->ACall P f xs (hF H k m) (fun r1 h1=>r1=r/\h1=hF H' k' m)
  | .bad _=>True
def CL.Ok(P:Program)(cl:CL):Prop:=∀f xs H k,Rt P f xs H k (cl f xs H k)
inductive StepOk(P:Program)(mt:Nat->String->Option Nat)(o:Oper)(E:TE)(H:TH)(k:Nat):Option AV->TH->Nat->GL->Prop
  |val (R:List Nat) (v:AV) (h:∀m,QLoc P o (eF E) (hF H k m) R v):StepOk P mt o E H k (some v) H k (.foot R [])
  |new (R:List Nat) (ob:AObj) (v:AV) (h:∀m,k<m->OLoc P o (eF E) (hF H k m) (k::R) [(k,ob)] (some v)):StepOk P mt o E H k (some v) (Qt.set ob (Fx k) H) (k+1) (.foot (k::R) [k])
  |upd (R:List Nat) (b:Nat) (ob:AObj) (r:Option AV) (hb:b<k) (hr:r=none->o.dst=none) (h:∀m,OLoc P o (eF E) (hF H k m) (b::R) [(b,ob)] r):StepOk P mt o E H k r (Qt.set ob (Fx b) H) k (.foot (b::R) [b])
  |call (f:Nat) (xs:List AV) (v:AV) (H1:TH) (k1:Nat) (p:Func×Code) (hc:calleeEv mt o.op (eF E)=some (f,xs)) (hf:fnEv P f=some p) (hk:k<=k1) (h:∀m,k1<=m->ACall P f xs (hF H k m) (fun r1 h1=>r1=v/\h1=hF H1 k1 m)):StepOk P mt o E H k (some v) H1 k1 (.call H k H1 k1)
theorem StepOk.le{P:Program}{mt:Nat->String->Option Nat}{o:Oper}{E:TE}{H:TH}{k:Nat}{r:Option AV}{H1:TH}{k1:Nat}{i:GL}(h:StepOk P mt o E H k r H1 k1 i):k<=k1:=by
 cases h with
 |val=>exact Nat.le_refl _
 |new=>exact Nat.le_succ _
 |upd=>exact Nat.le_refl _
 |call f xs v H1 k1 p hc hf hk h=>exact hk
noncomputable def bP(d:Option Nat)(r:Option AV)(E:TE):TE:=Option.rec (motive:=fun _=>TE) E (fun r=>FO d r E) r
theorem Bn{l:List Nat}{x:Exit}{E:TE}{H:TH}{k:Nat}(h:YR.bad l=YR.mk x E H k):False:=by cases h
theorem Iv{d:Option Nat}{n:Nat}(h:dstOk d n=true):∀t,d=some t->Nat.blt t n=true:=fun t e=>by subst e;exact h
theorem H9(a b:Bool):Qd a b=(a==b):=by cases a<;>cases b<;>rfl
section
variable {mt : Nat -> String -> Option Nat} {o : Oper} {ih : KF} {n : Nat} {ops : List Oper} {cl : CL} {acc : List GL} {E E' : TE} {H H' : TH} {k k' : Nat} {x : Exit}
theorem IR(hT:Bc Tryz.prog TI)(hcl:cl.Ok Tryz.prog)(h:KX mt o ih n ops cl acc E H k=.mk x E' H' k'):
 ∃r H1 k1 i,StepOk Tryz.prog mt o E H k r H1 k1 i/\ih n ops cl (i::acc) (bP o.dst r E) H1 k1=.mk x E' H' k':=by
 have hl:=QN hT (o:=o) (E:=E) (H:=H) (k:=k);have h:fW mt (Mg o E H k) o ih n ops cl acc E H k=.mk x E' H' k':=h;generalize Mg o E H k=lr at hl h
 cases lr with
 |no=>
  have h:uI (calleeEv mt o.op (eF E)) o ih n ops cl acc E H k=.mk x E' H' k':=h
  cases hc:calleeEv mt o.op (eF E)with
  |none=>rw[hc]at h;exact(Bn h).elim
  |some p=>
   obtain⟨f,xs⟩:=p;rw[hc]at h;have h:gm (cl f xs H k) o.dst ih n ops cl acc E H k=.mk x E' H' k':=h;have hy:=hcl f xs H k;generalize cl f xs H k=c at hy h
   cases c with
   |bad l=>exact(Bn h).elim
   |mk r H1 k1=>
    obtain⟨⟨p,hp⟩,hk,ha⟩:=hy;exact⟨some r,H1,k1,_,.call f xs r H1 k1 p hc hp hk ha,h⟩
 |val R v=>exact⟨some v,H,k,_,.val R v hl,h⟩
 |new R ob v=>exact⟨some v,_,_,_,.new R ob v hl,h⟩
 |upd R b ob r=>
  cases r with
  |some v=>exact⟨some v,_,_,_,.upd R b ob _ hl.1 JH hl.2,h⟩
  |none=>
   have h:Option.rec (motive:=fun _=>YR) (ih n ops cl (.foot (b::R) [b]::acc) E (Qt.set ob (Fx b) H) k) (fun _=>.bad [7771]) o.dst=.mk x E' H' k':=h
   cases hd:o.dst with
   |some d=>rw[hd]at h;exact(Bn h).elim
   |none=>
    rw[hd]at h;exact⟨none,_,_,_,.upd R b ob _ hl.1 (fun _=>hd) hl.2,h⟩
theorem H8(hT:Bc Tryz.prog TI)(hcl:cl.Ok Tryz.prog){rest:List Oper}(h:P9 mt o rest ih n ops cl acc E H k=.mk x E' H' k'):
 (∀t,o.dst=some t->Nat.blt t n=true)/\
 ((Av ⟨ops⟩ o (eF E)=some true/\∃r H1 k1 i,StepOk Tryz.prog mt o E H k r H1 k1 i/\ih n ops cl (i::acc) (bP o.dst r E) H1 k1=.mk x E' H' k')\/
  (Av ⟨ops⟩ o (eF E)=some false/\ih n ops cl (.pure::acc) (FO o.dst (.tup []) E) H k=.mk x E' H' k')):=by
 have h:fY mt (dstOk o.dst n) o ih n ops cl acc E H k=.mk x E' H' k':=h
 cases hd:dstOk o.dst n with
 |false=>rw[hd]at h;exact(Bn h).elim
 |true=>
  rw[hd]at h;refine⟨Iv hd,?_⟩;have h:Option.rec (motive:=fun _=>SK) (KX mt) (fX mt) o.guard o ih n ops cl acc E H k=.mk x E' H' k':=h;unfold Av
  cases hg:o.guard with
  |none=>
   rw[hg]at h;exact .inl ⟨rfl,IR hT hcl h⟩
  |some g=>
   obtain⟨j,want⟩:=g;rw[hg]at h;have h:XF mt (dstOf ops j) want o ih n ops cl acc E H k=.mk x E' H' k':=h;have hdst:dstOf ops j=((⟨ops⟩:Array Oper)[j]?).bind (·.dst):=by
    unfold dstOf;rw[EY];have:(⟨ops⟩:Array Oper)[j]?=ops[j]?:=by simp
    rw[this]
    cases ops[j]?<;>rfl
   simp only;rw[<-hdst]
   cases hj:dstOf ops j with
   |none=>rw[hj]at h;exact(Bn h).elim
   |some d=>
    rw[hj]at h;have h:XE mt (Qt.at (Fx d) E) want o ih n ops cl acc E H k=.mk x E' H' k':=h;show((match eF E d with|some (.bool b)=>some (b==want)|some (.tup [])=>some false|_=>none)=some true/\_)\/((match eF E d with|some (.bool b)=>some (b==want)|some (.tup [])=>some false|_=>none)=some false/\_);have he:eF E d=Qt.at (Fx d) E:=rfl;rw[he]
    cases hv:Qt.at (Fx d) E with
    |none=>rw[hv]at h;exact(Bn h).elim
    |some v=>
     rw[hv]at h;have h:XD mt v want o ih n ops cl acc E H k=.mk x E' H' k':=h
     cases v with
     |bool b=>
      have h:gb mt (Qd b want) o ih n ops cl acc E H k=.mk x E' H' k':=h;rw[H9]at h
      cases hb:b==want with
      |true=>
       rw[hb]at h;exact .inl ⟨congrArg some hb,IR hT hcl h⟩
      |false=>
       rw[hb]at h;exact .inr ⟨congrArg some hb,h⟩
     |tup vs=>
      cases vs with
      |nil=>exact .inr ⟨rfl,h⟩
      |cons y ys=>exact(Bn h).elim
     |_=>exact(Bn h).elim
end
theorem dO{d:Option Nat}{r:Option AV}{E:TE}:eF (bP d r E)=match d,r with
 |some t,some v=>Ad (eF E) t v
 |_,_=>eF E:=by
 cases r with
 |none=>cases d<;>rfl
 |some v=>
  cases d with
  |none=>rfl
  |some t=>exact MH
section
variable {mt : Nat -> String -> Option Nat} {n : Nat} {ops : List Oper} {cl : CL}
theorem OZ(hT:Bc Tryz.prog TI)(hmt:G9 Tryz.prog mt)(hcl:cl.Ok Tryz.prog):∀(l:List Oper) {acc:List GL} {E E':TE} {H H':TH} {k k':Nat} {x:Exit},opsF mt endS l n ops cl acc E H k=.mk x E' H' k'->
 x=.normal/\k<=k'/\∀m,k'<=m->∀K:Ac->Prop,K ⟨n,eF E',hF H' k' m⟩->AOps Tryz.prog ⟨ops⟩ l ⟨n,eF E,hF H k m⟩ K
 | [],acc,E,E',H,H',k,k',x,h=>by
  have h:YR.mk .normal E H k=YR.mk x E' H' k':=h
  cases h
  exact⟨rfl,Nat.le_refl _,fun m _ K hK=>AOps.nil hK⟩
 |o::l,acc,E,E',H,H',k,k',x,h=>by
  have h:P9 mt o l (opsF mt endS l) n ops cl acc E H k=.mk x E' H' k':=h;obtain⟨hd,h|h⟩:=H8 hT hcl h
  . obtain⟨hg,r,H1,k1,i,hs,h⟩:=h;obtain⟨hx,hk,ha⟩:=OZ hT hmt hcl l h;refine⟨hx,Nat.le_trans hs.le hk,fun m hm K hK=>?_⟩;have ha:=ha m hm K hK;rw[dO]at ha
    cases hs with
    |val R v hq=>
     cases hdd:o.dst with
     |none=>rw[hdd]at ha;exact AOps.w hdd hg (QLoc.loc (hq m)) ha
     |some d=>rw[hdd]at ha;exact AOps.s d hdd (hd d hdd) hg (hq m) ha
    |new R ob v hq=>
     rw[Pl Ab]at ha
     cases hdd:o.dst with
     |none=>rw[hdd]at ha;exact AOps.w hdd hg (hq m Ab) ha
     |some d=>rw[hdd]at ha;exact AOps.x d hdd (hd d hdd) hg (hq m Ab) ha
    |upd R b ob r hb hr hq=>
     rw[Mq hb]at ha
     cases hdd:o.dst with
     |none=>rw[hdd]at ha;exact AOps.w hdd hg (hq m) ha
     |some d=>
      rw[hdd]at ha
      cases r with
      |none=>rw[hr rfl]at hdd;cases hdd
      |some v=>exact AOps.x d hdd (hd d hdd) hg (hq m) ha
    |call f xs v H1 k1 p hc hf hkk hcall=>
     obtain⟨fn,c⟩:=p;obtain⟨f1,f2,f3⟩:=C2 hf;have ho:=FC hmt hc f1 f3 (by rw[f2];rfl) (hcall m Ab)
     cases hdd:o.dst with
     |none=>
      rw[hdd]at ha;refine WO hdd hg (OCallR.mono ho fun r' h' hh=>?_);obtain⟨rfl,rfl⟩:=hh;exact ha
     |some d=>
      rw[hdd]at ha;refine AOps.inn d hdd (hd d hdd) hg (OCallR.mono ho fun r' h' hh=>?_);obtain⟨rfl,rfl⟩:=hh;exact ha
  . obtain⟨hg,h⟩:=h;obtain⟨hx,hk,ha⟩:=OZ hT hmt hcl l h;refine⟨hx,hk,fun m hm K hK=>?_⟩;have ha:=ha m hm K hK
    cases hdd:o.dst with
    |none=>rw[hdd]at ha;exact er hdd hg ha
    |some d=>
     rw[hdd]at ha;have e:eF (FO (some d) (.tup []) E)=Ad (eF E) d (.tup []):=MH;rw[e]at ha;exact AOps.k d hdd (hd d hdd) hg ha
end
theorem Hd{e e':Ar}:∀{l:List Operand},(∀x∈l,look e' x=look e x)->AQ e' l=AQ e l
 | [],_=>rfl
 |x::l,h=>by
  unfold AQ;rw[h x Az,Hd (l:=l) fun y hy=>h y (by simp[hy])]
theorem MN{mt:Nat->String->Option Nat}{o:Op}{e e':Ar}(h:∀x∈o.operands,look e' x=look e x):calleeEv mt o e'=calleeEv mt o e:=by
 cases o with
 |call c=>
  obtain⟨ce,args,tys⟩:=c;have ha:AQ e' args.toList=AQ e args.toList:=Hd fun x hx=>h x (by simp[Op.operands,Call.operands];exact .inr (by simpa using hx))
  cases ce with
  |value x=>
   have hx:look e' x=look e x:=h x (by simp[Op.operands,Call.operands]);simp only[calleeEv,ha,hx]
  |invoke r m=>
   have hx:look e' r=look e r:=h r (by simp[Op.operands,Call.operands]);simp only[calleeEv,ha,hx]
  |builtin b=>rfl
 |_=>rfl
section
open Classical
noncomputable def K9(h h1:Aa)(k1:Nat):Upd (Option AObj) where
  f:=fun g x=>if x<k1/\h x≠h1 x then h1 x else g x
  wr:=fun x=>decide (x<k1/\h x≠h1 x)
  out:=fun g x hx=>by
    have:¬(x<k1/\h x≠h1 x):=of_decide_eq_false hx
    rw[if_neg this]
  inn:=fun g g' x hx=>by
    have:x<k1/\h x≠h1 x:=of_decide_eq_true hx
    rw[if_pos this,if_pos this]
theorem Te{h h1:Aa}{k1 x:Nat}(hx:(K9 h h1 k1).wr x=true):x<k1/\h x≠h1 x:=of_decide_eq_true hx
theorem WA{H H1:TH}{k k1 m:Nat}(hk:k<=k1)(hm:k1<=m):(K9 (hF H k m) (hF H1 k1 m) k1).f (hF H k m)=hF H1 k1 m:=by
 funext x;show(if x<k1/\hF H k m x≠hF H1 k1 m x then hF H1 k1 m x else hF H k m x)=_;split
 . rfl
 . rename_i hn
   by_cases hx:x<k1
   . exact Classical.byContradiction fun hc=>hn ⟨hx,hc⟩
   . by_cases h2:x<m
     . rw[BM Ab h2,BM Ab h2]
     . rw[CG Ab Ab,CG Ab Ab]
theorem Rm{H H1:TH}{k k1 m:Nat}{g:Aa}(hg:∀x,x<k1->g x=hF H k m x):Q1 g (hF H1 k1 k1) (fun x=>Nat.blt x k1)=(K9 (hF H k m) (hF H1 k1 m) k1).f g:=by
 funext x;show _=if x<k1/\hF H k m x≠hF H1 k1 m x then hF H1 k1 m x else g x
 by_cases hx:x<k1
 . rw[Do (κ:=fun x=>Nat.blt x k1) (Nat.blt_eq.mpr hx),Cp hx];split
   . rw[Cp hx]
   . rename_i hn;have:hF H k m x=hF H1 k1 m x:=Classical.byContradiction fun hc=>hn ⟨hx,hc⟩
     rw[hg x hx,this,Cp hx]
 . rw[CU (κ:=fun x=>Nat.blt x k1) (fun hc=>hx (Nat.blt_eq.mp hc)),if_neg fun hc=>hx hc.1]
end
theorem dp{H:TH}{k k1 m:Nat}{g:Aa}(hk:k<=k1)(hm:k1<=m)(hg:∀x,x<k1->g x=hF H k m x):Nb g (fun x=>Nat.blt x k1)=hF H k k1:=by
 funext x
 by_cases hx:x<k1
 . rw[EQ (κ:=fun x=>Nat.blt x k1) (Nat.blt_eq.mpr hx),hg x hx]
   by_cases h2:x<k
   . rw[Cp h2,Cp h2]
   . rw[BM Ab Ab,BM Ab Ab]
 . rw[E4 (κ:=fun x=>Nat.blt x k1) (fun hc=>hx (Nat.blt_eq.mp hc)),CG Ab Ab]
def Rv(m:Nat):GL->XRec->Prop
  | .pure,c=>c.up=Upd.no/\∀b,¬c.rd b
  | .foot R W,c=>(∀b,c.rd b->b∈R)/\∀x,c.up.wr x=true->x∈W
  | .call H k H1 k1,c=>(∀b,c.rd b->b<k1)/\∀x,c.up.wr x=true->x<k1/\hF H k m x≠hF H1 k1 m x
section
variable {mt : Nat -> String -> Option Nat} {o : Oper} {E : TE} {H : TH} {k : Nat} {r : Option AV} {H1 : TH} {k1 : Nat} {i : GL}
theorem d9{P:Program}{e:Ar}{h:Aa}{R:List Nat}{v:AV}(hq:QLoc P o e h R v):OX P o e h (fun b=>b∈R) (Df []) (some v):=fun H ι a w s Q hs h1 h2=>
 hq.loc H ι a w s Q hs h1 h2
theorem StepOk.rec_(hmt:G9 Tryz.prog mt)(hs:StepOk Tryz.prog mt o E H k r H1 k1 i){m:Nat}(hm:k1<=m):∃rd up,OX Tryz.prog o (eF E) (hF H k m) rd up r/\up.f (hF H k m)=hF H1 k1 m/\∀b r',Rv m i ⟨eF E,hF H k m,b,rd,up,r'⟩:=by
 cases hs with
 |val R v hq=>exact⟨_,_,d9 (hq m),rfl,fun _ _=>⟨fun b hb=>hb,fun x hx=>by cases hx⟩⟩
 |new R ob v hq=>
  refine⟨fun b=>b∈k::R,Df [(k,ob)],fun H' ι a w s Q hs h1 h2=>hq m Ab H' ι a w s Q hs h1 h2,(Pl Ab).symm,fun _ _=>⟨fun b hb=>hb,fun x hx=>?_⟩⟩;simpa[Df]using hx
 |upd R b ob r hb hr hq=>
  refine⟨fun c=>c∈b::R,Df [(b,ob)],fun H' ι a w s Q hs h1 h2=>hq m H' ι a w s Q hs h1 h2,(Mq hb).symm,fun _ _=>⟨fun b hb=>hb,fun x hx=>?_⟩⟩;simpa[Df]using hx
 |call f xs v H1 k1 p hc hf hk hcall=>
  refine⟨fun b=>b<k1,K9 (hF H k m) (hF H1 k1 m) k1,fun H' ι a w s Q hs h1 h2=>?_,WA hk hm,fun _ _=>⟨fun b hb=>hb,fun x hx=>Te hx⟩⟩;obtain⟨fn,c⟩:=p;obtain⟨f1,f2,f3⟩:=C2 hf;have hca:=Tv (fun x=>Nat.blt x k1) (dp hk hm h2) (hcall k1 (Nat.le_refl _));have ho:=FC hmt ((MN h1).trans hc) f1 f3 (by rw[f2];rfl) hca;refine Oper.wp_mono (fun a' w' hx=>?_) (ho H' ι a w s.n Q hs);obtain⟨v',r',h',H2,ι2,⟨rfl,rfl⟩,e1,e2,e3,e4⟩:=hx;rw[Rm h2]at e3 e4;exact⟨v',H2,ι2,e1,fun x ex=>by cases ex;exact e2,e3,e4⟩
end
theorem Rg{x y:AV}(h:vz x y=true):x=y:=by
 unfold vz at h;split at h
 . rename_i a b;rw[MB,decide_eq_true_eq,OO,OO]at h;have:=(List.map_inj_right (fun x y=>UInt8.toNat_inj.1)).1 h;have:a=b:=by
    apply ByteArray.ext;exact Array.ext' this
   rw[this]
 . rfl
 . rfl
 . rfl
 . exact ZL h
theorem D8{q:AV->AV->Bool}(hq:∀x y,q x y=true->x=y):∀{xs ys:List AV},eqVs q xs ys=true->xs=ys
 | [],[],_=>rfl
 | [],_::_,h=>by cases h
 |_::_,[],h=>by cases h
 |x::xs,y::ys,h=>by
  have h:Bool.rec (motive:=fun _=>Bool) false (eqVs q xs ys) (q x y)=true:=h
  cases c:q x y with
  |false=>rw[c]at h;cases h
  |true=>rw[c]at h;rw[hq _ _ c,D8 hq h]
theorem J7{q:AV->AV->Bool}(hq:∀x y,q x y=true->x=y):∀{xs ys:List (List AV)},dI q xs ys=true->xs=ys
 | [],[],_=>rfl
 | [],_::_,h=>by cases h
 |_::_,[],h=>by cases h
 |x::xs,y::ys,h=>by
  have h:Bool.rec (motive:=fun _=>Bool) false (dI q xs ys) (eqVs q x y)=true:=h
  cases c:eqVs q x y with
  |false=>rw[c]at h;cases h
  |true=>rw[c]at h;rw[D8 hq c,J7 hq h]
theorem Rj{q:AV->AV->Bool}(hq:∀x y,q x y=true->x=y):∀{xs ys:List (AV×AV)},ye q xs ys=true->xs=ys
 | [],[],_=>rfl
 | [],_::_,h=>by cases h
 |_::_,[],h=>by cases h
 |(a,b)::xs,(c,d)::ys,h=>by
  have h:and3 (q a c) (q b d) (ye q xs ys)=true:=h;obtain⟨h1,h2,h3⟩:=Bq h;rw[hq _ _ h1,hq _ _ h2,Rj hq h3]
theorem ZM{q:AV->AV->Bool}(hq:∀x y,q x y=true->x=y){x y:AV}(h:yf q x y=true):x=y:=by
 unfold yf at h;split at h
 . obtain⟨h1,h2,_⟩:=Bq h;rw[H9,beq_iff_eq]at h1;rw[h1,J7 hq h2]
 . rw[D8 hq h]
 . rw[D8 hq h]
 . rw[D8 hq h]
 . obtain⟨h1,h2,h3⟩:=Bq h;rw[Nat.eq_of_beq_eq_true h1,D8 hq h2,D8 hq h3]
 . exact Rg h
theorem MC:∀(d:Nat) (x y:AV),yg d x y=true->x=y
 |0,x,y,h=>Rg h
 |d+1,x,y,h=>ZM (MC d) h
theorem Ri{x y:Option AObj}(h:vA x y=true):x=y:=by
 unfold vA at h;split at h
 . obtain⟨h1,h2,h3⟩:=Bq h;rw[H9,beq_iff_eq]at h1;rw[h1,Nat.eq_of_beq_eq_true h2,J7 (MC 12) h3]
 . rw[Rj (MC 12) h]
 . cases h
theorem Na{m:Nat}{a b:GL}{c d:XRec}(hc:Rv m a c)(hd:Rv m b d)(hkc:∀H k H1 k1,b=.call H k H1 k1->k<=k1)(hka:∀H k H1 k1,a=.call H k H1 k1->k<=k1)(h:Mm a b=true):c.apartX d:=by
 unfold Mm at h;split at h
 . obtain⟨h1,h2⟩:=hc;exact⟨fun x hx=>(by rw[h1]at hx;cases hx),fun x hx hr=>h2 x hr⟩
 . obtain⟨h1,h2⟩:=hd;exact⟨fun x hx=>⟨h2 x,(by rw[h1];rfl)⟩,fun x hx=>(by rw[h1]at hx;cases hx)⟩
 . rename_i R W R' W';obtain⟨h1,h2⟩:=hc;obtain⟨h3,h4⟩:=hd;simp only[Ch,Bool.and_eq_true,List.all_eq_true]at h;refine⟨fun x hx=>?_,fun x hx hr=>?_⟩
   . have:=h.1 x (h2 x hx);simp only[Bool.not_eq_true',List.contains_eq_mem,decide_eq_false_iff_not,Bool.and_eq_true]at this;refine⟨fun hr=>this.1 (h3 x hr),?_⟩
     cases e:d.up.wr x with
     |false=>rfl
     |true=>exact absurd (h4 x e) this.2
   . have:=h.2 x (h4 x hx);simp only[Bool.not_eq_true',List.contains_eq_mem,decide_eq_false_iff_not]at this;exact this (h1 x hr)
 . rename_i R W H k H1 k1;obtain⟨h1,h2⟩:=hc;obtain⟨h3,h4⟩:=hd;obtain⟨a1,a2,_⟩:=Bq h;have hk:=hkc _ _ _ _ rfl;refine⟨fun x hx=>(by have:=Dt a2 x (h2 x hx);cases this),fun x hx hr=>?_⟩;obtain⟨b1,b2,_⟩:=Bq (Dt a1 x (h1 x hr));have hlt:=Nat.blt_eq.mp b1;refine(h4 x hx).2 ?_;rw[Cp hlt,Cp Ab,Ri b2]
 . rename_i H k H1 k1 R W;obtain⟨h1,h2⟩:=hc;obtain⟨h3,h4⟩:=hd;obtain⟨a1,a2,_⟩:=Bq h;have hk:=hka _ _ _ _ rfl;refine⟨fun x hx=>⟨fun hr=>?_,?_⟩,fun x hx hr=>?_⟩
   . have:=Dt a1 x (h3 x hr);have hw:=h2 x hx
     cases c1:Nat.ble k1 x with
     |true=>have:=Nat.le_of_ble_eq_true c1;omega
     |false=>
      rw[c1]at this;obtain⟨b1,b2,_⟩:=Bq this;have hlt:=Nat.blt_eq.mp b1;exact hw.2 (by rw[Cp hlt,Cp Ab,Ri b2])
   . cases e:d.up.wr x with
     |false=>rfl
     |true=>
      have:=Nat.le_of_ble_eq_true (Dt a2 x (h4 x e));have:=(h2 x hx).1;omega
   . have:=Nat.le_of_ble_eq_true (Dt a2 x (h4 x hx));have:=h1 x hr;omega
 . cases h
def aH:GL->Prop
  | .call _ k _ k1=>k<=k1
  |_=>True
theorem StepOk.infLe{P:Program}{mt:Nat->String->Option Nat}{o:Oper}{E:TE}{H:TH}{k:Nat}{r:Option AV}{H1:TH}{k1:Nat}{i:GL}(h:StepOk P mt o E H k r H1 k1 i):aH i:=by
 cases h with
 |val=>exact True.intro
 |new=>exact True.intro
 |upd=>exact True.intro
 |call f xs v H1 k1 p hc hf hk h=>exact hk
theorem StepOk.rnone{P:Program}{mt:Nat->String->Option Nat}{o:Oper}{E:TE}{H:TH}{k:Nat}{r:Option AV}{H1:TH}{k1:Nat}{i:GL}(h:StepOk P mt o E H k r H1 k1 i):r=none->o.dst=none:=by
 cases h with
 |val=>exact fun e=>by cases e
 |new=>exact fun e=>by cases e
 |upd R b ob r hb hr h=>exact hr
 |call=>exact fun e=>by cases e
theorem Fm{d:Option Nat}{r:Option AV}{E:TE}(h:r=none->d=none):eF (bP d r E)=Cy (eF E) d r:=by
 cases r with
 |none=>rw[h rfl];rfl
 |some v=>
  cases d with
  |none=>rfl
  |some t=>exact MH
structure Rel2(m:Nat)(is:List GL)(cs:List XRec):Prop where
  len:is.length=cs.length
  ok:∀(j:Nat) i c,is[j]?=some i->cs[j]?=some c->Rv m i c/\aH i
theorem Rel2.nil{m:Nat}:Rel2 m [] []:=⟨rfl,fun j i c h=>by simp at h⟩
theorem Rel2.cons{m:Nat}{is:List GL}{cs:List XRec}{i:GL}{c:XRec}(h1:Rv m i c)(h2:aH i)(h:Rel2 m is cs):Rel2 m (i::is) (c::cs):=⟨by simp[h.len],fun j i' c' e1 e2=>by
 cases j with
 |zero=>simp at e1 e2;subst e1;subst e2;exact⟨h1,h2⟩
 |succ j=>exact h.ok j i' c' (by simpa using e1) (by simpa using e2)⟩
theorem Om{m:Nat}{ops:Array Oper}{is:List GL}{cs:List XRec}(hr:Rel2 m is cs)(h:chkI ops is=true):ep ops cs:=by
 intro j oj cj hj hcj;have hlt:j<ops.size:=(Array.getElem?_eq_some_iff.1 hj).1;have h1:=List.all_eq_true.1 h j (List.mem_range.2 hlt);simp only[hj,EY]at h1
 cases hi:is[j]? with
 |none=>rw[hi]at h1;cases h1
 |some sj=>
  rw[hi]at h1;simp only[Bool.and_eq_true]at h1;obtain⟨q1,q2⟩:=hr.ok j sj cj hi hcj;refine⟨fun e he hb=>?_,fun i oi ci hij hi' hci=>?_⟩
  . have:=Array.all_eq_true_iff_forall_mem.1 h1.1 e he;simp only[hb,Bool.not_true,Bool.false_or]at this;rwa[Nat.blt_eq]at this
  . have:=List.all_eq_true.1 h1.2 i (List.mem_range.2 hij);simp only[hi']at this
    cases hs:is[i]? with
    |none=>rw[hs]at this;cases this
    |some si=>
     rw[hs]at this;simp only[Bool.or_eq_true,Bool.and_eq_true]at this;obtain⟨p1,p2⟩:=hr.ok i si ci hs hci;rcases this with h2|h2
     . exact .inl h2
     . exact .inr ⟨h2.1,Na p1 q1 (fun H k H1 k1 e=>by subst e;exact q2) (fun H k H1 k1 e=>by subst e;exact p2) h2.2⟩
section
variable {mt : Nat -> String -> Option Nat} {n : Nat} {ops : List Oper} {cl : CL}
theorem K1(hT:Bc Tryz.prog TI)(hmt:G9 Tryz.prog mt)(hcl:cl.Ok Tryz.prog):∀(l:List Oper) {acc:List GL} {E E':TE} {H H':TH} {k k':Nat} {x:Exit},opsF mt endD l n ops cl acc E H k=.mk x E' H' k'->
 x=.normal/\k<=k'/\∃is,chkI ⟨ops⟩ (bG acc is)=true/\∀m,k'<=m->∃cs,XChain Tryz.prog ⟨ops⟩ n l (eF E) (hF H k m) cs (eF E') (hF H' k' m)/\Rel2 m is cs
 | [],acc,E,E',H,H',k,k',x,h=>by
  have h:Bool.rec (motive:=fun _=>YR) (.bad [6666]) (.mk .normal E H k) (chkI ⟨ops⟩ (bG acc []))=YR.mk x E' H' k':=h
  cases hc:chkI ⟨ops⟩ (bG acc [])with
  |false=>rw[hc]at h;exact(Bn h).elim
  |true=>
   rw[hc]at h;have h:YR.mk .normal E H k=YR.mk x E' H' k':=h
   cases h
   exact⟨rfl,Nat.le_refl _,[],hc,fun m _=>⟨[],⟨rfl,rfl⟩,Rel2.nil⟩⟩
 |o::l,acc,E,E',H,H',k,k',x,h=>by
  have h:P9 mt o l (opsF mt endD l) n ops cl acc E H k=.mk x E' H' k':=h;obtain⟨hd,h|h⟩:=H8 hT hcl h
  . obtain⟨hg,r,H1,k1,i,hs,h⟩:=h;obtain⟨hx,hk,is,hchk,ha⟩:=K1 hT hmt hcl l h;refine⟨hx,Nat.le_trans hs.le hk,i::is,hchk,fun m hm=>?_⟩;obtain⟨cs,c1,c2⟩:=ha m hm;obtain⟨rd,up,u1,u2,u3⟩:=hs.rec_ hmt (m:=m) Ab;refine⟨⟨eF E,hF H k m,true,rd,up,r⟩::cs,⟨rfl,rfl,⟨hg,fun t e=>Nat.blt_eq.mp (hd t e),fun _=>u1,fun e=>by cases e⟩,?_⟩,Rel2.cons (u3 _ _) hs.infLe c2⟩;show XChain Tryz.prog ⟨ops⟩ n l (Cy (eF E) o.dst r) (up.f (hF H k m)) cs (eF E') (hF H' k' m);rw[u2,<-Fm hs.rnone];exact c1
  . obtain⟨hg,h⟩:=h;obtain⟨hx,hk,is,hchk,ha⟩:=K1 hT hmt hcl l h;refine⟨hx,hk,.pure::is,hchk,fun m hm=>?_⟩;obtain⟨cs,c1,c2⟩:=ha m hm;refine⟨⟨eF E,hF H k m,false,fun _=>False,Upd.no,some (.tup [])⟩::cs,⟨rfl,rfl,⟨hg,fun t e=>Nat.blt_eq.mp (hd t e),fun e=>(by cases e),fun _=>⟨rfl,.inr rfl⟩⟩,?_⟩,Rel2.cons ⟨rfl,fun _ hb=>hb⟩ True.intro c2⟩;show XChain Tryz.prog ⟨ops⟩ n l (Cy (eF E) o.dst (some (.tup []))) (hF H k m) cs (eF E') (hF H' k' m);rw[<-Fm (E:=E) JH];exact c1
end
def GF.Ok(P:Program)(go:GF):Prop:=∀n c E H k x E' H' k',go n c E H k=.mk x E' H' k'->k<=k'/\∀m,k'<=m->AGo P c ⟨n,eF E,hF H k m⟩ (CX x ⟨n,eF E',hF H' k' m⟩)
def PA(P:Program)(sp:Nat->Option Ni):Prop:=∀f s,sp f=some s->∀go,GF.Ok P go->∀xs H k,Rt P f xs H k (s go xs H k)
section
variable {mt : Nat -> String -> Option Nat} {sp : Nat -> Option Ni}
theorem DC{H:TH}{k m:Nat}{e:Ar}:∀{rs:List ResultVar} {ys:List AV},k<=m->resEv TI e (hF H k k) rs=some ys->resEv TI e (hF H k m) rs=some ys
 | [],ys,_,h=>h
 | .tmp t::rs,ys,hm,h=>by
  unfold resEv at h|-;split at h
  . rename_i x xs h1 h2;rw[h1,DC hm h2];exact h
  . cases h
 | .cell a t::rs,ys,hm,h=>by
  unfold resEv at h|-;split at h
  . rename_i p i h1 h2;split at h
    . rename_i R cs h3;have h3':NT (hF H k m) p=some (R,cs):=by
       unfold NT at h3|-;split at h3
       . exact h3
       . rename_i b nn i0 o0;split at h3
         . rename_i pu sz es hb;have hlt:b<k:=by
            by_cases hlt:b<k
            . exact hlt
            . rw[CG Ab Ab]at hb;cases hb
           rw[Cp hlt]at hb;rw[Cp hlt,hb];exact h3
         . cases h3
       . cases h3
      simp only[h3'];split at h
      . rename_i x xs h4 h5;rw[h4,DC hm h5];exact h
      . cases h
    . cases h
  . cases h
theorem Ju(hT:Bc Tryz.prog TI)(hsp:PA Tryz.prog sp){go:GF}(hgo:go.Ok Tryz.prog):CL.Ok Tryz.prog (Fo sp go):=by
 intro f xs H k;unfold Fo
 cases hs:sp f with
 |some s=>exact hsp f s hs go hgo xs H k
 |none=>
  show Rt Tryz.prog f xs H k (Z3 (fnEv Tryz.prog f) f go xs H k)
  cases hf:fnEv Tryz.prog f with
  |none=>exact True.intro
  |some p=>
   obtain⟨fn,c⟩:=p;show Rt Tryz.prog f xs H k (Z5 fn c f go xs H k);unfold Z5
   cases hn:Nat.ble (CT xs) fn.ntmps with
   |false=>exact True.intro
   |true=>
    have hle:=Nat.le_of_ble_eq_true hn;rw[A3]at hle;show Rt Tryz.prog f xs H k (tY (go fn.ntmps c (JA xs 0 .lf) H k) fn f)
    cases hg:go fn.ntmps c (JA xs 0 .lf) H k with
    |bad l=>exact True.intro
    |mk x E1 H1 k1=>
     obtain⟨hk,ha⟩:=hgo _ _ _ _ _ _ _ _ _ hg;show Rt Tryz.prog f xs H k (tX (endsOk x) (resEv TI (eF E1) (hF H1 k1 k1) fn.results.toList) H1 k1 f)
     cases he:endsOk x with
     |false=>exact True.intro
     |true=>
      cases hr:resEv TI (eF E1) (hF H1 k1 k1) fn.results.toList with
      |none=>exact True.intro
      |some ys=>
       obtain⟨f1,f2,f3⟩:=C2 hf;refine⟨⟨_,hf⟩,hk,fun m hm=>?_⟩;have ha:=ha m hm;rw[F4]at ha;refine ACall.of_body hT f1 f2 (show xs.length+(fn.ntmps-xs.length)=fn.ntmps by omega) (AGo.mono ha fun x1 s1 hh=>?_);obtain⟨rfl,rfl⟩:=hh
       cases x1<;>simp[endsOk]at he
       . exact⟨ys,BP (DC hm hr),rfl,rfl⟩
       . exact⟨ys,BP (DC hm hr),rfl,rfl⟩
theorem NP(hT:Bc Tryz.prog TI)(hmt:G9 Tryz.prog mt)(hmx:(Tryz.prog).follows .mixedOrders=true)(hsp:PA Tryz.prog sp){go:GF}(hgo:go.Ok Tryz.prog){id:Nat}{rops:Array Oper}{dr:Bool}{n:Nat}{E:TE}{H:TH}{k:Nat}{x:Exit}{E':TE}{H':TH}{k':Nat}(h:Mt mt sp id rops.toList dr go n E H k=.mk x E' H' k'):
 k<=k'/\∀m,k'<=m->AGo Tryz.prog (.region id rops dr) ⟨n,eF E,hF H k m⟩ (CX x ⟨n,eF E',hF H' k' m⟩):=by
 have hcl:=Ju hT hsp hgo
 cases dr with
 |false=>
  have h:iQ (opsF mt endS rops.toList n rops.toList (Fo sp go) [] E H k) id=.mk x E' H' k':=h
  cases hg:opsF mt endS rops.toList n rops.toList (Fo sp go) [] E H k with
  |bad l=>rw[hg]at h;exact(Bn h).elim
  |mk x1 E1 H1 k1=>
   rw[hg]at h;have h:YR.mk x1 E1 H1 k1=.mk x E' H' k':=h
   cases h
   obtain⟨rfl,hk,ha⟩:=OZ hT hmt hcl _ hg;exact⟨hk,fun m hm=>AGo.region (ha m hm _ ⟨rfl,rfl⟩)⟩
 |true=>
  have h:iQ (opsF mt endD rops.toList n rops.toList (Fo sp go) [] E H k) id=.mk x E' H' k':=h
  cases hg:opsF mt endD rops.toList n rops.toList (Fo sp go) [] E H k with
  |bad l=>rw[hg]at h;exact(Bn h).elim
  |mk x1 E1 H1 k1=>
   rw[hg]at h;have h:YR.mk x1 E1 H1 k1=.mk x E' H' k':=h
   cases h
   obtain⟨rfl,hk,is,hchk,ha⟩:=K1 hT hmt hcl _ hg;refine⟨hk,fun m hm=>?_⟩;obtain⟨cs,c1,c2⟩:=ha m hm;exact WQ hmx c1 (Om c2 hchk) ⟨rfl,rfl⟩
def kh(P:Program)(g2:GF)(n:Nat)(c:Code)(E:TE)(H:TH)(k:Nat)(x:Exit)(E':TE)(H':TH)(k':Nat):Prop:=
  k<=k'/\∀m,k'<=m->AGo P c ⟨n,eF E,hF H k m⟩ (CX x ⟨n,eF E',hF H' k' m⟩)/\∀b,c=.loop b->∃j,Un P b (CX x ⟨n,eF E',hF H' k' m⟩) j ⟨n,eF E,hF H k m⟩
theorem J5(hT:Bc Tryz.prog TI)(hmt:G9 Tryz.prog mt)(hmx:(Tryz.prog).follows .mixedOrders=true)(hsp:PA Tryz.prog sp):∀(g n:Nat) (c:Code) (E:TE) (H:TH) (k:Nat) (x:Exit) (E':TE) (H':TH) (k':Nat),goF mt sp g n c E H k=.mk x E' H' k'->kh Tryz.prog (goF mt sp g) n c E H k x E' H' k'
 |0,n,c,E,H,k,x,E',H',k',h=>(Bn h).elim
 |g+1,n,c,E,H,k,x,E',H',k',h=>by
  have ih:=J5 hT hmt hmx hsp g;have hgo:GF.Ok Tryz.prog (goF mt sp g):=fun n c E H k x E' H' k' h=>⟨(ih n c E H k x E' H' k' h).1,fun m hm=>((ih n c E H k x E' H' k' h).2 m hm).1⟩
  have hcl:=Ju hT hsp hgo;have h:gz mt sp c (goF mt sp g) n E H k=.mk x E' H' k':=h
  cases c with
  |skip=>
   have h:YR.mk .normal E H k=YR.mk x E' H' k':=h
   cases h
   exact⟨Nat.le_refl _,fun m hm=>⟨AGo.skip ⟨rfl,rfl⟩,fun b hb=>by cases hb⟩⟩
  |label l=>
   have h:YR.mk .normal E H k=YR.mk x E' H' k':=h
   cases h
   exact⟨Nat.le_refl _,fun m hm=>⟨AGo.label ⟨rfl,rfl⟩,fun b hb=>by cases hb⟩⟩
  |exit id=>
   have h:YR.mk (.exit id) E H k=YR.mk x E' H' k':=h
   cases h
   exact⟨Nat.le_refl _,fun m hm=>⟨AGo.exit ⟨rfl,rfl⟩,fun b hb=>by cases hb⟩⟩
  |ret=>
   have h:YR.mk .ret E H k=YR.mk x E' H' k':=h
   cases h
   exact⟨Nat.le_refl _,fun m hm=>⟨AGo.ret ⟨rfl,rfl⟩,fun b hb=>by cases hb⟩⟩
  |seq a b=>
   have h:bB (goF mt sp g n a E H k) b (goF mt sp g) n=.mk x E' H' k':=h
   cases hg:goF mt sp g n a E H k with
   |bad l=>rw[hg]at h;exact(Bn h).elim
   |mk x1 E1 H1 k1=>
    rw[hg]at h;obtain⟨a1,a2⟩:=ih _ _ _ _ _ _ _ _ _ hg;have h:ix x1 E1 H1 k1 b (goF mt sp g) n=.mk x E' H' k':=h
    by_cases hx:x1=.normal
    . subst hx;have h:goF mt sp g n b E1 H1 k1=.mk x E' H' k':=h;obtain⟨b1,b2⟩:=ih _ _ _ _ _ _ _ _ _ h;exact⟨Nat.le_trans a1 b1,fun m hm=>⟨AGo.seq (AGo.mono (a2 m Ab).1 fun x2 s2 hh=>Ee hh (fun _=>(b2 m hm).1) (fun hn=>absurd rfl hn)),fun b hb=>by cases hb⟩⟩
    . have h:YR.mk x1 E1 H1 k1=.mk x E' H' k':=by cases x1<;>first|exact absurd rfl hx|exact h
      cases h
      exact⟨a1,fun m hm=>⟨AGo.seq (AGo.mono (a2 m hm).1 fun x2 s2 hh=>Ee hh (fun hn=>absurd hn hx) (fun _=>⟨rfl,rfl⟩)),fun b hb=>by cases hb⟩⟩
  |cond o a b=>
   cases o with
   |tmp t=>
    have h:uW (lkT t E) a b (goF mt sp g) n E H k=.mk x E' H' k':=h;have hl:lkT t E=eF E t:=rfl
    cases hv:lkT t E with
    |none=>rw[hv]at h;exact(Bn h).elim
    |some v=>
     rw[hv]at h hl;have h:uV v a b (goF mt sp g) n E H k=.mk x E' H' k':=h
     cases v with
     |bool bb=>
      cases bb with
      |true=>
       have h:goF mt sp g n a E H k=.mk x E' H' k':=h;obtain⟨b1,b2⟩:=ih _ _ _ _ _ _ _ _ _ h;exact⟨b1,fun m hm=>⟨AGo.cond_true true hl.symm rfl (b2 m hm).1,fun b hb=>by cases hb⟩⟩
      |false=>
       have h:goF mt sp g n b E H k=.mk x E' H' k':=h;obtain⟨b1,b2⟩:=ih _ _ _ _ _ _ _ _ _ h;exact⟨b1,fun m hm=>⟨AGo.cond_false false hl.symm rfl (b2 m hm).1,fun b hb=>by cases hb⟩⟩
     |_=>exact(Bn h).elim
   |_=>exact(Bn h).elim
  |block id b=>
   have h:u9 (goF mt sp g n b E H k) id=.mk x E' H' k':=h
   cases hg:goF mt sp g n b E H k with
   |bad l=>rw[hg]at h;exact(Bn h).elim
   |mk x1 E1 H1 k1=>
    rw[hg]at h;obtain⟨a1,a2⟩:=ih _ _ _ _ _ _ _ _ _ hg;have h:u7 x1 E1 H1 k1 id=.mk x E' H' k':=h
    by_cases hx:∃i,x1=.exit i
    . obtain⟨i,rfl⟩:=hx;have h:vc (Nat.beq i id) i E1 H1 k1=.mk x E' H' k':=h
      cases hid:Nat.beq i id with
      |true=>
       rw[hid]at h;have h:YR.mk .normal E1 H1 k1=.mk x E' H' k':=h;exact kG
      |false=>
       rw[hid]at h;have h:YR.mk (.exit i) E1 H1 k1=.mk x E' H' k':=h;exact kG
    . have h:YR.mk x1 E1 H1 k1=.mk x E' H' k':=by cases x1<;>first|exact absurd ⟨_,rfl⟩ hx|exact h
      cases h
      refine⟨a1,fun m hm=>⟨AGo.block (AGo.mono (a2 m hm).1 fun x2 s2 hh=>?_),fun b hb=>by cases hb⟩⟩;obtain⟨rfl,rfl⟩:=hh
      cases x2 with
      |exit i=>exact absurd ⟨i,rfl⟩ hx
      |_=>exact⟨rfl,rfl⟩
  |loop b=>
   have h:bB (goF mt sp g n b E H k) (.loop b) (goF mt sp g) n=.mk x E' H' k':=h
   cases hg:goF mt sp g n b E H k with
   |bad l=>rw[hg]at h;exact(Bn h).elim
   |mk x1 E1 H1 k1=>
    rw[hg]at h;obtain⟨a1,a2⟩:=ih _ _ _ _ _ _ _ _ _ hg;have h:ix x1 E1 H1 k1 (.loop b) (goF mt sp g) n=.mk x E' H' k':=h
    by_cases hx:x1=.normal
    . subst hx;have h:goF mt sp g n (.loop b) E1 H1 k1=.mk x E' H' k':=h;obtain⟨b1,b2⟩:=ih _ _ _ _ _ _ _ _ _ h;refine⟨Nat.le_trans a1 b1,fun m hm=>?_⟩;obtain⟨j,hj⟩:=(b2 m hm).2 b rfl;have hu:Un Tryz.prog b (CX x ⟨n,eF E',hF H' k' m⟩) (j+1) ⟨n,eF E,hF H k m⟩:=RA (AGo.mono (a2 m Ab).1 fun x2 s2 hh=>Ee hh (fun _=>hj) (fun hn=>absurd rfl hn));exact⟨AGo.unroll _ hu,fun b' hb=>by cases hb;exact⟨_,hu⟩⟩
    . have h:YR.mk x1 E1 H1 k1=.mk x E' H' k':=by cases x1<;>first|exact absurd rfl hx|exact h
      cases h
      refine⟨a1,fun m hm=>?_⟩;have hu:Un Tryz.prog b (CX x ⟨n,eF E',hF H' k' m⟩) 0 ⟨n,eF E,hF H k m⟩:=Rz (AGo.mono (a2 m hm).1 fun x2 s2 hh=>Ee hh (fun hn=>absurd hn hx) (fun _=>⟨rfl,rfl⟩));exact⟨AGo.unroll _ hu,fun b' hb=>by cases hb;exact⟨_,hu⟩⟩
  |scope b=>
   have h:YR.rec (motive:=fun _=>YR) iy (fun l=>.bad l) (goF mt sp g n b E H k)=.mk x E' H' k':=h
   cases hg:goF mt sp g n b E H k with
   |bad l=>rw[hg]at h;exact(Bn h).elim
   |mk x1 E1 H1 k1=>
    rw[hg]at h;obtain⟨a1,a2⟩:=ih _ _ _ _ _ _ _ _ _ hg;have h:iy x1 E1 H1 k1=.mk x E' H' k':=h
    by_cases hx:∃i,x1=.goto i
    . obtain⟨i,rfl⟩:=hx;exact(Bn h).elim
    . have h:YR.mk x1 E1 H1 k1=.mk x E' H' k':=by cases x1<;>first|exact absurd ⟨_,rfl⟩ hx|exact h
      cases h
      refine⟨a1,fun m hm=>⟨AGo.scope (AGo.mono (a2 m hm).1 fun x2 s2 hh=>?_),fun b hb=>by cases hb⟩⟩;obtain⟨rfl,rfl⟩:=hh
      cases x2 with
      |goto i=>exact absurd ⟨i,rfl⟩ hx
      |_=>exact⟨rfl,rfl⟩
  |region id rops dr=>
   have h:gq mt sp (fz36 n id) id rops.toList dr (goF mt sp g) n E H k=.mk x E' H' k':=h
   cases hz:fz36 n id with
   |none=>
    rw[hz]at h;obtain⟨a1,a2⟩:=NP hT hmt hmx hsp hgo (rops:=rops) h;exact⟨a1,fun m hm=>⟨a2 m hm,fun b hb=>by cases hb⟩⟩
   |some t=>
    rw[hz]at h;obtain⟨a1,a2⟩:=NP hT hmt hmx hsp hgo (rops:=rops) h;exact⟨a1,fun m hm=>⟨AGo.ghost (S2 (Nat.le_trans a1 hm)) (a2 m hm),fun b hb=>by cases hb⟩⟩
  |_=>exact(Bn h).elim
end
section
variable (mt : Nat -> String -> Option Nat) (sp : Nat -> Option Ni)
noncomputable def Sl(x:Exit)(fn:Func)(e:Ar×Aa):Option AV:=match endsOk x,resEv TI e.1 e.2 fn.results.toList with
  |true,some ys=>match(CQ ys).isPure with
    |true=>some (CQ ys)
    |false=>none
  |_,_=>none
noncomputable def xH(d:Nat)(r:YR)(fn:Func):Option AV:=match r with
  | .mk x E H k=>Sl x fn (frzL fn.ntmps k (DD (hF H k k) d (Fh (eF E) fn.results.toList)) (eF E) (hF H k k))
  | .bad _=>none
noncomputable def iC(d g f:Nat)(xs:List AV):Option AV:=match fnEv Tryz.prog f with
  |some (fn,c)=>match Nat.ble xs.length fn.ntmps with
    |true=>xH d (goF mt sp g fn.ntmps c (JA xs 0 .lf) .lf 0) fn
    |false=>none
  |none=>none
end
theorem Nl{mt:Nat->String->Option Nat}{sp:Nat->Option Ni}(hT:Bc Tryz.prog TI)(hmt:G9 Tryz.prog mt)(hmx:(Tryz.prog).follows .mixedOrders=true)(hsp:PA Tryz.prog sp)(d g:Nat){f:Nat}{xs:List AV}{r:AV}(h:iC mt sp d g f xs=some r):APure Tryz.prog f xs (fun r'=>r'=r):=by
 unfold iC at h;split at h
 . rename_i fn c hfn;obtain⟨f1,f2,f3⟩:=C2 hfn;split at h
   . rename_i hn;have hle:=Nat.le_of_ble_eq_true hn
     cases hg:goF mt sp g fn.ntmps c (JA xs 0 .lf) .lf 0 with
     |bad l=>rw[hg]at h;cases h
     |mk x E H k=>
      rw[hg]at h;have h:Sl x fn (frzL fn.ntmps k (DD (hF H k k) d (Fh (eF E) fn.results.toList)) (eF E) (hF H k k))=some r:=h;generalize hfz:frzL fn.ntmps k (DD (hF H k k) d (Fh (eF E) fn.results.toList)) (eF E) (hF H k k)=eh at h;obtain⟨e2,h2⟩:=eh;unfold Sl at h;split at h
      . rename_i ys hend hres;split at h
        . rename_i hp;simp only[Option.some.injEq]at h;subst h;have ha:=(((J5 hT hmt hmx hsp g _ _ _ _ _ _ _ _ _ hg).2 k (Nat.le_refl _))).1;rw[F4]at ha;have h0:Ghost ⟨fn.ntmps,C9 xs,hNew⟩ ⟨fn.ntmps,C9 xs,hF .lf 0 k⟩:=Ghost.of_sub (Sub.mk' (ESub.refl _) fun b o hb=>by
           by_cases hlt:b<k
           . rw[BM (Nat.zero_le _) hlt]at hb;cases hb;rfl
           . rw[CG (Nat.zero_le _) Ab]at hb;cases hb)
          refine APure.of_body hT f1 f2 (show xs.length+(fn.ntmps-xs.length)=fn.ntmps by omega) (AGo.ghost h0 (AGo.mono (Nm ha (D7 _ hfz)) fun x1 s1 hh=>?_));obtain⟨rfl,rfl⟩:=hh
          cases x1<;>simp[endsOk]at hend
          . exact⟨ys,BP hres,rfl,hp⟩
          . exact⟨ys,BP hres,rfl,hp⟩
        . cases h
      . cases h
   . cases h
 . cases h
theorem PE{P:Program}{f:FuncId}{xs:List AV}{R:AV->Prop}{h:Aa}(hp:xs.all AV.isPure=true)(hc:APure P f xs R):ACall P f xs h (fun r h1=>R r/\h1=h):=fun H ι w vs hra hr=>by
 have hra':RelAll H AE xs vs:=⟨hra.1,fun j x v h1 h2=>DE (List.all_eq_true.1 hp x (List.mem_of_getElem? h1)) (hra.2 j x v h1 h2)⟩;refine(hc H w vs hra' (J2 hr)).mono fun en w' hh=>?_
 obtain⟨v,r',H',rfl,hR,k1,k2⟩:=hh;obtain⟨u1,u2⟩:=hr.grown k2;exact⟨v,r',h,H',ι,rfl,⟨hR,rfl⟩,k1.mono (KLe.refl _) (LLe.none _),u1,u2⟩
def dJ:AV->AV->Bool
  | .int k a,.int k' b=>decide (k=k')&&decide (a=b)
  | .bool a,.bool b=>a==b
  | .str a,.str b=>decide (a.data.toList=b.data.toList)
  | .nil,.nil=>true
  | .nilp,.nilp=>true
  | .val .nilFunc,.val .nilFunc=>true
  | .val .nilIface,.val .nilIface=>true
  | .val (.map none),.val (.map none)=>true
  |_,_=>false
def gy:Nat->AV->AV->Bool
  |0,x,y=>dJ x y
  |d+1,x,y=>match x,y with
    | .lst ex es,.lst ex' es'=>(ex==ex')&&(Nat.beq es.length es'.length&&(es.zip es').all fun p=>Nat.beq p.1.length p.2.length&&(p.1.zip p.2).all fun q=>gy d q.1 q.2)
    | .agg cs,.agg cs'=>Nat.beq cs.length cs'.length&&(cs.zip cs').all fun q=>gy d q.1 q.2
    |x,y=>dJ x y
theorem Ix{α:Type}{p:α->α->Bool}(hp:∀a b,p a b=true->a=b):∀{l l':List α},l.length=l'.length->((l.zip l').all fun q=>p q.1 q.2)=true->l=l'
 | [],[],_,_=>rfl
 | [],_::_,h,_=>by cases h
 |_::_,[],h,_=>by cases h
 |a::l,b::l',h,h2=>by
  rw[List.zip_cons_cons,List.all_cons,Bool.and_eq_true]at h2;rw[hp a b h2.1,Ix hp PI h2.2]
theorem Og{x y:AV}(h:dJ x y=true):x=y:=by
 unfold dJ at h;split at h
 . rw[Bool.and_eq_true,decide_eq_true_eq,decide_eq_true_eq]at h;rw[h.1,h.2]
 . rw[beq_iff_eq]at h;rw[h]
 . rw[decide_eq_true_eq]at h;rename_i a b;have:a=b:=by apply ByteArray.ext;exact Array.ext' h
   rw[this]
 . rfl
 . rfl
 . rfl
 . rfl
 . rfl
 . cases h
theorem Rh:∀(d:Nat) (x y:AV),gy d x y=true->x=y
 |0,x,y,h=>Og h
 |d+1,x,y,h=>by
  have ih:=Rh d;unfold gy at h;split at h
  . rw[Bool.and_eq_true,Bool.and_eq_true,beq_iff_eq]at h;rw[h.1,Ix (p:=fun(a b:List AV)=>Nat.beq a.length b.length&&(a.zip b).all fun q=>gy d q.1 q.2) (fun a b hh=>by
     rw[Bool.and_eq_true]at hh;exact Ix ih (Nat.eq_of_beq_eq_true hh.1) hh.2) (Nat.eq_of_beq_eq_true h.2.1) h.2.2]
  . rw[Bool.and_eq_true]at h;rw[Ix ih (Nat.eq_of_beq_eq_true h.1) h.2]
  . exact Og h
structure Kn where
  f:Nat
  xs:List AV
  r:AV
noncomputable def knFind(l:List Kn)(f:Nat)(xs:List AV):Option AV:=List.rec (motive:=fun _=>Option AV) none (fun a _ ih=>Bool.rec (motive:=fun _=>Option AV) ih (some a.r) (and3 (Nat.beq a.f f) (Nat.beq a.xs.length xs.length) ((a.xs.zip xs).all fun q=>gy 12 q.1 q.2))) l
theorem KE:∀{l:List Kn} {f:Nat} {xs:List AV} {r:AV},knFind l f xs=some r->∃a∈l,a.f=f/\a.xs=xs/\a.r=r
 | [],f,xs,r,h=>by cases h
 |a::l,f,xs,r,h=>by
  have h:Bool.rec (motive:=fun _=>Option AV) (knFind l f xs) (some a.r) (and3 (Nat.beq a.f f) (Nat.beq a.xs.length xs.length) ((a.xs.zip xs).all fun q=>gy 12 q.1 q.2))=some r:=h
  cases c:and3 (Nat.beq a.f f) (Nat.beq a.xs.length xs.length) ((a.xs.zip xs).all fun q=>gy 12 q.1 q.2)with
  |false=>
   rw[c]at h;obtain⟨b,b1,b2⟩:=KE h;exact⟨b,by simp[b1],b2⟩
  |true=>
   rw[c]at h;obtain⟨c1,c2,c3⟩:=Bq c;exact⟨a,by simp,Nat.eq_of_beq_eq_true c1,Ix (Rh 12) (Nat.eq_of_beq_eq_true c2) c3,Option.some.inj h⟩
noncomputable def gl(o:Option AV)(H:TH)(k f:Nat):YC:=Option.rec (motive:=fun _=>YC) (.bad [f,8884]) (fun r=>.mk r H k) o
noncomputable def spKn(l:List Kn)(f:Nat):Option Ni:=Bool.rec (motive:=fun _=>Option Ni) none (some fun _ xs H k=>gl (knFind l f xs) H k f) (l.any fun a=>Nat.beq a.f f)
def A2(P:Program)(l:List Kn):Prop:=∀a∈l,(∃p,fnEv P a.f=some p)/\a.xs.all AV.isPure=true/\APure P a.f a.xs (fun r=>r=a.r)
theorem br{P:Program}{l:List Kn}(h:A2 P l):PA P (spKn l):=by
 intro f s hs go _ xs H k;unfold spKn at hs
 cases c:l.any fun a=>Nat.beq a.f f with
 |false=>rw[c]at hs;cases hs
 |true=>
  rw[c]at hs
  cases hs
  show Rt P f xs H k (gl (knFind l f xs) H k f)
  cases hk:knFind l f xs with
  |none=>exact True.intro
  |some r=>
   obtain⟨a,a1,rfl,rfl,rfl⟩:=KE hk;obtain⟨b1,b2,b3⟩:=h a a1;exact⟨b1,Nat.le_refl _,fun m _=>(PE b2 b3)⟩
theorem AOpsF.inn{P:Program}{Q:Exit->Ac->Option AV->Prop}{s:Ac}{x:Option AV}{ops:Array Oper}{o:Oper}{rest:List Oper}(hg:Av ops o s.env=some true)(hd:∀t,o.dst=some t->t<s.n)
 (ho:OCallR P o s.env s.h (fun r hn=>AOpsF P ops rest ⟨s.n,Cy s.env o.dst (some r),hn⟩ x Q)):AOpsF P ops (o::rest) s x Q:=by
 intro H ι a w hs;unfold wpList;rw[FA hs hg];simp only[if_true];refine .inl (EN (R:=fun v w'=>∃r hn H' ι',AOpsF P ops rest ⟨s.n,Cy s.env o.dst (some r),hn⟩ x Q/\Rel H' ι' r v/\HeapRel H' ι' hn w'/\Step H ι s.h w H' ι' hn w')
  (Oper.wp_mono (fun a' w' hx=>?_) (ho H ι {a with defers:=[]} w s.n _ hs.sim)) (fun v w' hx=>?_))
 . obtain⟨v,r,hn,H',ι',h0,h1,h2,h3,h4⟩:=hx;exact⟨v,h1,r,hn,H',ι',h0,h2,h3,h4⟩
 . obtain⟨r,hn,H',ι',h0,h1,h2,h3⟩:=hx;have hs':=hs.put (d:=o.dst) (r:=some r) h2 h3 (fun y e=>by cases e;exact h1) hd;exact IC hs.sim.heap h2 h3 _ _ _ (h0 H' ι' _ w' hs')
abbrev Fr(l:Nat):Fence:=Fence.wide.inRound l
section
variable {P : Program} {l n : Nat}
theorem Wz{f:FuncId}{args:Array Value}{w:World}{R:Ending->World->Prop}(h:Calls P f args w R):CallsIn (Fr l) n P f args w R:=callsIn_wide (n:=n).2 h
theorem XL{row:String}{args:Array Value}{w:World}{R:Value->World->Prop}(h:Rows P row args w R):RowsIn (Fr l) n P row args w R:=fun c cs _=>
 let ⟨v,w',r,s⟩:=h c cs
 ⟨v,w',r,stepsIn_wide.2 s⟩
def C1(o:Oper):Bool:=match o.op with
  | .defer _=>false
  |_=>true
theorem Ua{o:Oper}{a:Act}{w:World}{N:Act->World->Prop}{Q:Exit->Act->World->Prop}(hd:C1 o=true)(h:o.wp P a w N Q):o.wpIn (Fr l) n P a w N Q:=by
 refine⟨fun _ _=>trivial,?_⟩;rw[Oper.semAt_eq _ _ _ (fun c e=>by unfold C1 at hd;rw[e]at hd;cases hd)];unfold Oper.wp at h;generalize(execOp a.eval o).run P w=res at h|-
 cases res with
 |ok x w'=>
  cases x with
  |value v=>exact h
  |skip=>exact h
  |defer d=>exact h
  |enter f args=>exact⟨fun e=>(by cases e),Wz h⟩
  |row r args=>exact⟨fun e=>(by cases e),XL h⟩
  |_=>exact h.elim
 |halt x w'=>
  cases x with
  |panic v=>exact h
  |_=>exact h.elim
theorem Uk{ops:Array Oper}{Q:Exit->Act->World->Prop}(hq:¬LetsOut Q):∀(L:List Oper),L.all C1=true->∀{a:Act} {w:World},wpList P ops Q L a w->wpListIn (Fr l) n P ops Q L a w
 | [],_,_,_,h=>h
 |o::L,hd,a,w,h=>by
  simp only[List.all_cons,Bool.and_eq_true]at hd;have ih:=@Uk ops Q hq L hd.2;unfold wpList at h;unfold wpListIn
  by_cases hw:Region.wanted o (yielded ops a.tmps)=true
  . rw[if_pos hw]at h|-;rcases h with h|⟨_,h⟩
    . exact Ua hd.1 (Oper.wp_mono (fun a' w' hx=>ih hx) h)
    . exact absurd h hq
  . rw[if_neg hw]at h|-;exact⟨fun _ _=>trivial,ih h⟩
def AGoR(P:Program)(l n:Nat)(c:Code)(s:Ac)(Q:Exit->Ac->Prop):Prop:=
  ∀H ι a w,Sim H ι s a w->c.wpIn (Fr l) n P (Post H ι s.h w Q) a w
variable {s s' : Ac} {Q : Exit -> Ac -> Prop}
theorem AGoR.skip(h:Q .normal s):AGoR P l n .skip s Q:=fun H ι a w hs=>wpIn_skip ⟨s,H,ι,h,hs,Step.refl _ _ _ _⟩
theorem AGoR.exit{id:Nat}(h:Q (.exit id) s):AGoR P l n (.exit id) s Q:=fun H ι a w hs=>wpIn_exit ⟨s,H,ι,h,hs,Step.refl _ _ _ _⟩
theorem AGoR.mono{c:Code}{Q':Exit->Ac->Prop}(h:AGoR P l n c s Q)(hq:∀e s,Q e s->Q' e s):AGoR P l n c s Q':=fun H ι a w hs=>wpIn_mono (h H ι a w hs) fun e a' w' hp=>hp.mono (hq e)
theorem AGoR.seq{x y:Code}(h:AGoR P l n x s (Bk (fun s'=>AGoR P l n y s' Q) Q)):AGoR P l n (.seq x y) s Q:=by
 intro H ι a w hs;refine wpIn_seq (wpIn_mono (h H ι a w hs) fun e a' w' hp=>?_)
 cases e with
 |normal=>
  obtain⟨s',H',ι',q,r,t⟩:=hp;exact wpIn_mono (q H' ι' a' w' r) fun e a'' w'' hp'=>Post.step hs.heap r.heap t hp'
 |_=>exact hp
theorem AGoR.cond{t:Nat}{x y:Code}{b:Bool}(he:s.env t=some (.bool b))(h1:b=true->AGoR P l n x s Q)(h2:b=false->AGoR P l n y s Q):AGoR P l n (.cond (.tmp t) x y) s Q:=by
 intro H ι a w hs;obtain⟨v,hv,hr⟩:=hs.env t _ he
 cases hr
 have hev:a.eval (.tmp t)=.bool b:=by simp[Act.eval,hv]
 exact wpIn_cond_split hev (fun e=>h1 e H ι a w hs) (fun e=>h2 e H ι a w hs)
theorem AGoR.cond_true{t:Nat}{x y:Code}(b:Bool)(he:s.env t=some (.bool b))(hb:b=true)(h:AGoR P l n x s Q):AGoR P l n (.cond (.tmp t) x y) s Q:=
 AGoR.cond he (fun _=>h) aX
theorem AGoR.cond_false{t:Nat}{x y:Code}(b:Bool)(he:s.env t=some (.bool b))(hb:b=false)(h:AGoR P l n y s Q):AGoR P l n (.cond (.tmp t) x y) s Q:=
 AGoR.cond he aX (fun _=>h)
theorem AGoR.block{id:Nat}{c:Code}(h:AGoR P l n c s (JD id Q)):AGoR P l n (.block id c) s Q:=by
 intro H ι a w hs;refine wpIn_block (wpIn_mono (h H ι a w hs) fun e a' w' hp=>?_);exact kK
theorem AGoR.ghost{c:Code}(hg:Ghost s s')(h:AGoR P l n c s' Q):AGoR P l n c s Q:=fun H ι a w hs=>by
 obtain⟨H',ι',h1,h2⟩:=hg H ι a w hs;exact wpIn_mono (h H' ι' a w h1) fun e a' w' hp=>Post.step hs.heap h1.heap h2 hp
theorem AGoR.sub{c:Code}(hg:Sub s' s)(h:AGoR P l n c s' Q):AGoR P l n c s Q:=AGoR.ghost (.of_sub hg) h
theorem AGoR.split{c:Code}{m:Nat}{e:Ar}{h:Aa}(d:Nat){b:Bool}(he:e d=some (.bool b))(h1:b=true->AGoR P l n c ⟨m,Ad e d (.bool true),h⟩ Q)(h2:b=false->AGoR P l n c ⟨m,Ad e d (.bool false),h⟩ Q):AGoR P l n c ⟨m,e,h⟩ Q:=by
 exact aS
theorem AGoR.loop{γ:Type}{c:Code}(I:γ->Ac->Prop)(μ:γ->Nat)(g0:γ)(h0:I g0 s)
 (round:∀g s,I g s->AGoR P l n c s (Bk (fun s'=>∃g',I g' s'/\μ g'<μ g) Q)):AGoR P l n (.loop c) s Q:=by
 intro H ι a w hs b k cs hro hb hr;have key:∀m g s1 H1 ι1 a1 w1,μ g=m->I g s1->Sim H1 ι1 s1 a1 w1->Step H ι s.h w H1 ι1 s1.h w1->
  ∃e a' w',Post H ι s.h w Q e a' w'/\ArrivesIn (Machine.fenced P (Fr l)) P (lone (b.atR a1 (.code c:: .inLoop c::k)) cs w1) b k cs e a' w':=by
  intro m
  induction m using Nat.strongRecOn with
  |_ m ih=>
   intro g s1 H1 ι1 a1 w1 hn hI hs1 hst;obtain⟨e,a₂,w₂,hq,harr⟩:=round g s1 hI H1 ι1 a1 w1 hs1 b (.inLoop c::k) cs hro hb hr;obtain⟨s2,H2,ι2,q,r,t⟩:=hq;have t':=hst.trans hs.heap hs1.heap t
   cases e with
   |normal=>
    obtain⟨g',hI',hlt⟩:=q;obtain⟨e₂,a₃,w₃,hq₂,harr₂⟩:=ih (μ g') (hn▸hlt) g' s2 H2 ι2 a₂ w₂ rfl hI' r t';exact eR
   |exit id=>exact⟨.exit id,a₂,w₂,⟨s2,H2,ι2,q,r,t'⟩,.pass (x:=.inLoop c) rfl (fun _ _=>.inl Az) harr⟩
   |goto t=>exact⟨.goto t,a₂,w₂,⟨s2,H2,ι2,q,r,t'⟩,.pass (x:=.inLoop c) rfl (fun _ _=>.inl Az) harr⟩
   |ret=>exact⟨.ret,a₂,w₂,⟨s2,H2,ι2,q,r,t'⟩,.pass (x:=.inLoop c) rfl (fun _ _=>.inl Az) harr⟩
   |panic ch=>exact⟨.panic ch,a₂,w₂,⟨s2,H2,ι2,q,r,t'⟩,.pass (x:=.inLoop c) rfl (fun _ _=>.inl Az) harr⟩
   |outgrown=>exact⟨.outgrown,a₂,w₂,⟨s2,H2,ι2,q,r,t'⟩,.pass (x:=.inLoop c) rfl (fun _ _=>.inl Az) harr⟩
 obtain⟨e,a',w',hq,harr⟩:=key (μ g0) g0 s H ι a w rfl h0 hs (Step.refl _ _ _ _);exact⟨e,a',w',hq,.of_steps (.one (fenced_calm hb hr rfl) stepR_loop) harr⟩
theorem AGoR.loopI{γ:Type}{c:Code}(inv:γ->Ac)(F:γ->Prop)(μ:γ->Nat)(g0:γ)(h0:Sub (inv g0) s)(hF:F g0)
 (round:∀g,F g->AGoR P l n c (inv g) (Bk (fun s'=>∃g',Sub (inv g') s'/\F g'/\μ g'<μ g) Q)):AGoR P l n (.loop c) s Q:=
 AGoR.loop (fun g s'=>Sub (inv g) s'/\F g) μ g0 ⟨h0,hF⟩ fun g s' hs=>AGoR.sub hs.1 ((round g hs.2).mono fun e s'' hq=>by
  cases e with
  |normal=>obtain⟨g',h1,h2,h3⟩:=hq;exact⟨g',⟨h1,h2⟩,h3⟩
  |_=>exact hq)
theorem AGoR.region{id:Nat}{ops:Array Oper}(hd:ops.toList.all C1=true)(h:AOps P ops ops.toList s (fun s'=>Q .normal s')):AGoR P l n (.region id ops false) s Q:=fun H ι a w hs=>by
 have hpost:∀e a2 w2,Post H ι s.h w (Bk (fun s'=>Q .normal s') fun _ _=>False) e a2 w2->Post H ι s.h w Q e a2 w2:=fun e a2 w2 hp=>by
  exact eC
 have hlo:¬LetsOut (Post H ι s.h w (Bk (fun s'=>Q .normal s') fun _ _=>False)):=fun⟨a,w,s',H',ι',q,r⟩=>q
 exact wpIn_mono (wpIn_region_list (Uk hlo _ hd (h H ι a w hs))) hpost
end
section
variable {P : Program} {Q : Exit -> Ac -> Option AV -> Prop} {s : Ac} {x : Option AV}
theorem AOpsF.skip2{ops:Array Oper}{o:Oper}{rest:List Oper}(hg:Av ops o s.env=some false)(hd:∀t,o.dst=some t->t<s.n)(h:AOpsF P ops rest ⟨s.n,Cy s.env o.dst (some (.tup [])),s.h⟩ x Q):AOpsF P ops (o::rest) s x Q:=by
 intro H ι a w hs;unfold wpList;have hw:Region.wanted o (yielded ops a.tmps)=false:=AN hs.sim hg;rw[hw];simp only[Bool.false_eq_true,if_false];exact h H ι _ w (hs.put (d:=o.dst) (r:=some (.tup [])) hs.sim.heap (Step.refl _ _ _ _) Xd hd)
theorem AGoF.mono{c:Code}{Q':Exit->Ac->Option AV->Prop}(h:AGoF P c s x Q)(hq:∀e s x,Q e s x->Q' e s x):AGoF P c s x Q':=fun H ι a w hs=>
 wp_mono (h H ι a w hs) fun e a' w' hp=>by
  obtain⟨s',x',H',ι',q,r,t⟩:=hp;exact⟨s',x',H',ι',hq _ _ _ q,r,t⟩
theorem AGoF.cond{t:Nat}{a b:Code}(v:Bool)(he:s.env t=some (.bool v))(h:AGoF P (bif v then a else b) s x Q):AGoF P (.cond (.tmp t) a b) s x Q:=by
 intro H ι c w hs;obtain⟨u,hu,hr⟩:=hs.sim.env t _ he
 cases hr
 have hev:c.eval (.tmp t)=.bool v:=by
  have hu:c.tmps[t]?=some (.bool v):=hu;simp[Act.eval,hu]
 cases v with
 |true=>exact wp_cond_split hev (fun _=>h H ι c w hs) JH
 |false=>exact wp_cond_split hev JH (fun _=>h H ι c w hs)
theorem Tu{id n:Nat}{ops:Array Oper}{e:Ar}{h:Aa}{cs:List XRec}{e':Ar}{h':Aa}(hm:P.follows .mixedOrders=true)(h1:XChain P ops n ops.toList e h cs e' h')(h2:ep ops cs)(h3:Q .normal ⟨n,e',h'⟩ x):AGoF P (.region id ops true) ⟨n,e,h⟩ x Q:=by
 intro H ι a w hs;have hs0:=hs.sim;refine wp_region_any hm (Dg (Q:=PD a.defers (Post H ι h w (Bk (fun s'=>s'=⟨n,e',h'⟩) fun _ _=>False))) (fun ex a2 w2 hp=>?_) _ _ _ _ ?_)
 . exact ke hs hp fun s' q=>by
    cases ex with
    |normal=>rw[show s'=_ from q];exact h3
    |_=>exact q.elim
 have hgrow:∀rb,rb<w.heap.size->({w with drawn:=w.drawn+1}:World).heap[rb]?=w.heap[rb]?:=fun _ _=>rfl
 have hr':HeapRel H ι h {w with drawn:=w.drawn+1}:=hs0.heap.grow hgrow;have hst:Step H ι h w H ι h {w with drawn:=w.drawn+1}:=Step.grow hgrow (Nat.le_refl _) rfl rfl;have hm0:∀{V:Type} (l:List (Upd V)) (g:Nat->V),AP (fun i=>(Array.replicate ops.size false).getD i false) l 0 g=g:=fun l g=>funext fun x=>CS fun i u _ _=>B2 _ _
 exact MS (D:=a.defers) (K:=fun s'=>s'=⟨n,e',h'⟩) h1 h2 rfl hs0.heap ops.size (Array.replicate ops.size false) H ι a {w with drawn:=w.drawn+1}
  ⟨by simp,fun i hi=>by rw[B2]at hi;cases hi⟩ (by unfold JK;simp) rfl (by rw[hm0,hm0];exact⟨hs0.n,hs0.d,hs0.env,hr'⟩) (by rw[hm0];exact hst)
end
structure OpsJ(P:Program)(ops:Array Oper)(n:Nat)(J:List Oper->Ar->Aa->Prop):Prop where
  step:∀{o:Oper} {rest:List Oper} {e:Ar} {h:Aa} {R:List Nat} {W:List (Nat×AObj)} {r:Option AV},C1 o=true->Av ops o e=some true->OLoc P o e h R W r->(∀t,o.dst=some t->t<n)->J rest (Cy e o.dst r) (AA h W)->J (o::rest) e h
  inn:∀{o:Oper} {rest:List Oper} {e:Ar} {h:Aa},C1 o=true->Av ops o e=some true->(∀t,o.dst=some t->t<n)->OCallR P o e h (fun r hn=>J rest (Cy e o.dst (some r)) hn)->J (o::rest) e h
  skip:∀{o:Oper} {rest:List Oper} {e:Ar} {h:Aa},Av ops o e=some false->(∀t,o.dst=some t->t<n)->J rest (Cy e o.dst (some (.tup []))) h->J (o::rest) e h
theorem OpsJ.ofF{P:Program}{ops:Array Oper}{n:Nat}{df:Option AV}{Q:Exit->Ac->Option AV->Prop}:OpsJ P ops n (fun l e h=>AOpsF P ops l ⟨n,e,h⟩ df Q):=
 ⟨fun _ hg ho hd h=>AOpsF.step hg ho hd h,fun _ hg hd ho=>AOpsF.inn hg hd ho,fun hg hd h=>AOpsF.skip2 hg hd h⟩
section
variable {mt : Nat -> String -> Option Nat} {n : Nat} {ops : List Oper} {cl : CL}
theorem G7(hT:Bc Tryz.prog TI)(hmt:G9 Tryz.prog mt)(hcl:cl.Ok Tryz.prog):∀(l:List Oper) {acc:List GL} {E E':TE} {H H':TH} {k k':Nat} {x:Exit},opsF mt endS l n ops cl acc E H k=.mk x E' H' k'->l.all C1=true->
 x=.normal/\k<=k'/\∀m,k'<=m->∀(rest:List Oper) (J:List Oper->Ar->Aa->Prop),OpsJ Tryz.prog ⟨ops⟩ n J->J rest (eF E') (hF H' k' m)->J (l++rest) (eF E) (hF H k m)
 | [],acc,E,E',H,H',k,k',x,h,_=>by
  have h:YR.mk .normal E H k=YR.mk x E' H' k':=h
  cases h
  exact⟨rfl,Nat.le_refl _,fun m _ rest J hJ hQ=>hQ⟩
 |o::l,acc,E,E',H,H',k,k',x,h,hnd=>by
  rw[List.all_cons,Bool.and_eq_true]at hnd;have h:P9 mt o l (opsF mt endS l) n ops cl acc E H k=.mk x E' H' k':=h;obtain⟨hd,h|h⟩:=H8 hT hcl h
  . obtain⟨hg,r,H1,k1,i,hs,h⟩:=h;obtain⟨hx,hk,ha⟩:=G7 hT hmt hcl l h hnd.2;refine⟨hx,Nat.le_trans hs.le hk,fun m hm rest J hJ hQ=>?_⟩;have ha:=ha m hm rest J hJ hQ;rw[Fm hs.rnone]at ha;have hd':∀t,o.dst=some t->t<n:=fun t e=>Nat.blt_eq.mp (hd t e)
    cases hs with
    |val R v hq=>exact hJ.step hnd.1 hg (QLoc.loc (hq m)) hd' ha
    |new R ob v hq=>
     rw[Pl Ab]at ha;exact hJ.step hnd.1 hg (hq m Ab) hd' ha
    |upd R b ob r hb hr hq=>
     rw[Mq hb]at ha;exact hJ.step hnd.1 hg (hq m) hd' ha
    |call f xs v H1 k1 p hc hf hkk hcall=>
     obtain⟨fn,c⟩:=p;obtain⟨f1,f2,f3⟩:=C2 hf;have ho:=FC hmt hc f1 f3 (by rw[f2];rfl) (hcall m Ab);refine hJ.inn hnd.1 hg hd' (OCallR.mono ho fun r' h' hh=>?_);obtain⟨rfl,rfl⟩:=hh;exact ha
  . obtain⟨hg,h⟩:=h;obtain⟨hx,hk,ha⟩:=G7 hT hmt hcl l h hnd.2;refine⟨hx,hk,fun m hm rest J hJ hQ=>?_⟩;have ha:=ha m hm rest J hJ hQ;have e:eF (FO o.dst (.tup []) E)=Cy (eF E) o.dst (some (.tup [])):=Fm (r:=some (.tup [])) JH;rw[e]at ha;exact hJ.skip hg (fun t e=>Nat.blt_eq.mp (hd t e)) ha
end
inductive YD where
  |mk (x:Exit) (E:TE) (H:TH) (k:Nat) (df:Option AV)
  |bad (l:List Nat)
noncomputable def jR(o:Oper)(E:TE):Option AV:=match o.op,o.dst,o.guard with
  | .defer ⟨.value y,args,_⟩,none,none=>match args.toList,lk y E with
    | [],some (.fn f xs cs)=>some (.fn f xs cs)
    |_,_=>none
  |_,_,_=>none
theorem Ws{o:Oper}{E:TE}{v:AV}(h:jR o E=some v):∃y tys f xs cs,o.op=.defer {callee:=.value y,args:= #[],argTypes:=tys}/\o.dst=none/\o.guard=none/\look (eF E) y=some (.fn f xs cs)/\v=.fn f xs cs:=by
 unfold jR at h;split at h
 . rename_i y args tys h1 h2 h3;split at h
   . rename_i f xs cs h4 h5
     cases h
     refine⟨y,tys,f,xs,cs,?_,h2,h3,by rw[<-A1];exact h5,rfl⟩;exact fk
   . cases h
 . cases h
section
variable (mt : Nat -> String -> Option Nat)
noncomputable def Yr(cl:CL)(n:Nat)(ops:List Oper):List Oper->TE->TH->Nat->Option AV->YD
  | [],E,H,k,df=>.mk .normal E H k df
  |o::l,E,H,k,df=>match C1 o with
    |false=>match df,jR o E with
      |none,some v=>Yr cl n ops l E H k (some v)
      |_,_=>.bad [3331]
    |true=>match opsF mt endS [o] n ops cl [] E H k with
      | .mk _ E1 H1 k1=>Yr cl n ops l E1 H1 k1 df
      | .bad l=>.bad l
noncomputable def kn(g:GF)(cl:CL):Nat->Nat->Code->TE->TH->Nat->Option AV->YD
  |0,_,_,_,_,_,_=>.bad [3332]
  |d+1,n,c,E,H,k,df=>match c with
    | .seq a b=>match kn g cl d n a E H k df with
      | .mk .normal E1 H1 k1 df1=>kn g cl d n b E1 H1 k1 df1
      | .mk x E1 H1 k1 df1=>.mk x E1 H1 k1 df1
      | .bad l=>.bad l
    | .cond (.tmp t) a b=>match lkT t E with
      |some (.bool v)=>kn g cl d n (bif v then a else b) E H k df
      |_=>.bad [3334]
    | .region id ops false=>match Yr mt cl n ops.toList ops.toList E H k df with
      | .mk x E1 H1 k1 df1=>.mk x E1 H1 k1 df1
      | .bad l=>.bad (id::l)
    | .region id ops true=>match opsF mt endD ops.toList n ops.toList cl [] E H k with
      | .mk x E1 H1 k1=>.mk x E1 H1 k1 df
      | .bad l=>.bad (id::l)
    | .ret=>.mk .ret E H k df
    | .skip=>.mk .normal E H k df
    |c=>match df,g n c E H k with
      |none,.mk x E1 H1 k1=>.mk x E1 H1 k1 none
      |_,_=>.bad [3333]
end
def yT(x:Exit)(s:Ac)(df:Option AV):Exit->Ac->Option AV->Prop:=fun x1 s1 d1=>x1=x/\s1=s/\d1=df
section
variable {mt : Nat -> String -> Option Nat} {n : Nat} {ops : List Oper} {cl : CL}
theorem Fp{l:List Nat}{x:Exit}{E:TE}{H:TH}{k:Nat}{df:Option AV}(h:YD.bad l=YD.mk x E H k df):False:=by cases h
theorem OY(hT:Bc Tryz.prog TI)(hmt:G9 Tryz.prog mt)(hcl:cl.Ok Tryz.prog):∀(l:List Oper) {E E':TE} {H H':TH} {k k':Nat} {x:Exit} {df df':Option AV},Yr mt cl n ops l E H k df=.mk x E' H' k' df'->
 k<=k'/\∀m,k'<=m->AOpsF Tryz.prog ⟨ops⟩ l ⟨n,eF E,hF H k m⟩ df (yT x ⟨n,eF E',hF H' k' m⟩ df')
 | [],E,E',H,H',k,k',x,df,df',h=>by
  cases h
  exact⟨Nat.le_refl _,fun m _=>AOpsF.nil ⟨rfl,rfl,rfl⟩⟩
 |o::l,E,E',H,H',k,k',x,df,df',h=>by
  unfold Yr at h;split at h
  . split at h
    . rename_i v hv;obtain⟨y,tys,f,xs,cs,h1,h2,h3,h4,rfl⟩:=Ws hv;obtain⟨hk,ha⟩:=OY hT hmt hcl l h;exact⟨hk,fun m hm=>AOpsF.d (by unfold Av;rw[h3]) h1 h2 h4 (ha m hm)⟩
    . exact(Fp h).elim
  . rename_i hnd;split at h
    . rename_i x1 E1 H1 k1 h1;obtain⟨_,hk1,ha1⟩:=G7 hT hmt hcl [o] h1 (by simp[hnd]);obtain⟨hk,ha⟩:=OY hT hmt hcl l h;exact⟨Nat.le_trans hk1 hk,fun m hm=>ha1 m (Nat.le_trans hk hm) l _ .ofF (ha m hm)⟩
    . exact(Fp h).elim
theorem ZB{g:GF}(hT:Bc Tryz.prog TI)(hmt:G9 Tryz.prog mt)(hmx:(Tryz.prog).follows .mixedOrders=true)(hg:g.Ok Tryz.prog)(hcl:cl.Ok Tryz.prog):∀(d n:Nat) (c:Code) (E:TE) (H:TH) (k:Nat) (df:Option AV) (x:Exit) (E':TE) (H':TH) (k':Nat) (df':Option AV),kn mt g cl d n c E H k df=.mk x E' H' k' df'->
 k<=k'/\∀m,k'<=m->AGoF Tryz.prog c ⟨n,eF E,hF H k m⟩ df (yT x ⟨n,eF E',hF H' k' m⟩ df')
 |0,n,c,E,H,k,df,x,E',H',k',df',h=>(Fp h).elim
 |d+1,n,c,E,H,k,df,x,E',H',k',df',h=>by
  have ih:=ZB hT hmt hmx hg hcl d;unfold kn at h;split at h
  . rename_i a b;split at h
    . rename_i E1 H1 k1 df1 h1;obtain⟨a1,a2⟩:=ih _ _ _ _ _ _ _ _ _ _ _ h1;obtain⟨b1,b2⟩:=ih _ _ _ _ _ _ _ _ _ _ _ h;refine⟨Nat.le_trans a1 b1,fun m hm=>AGoF.seq (AGoF.mono (a2 m (Nat.le_trans b1 hm)) fun e s1 x1 hh=>?_)⟩;obtain⟨rfl,rfl,rfl⟩:=hh;exact b2 m hm
    . rename_i x1 E1 H1 k1 df1 hx h1
      cases h
      obtain⟨a1,a2⟩:=ih _ _ _ _ _ _ _ _ _ _ _ h1;refine⟨a1,fun m hm=>AGoF.seq (AGoF.mono (a2 m hm) fun e s1 x1 hh=>?_)⟩;exact ft
    . exact(Fp h).elim
  . rename_i t a b;split at h
    . rename_i v hv;obtain⟨b1,b2⟩:=ih _ _ _ _ _ _ _ _ _ _ _ h;exact⟨b1,fun m hm=>AGoF.cond v hv (b2 m hm)⟩
    . exact(Fp h).elim
  . rename_i id rops;split at h
    . rename_i x1 E1 H1 k1 df1 h1
      cases h
      obtain⟨a1,a2⟩:=OY hT hmt hcl _ h1;exact⟨a1,fun m hm=>AGoF.region (a2 m hm)⟩
    . exact(Fp h).elim
  . rename_i id rops;split at h
    . rename_i x1 E1 H1 k1 h1
      cases h
      obtain⟨rfl,hk,is,hchk,ha⟩:=K1 hT hmt hcl _ h1;refine⟨hk,fun m hm=>?_⟩;obtain⟨cs,c1,c2⟩:=ha m hm;exact Tu hmx c1 (Om c2 hchk) ⟨rfl,rfl,rfl⟩
    . exact(Fp h).elim
  . cases h
    exact⟨Nat.le_refl _,fun m hm=>AGoF.ret ⟨rfl,rfl,rfl⟩⟩
  . cases h
    exact⟨Nat.le_refl _,fun m hm=>AGoF.skip ⟨rfl,rfl,rfl⟩⟩
  . split at h
    . rename_i x1 E1 H1 k1 h1
      cases h
      obtain⟨a1,a2⟩:=hg _ _ _ _ _ _ _ _ _ h1;refine⟨a1,fun m hm=>AGoF.of (AGo.mono (a2 m hm) fun e s1 hh=>?_)⟩;obtain⟨rfl,rfl⟩:=hh;exact⟨rfl,rfl,rfl⟩
    . exact(Fp h).elim
end
noncomputable def bJ(o:Oper):Option Nat:=match o.op,o.dst,o.guard with
  | .call ⟨.builtin .recover,args,_⟩,some d,none=>match args.toList with
    | []=>some d
    |_=>none
  |_,_,_=>none
theorem Vn{o:Oper}{d:Nat}(h:bJ o=some d):∃tys,o.op=.call {callee:=.builtin .recover,args:= #[],argTypes:=tys}/\o.dst=some d/\o.guard=none:=by
 unfold bJ at h;split at h
 . rename_i args tys d' h1 h2 h3;split at h
   . rename_i h4
     cases h
     refine⟨tys,?_,h2,h3⟩;exact fk
   . cases h
 . cases h
noncomputable def uD(lr:LR)(d:Option Nat)(E:TE)(H:TH)(k:Nat):YR:=match lr,d with
  | .val _ r,d=>.mk .normal (FO d r E) H k
  | .new _ ob r,d=>.mk .normal (FO d r E) (Qt.set ob (Fx k) H) (Nat.succ k)
  | .upd _ b ob (some r),d=>.mk .normal (FO d r E) (Qt.set ob (Fx b) H) k
  | .upd _ b ob none,none=>.mk .normal E (Qt.set ob (Fx b) H) k
  |_,_=>.bad [3341]
noncomputable def OW(n:Nat):List Oper->TE->TH->Nat->YR
  | [],E,H,k=>.mk .normal E H k
  |o::l,E,H,k=>match bJ o with
    |some d=>match Nat.blt d n with
      |true=>OW n l (Qt.set (.val .nilIface) (Fx d) E) H k
      |false=>.bad [3342]
    |none=>match o.guard,dstOk o.dst n with
      |none,true=>match uD (Mg o E H k) o.dst E H k with
        | .mk _ E1 H1 k1=>OW n l E1 H1 k1
        | .bad l=>.bad l
      |_,_=>.bad [3343]
noncomputable def jB(ops:List Oper):Bool:=ops.any fun o=>(bJ o).isSome
noncomputable def uN(g:GF):Nat->Nat->Code->TE->TH->Nat->YR
  |0,_,_,_,_,_=>.bad [3344]
  |d+1,n,c,E,H,k=>match c with
    | .seq a b=>match uN g d n a E H k with
      | .mk .normal E1 H1 k1=>uN g d n b E1 H1 k1
      | .mk x E1 H1 k1=>.mk x E1 H1 k1
      | .bad l=>.bad l
    | .region id ops false=>match jB ops.toList with
      |true=>OW n ops.toList E H k
      |false=>g n (.region id ops false) E H k
    |c=>g n c E H k
def yq(x:Exit)(s:Ac):Exit->Ac->FrameMode->Prop:=fun x1 s1 u1=>x1=x/\s1=s/\u1=.returning
section
variable {n : Nat}
theorem AGoS.mono{P:Program}{c:Code}{s:Ac}{u:FrameMode}{Q Q':Exit->Ac->FrameMode->Prop}(h:AGoS P c s u Q)(hq:∀e s u,Q e s u->Q' e s u):AGoS P c s u Q':=fun H ι a w c₀ cs hs hu=>
 IB (fun e a' cs' w' hp=>by
  obtain⟨s',u',H',ι',q,r⟩:=hp;exact⟨s',u',H',ι',hq _ _ _ q,r⟩) (h H ι a w c₀ cs hs hu)
theorem HF(hT:Bc Tryz.prog TI){ops:Array Oper}:∀(l:List Oper) {E E':TE} {H H':TH} {k k':Nat} {x:Exit},OW n l E H k=.mk x E' H' k'->k<=k'/\∀m,k'<=m->AOpsS Tryz.prog ops l ⟨n,eF E,hF H k m⟩ .returning (yq x ⟨n,eF E',hF H' k' m⟩)
 | [],E,E',H,H',k,k',x,h=>by
  cases h
  exact⟨Nat.le_refl _,fun m _=>AOpsS.nil ⟨rfl,rfl,rfl⟩⟩
 |o::l,E,E',H,H',k,k',x,h=>by
  unfold OW at h;split at h
  . rename_i d hd;obtain⟨tys,h1,h2,h3⟩:=Vn hd;split at h
    . rename_i hb;obtain⟨hk,ha⟩:=HF hT l h;refine⟨hk,fun m hm=>?_⟩;have ha:=ha m hm;rw[MH]at ha;exact Tt d ha h1 h2 hb (by unfold Av;rw[h3])
    . exact(Bn h).elim
  . split at h
    . rename_i hg hdd;have hg':Av ops o (eF E)=some true:=by unfold Av;rw[hg]
      have hd':∀t,o.dst=some t->t<n:=fun t e=>Nat.blt_eq.mp (Iv hdd t e)
      have hl:=QN hT (o:=o) (E:=E) (H:=H) (k:=k);generalize Mg o E H k=lr at hl h
      cases lr with
      |no=>exact(Bn h).elim
      |val R r=>
       have h:OW n l (FO o.dst r E) H k=.mk x E' H' k':=h;obtain⟨hk,ha⟩:=HF hT l h;refine⟨hk,fun m hm=>AOpsS.step hg' (QLoc.loc (hl m)) hd' ?_⟩;have ha:=ha m hm;rwa[show eF (FO o.dst r E)=Cy (eF E) o.dst (some r)from Fm (r:=some r) JH]at ha
      |new R ob r=>
       have h:OW n l (FO o.dst r E) (Qt.set ob (Fx k) H) (Nat.succ k)=.mk x E' H' k':=h;obtain⟨hk,ha⟩:=HF hT l h;refine⟨Nat.le_trans (Nat.le_succ _) hk,fun m hm=>AOpsS.step hg' (hl m Ab) hd' ?_⟩;have ha:=ha m hm;rw[show eF (FO o.dst r E)=Cy (eF E) o.dst (some r)from Fm (r:=some r) JH,Pl Ab]at ha;exact ha
      |upd R b ob r=>
       cases r with
       |some r=>
        have h:OW n l (FO o.dst r E) (Qt.set ob (Fx b) H) k=.mk x E' H' k':=h;obtain⟨hk,ha⟩:=HF hT l h;refine⟨hk,fun m hm=>AOpsS.step hg' (hl.2 m) hd' ?_⟩;have ha:=ha m hm;rw[show eF (FO o.dst r E)=Cy (eF E) o.dst (some r)from Fm (r:=some r) JH,Mq hl.1]at ha;exact ha
       |none=>
        cases hd0:o.dst with
        |some d=>rw[hd0]at h;exact(Bn h).elim
        |none=>
         rw[hd0]at h;have h:OW n l E (Qt.set ob (Fx b) H) k=.mk x E' H' k':=h;obtain⟨hk,ha⟩:=HF hT l h;refine⟨hk,fun m hm=>AOpsS.step hg' (hl.2 m) hd' ?_⟩;have ha:=ha m hm;rw[Mq hl.1]at ha;rw[hd0];exact ha
    . exact(Bn h).elim
theorem ZA{g:GF}(hT:Bc Tryz.prog TI)(hg:g.Ok Tryz.prog):∀(d n:Nat) (c:Code) (E:TE) (H:TH) (k:Nat) (x:Exit) (E':TE) (H':TH) (k':Nat),uN g d n c E H k=.mk x E' H' k'->
 k<=k'/\∀m,k'<=m->AGoS Tryz.prog c ⟨n,eF E,hF H k m⟩ .returning (yq x ⟨n,eF E',hF H' k' m⟩)
 |0,n,c,E,H,k,x,E',H',k',h=>(Bn h).elim
 |d+1,n,c,E,H,k,x,E',H',k',h=>by
  have ih:=ZA hT hg d;have other:∀{c:Code},g n c E H k=.mk x E' H' k'->k<=k'/\∀m,k'<=m->AGoS Tryz.prog c ⟨n,eF E,hF H k m⟩ .returning (yq x ⟨n,eF E',hF H' k' m⟩):=fun {c} h=>by
   obtain⟨a1,a2⟩:=hg _ _ _ _ _ _ _ _ _ h;refine⟨a1,fun m hm=>AGoS.of (AGo.mono (a2 m hm) fun e s1 hh=>?_)⟩;obtain⟨rfl,rfl⟩:=hh;exact⟨rfl,rfl,rfl⟩
  unfold uN at h;split at h
  . rename_i a b;split at h
    . rename_i E1 H1 k1 h1;obtain⟨a1,a2⟩:=ih _ _ _ _ _ _ _ _ _ h1;obtain⟨b1,b2⟩:=ih _ _ _ _ _ _ _ _ _ h;refine⟨Nat.le_trans a1 b1,fun m hm=>AGoS.seq (AGoS.mono (a2 m (Nat.le_trans b1 hm)) fun e s1 u1 hh=>?_)⟩;obtain⟨rfl,rfl,rfl⟩:=hh;exact b2 m hm
    . rename_i x1 E1 H1 k1 hx h1
      cases h
      obtain⟨a1,a2⟩:=ih _ _ _ _ _ _ _ _ _ h1;refine⟨a1,fun m hm=>AGoS.seq (AGoS.mono (a2 m hm) fun e s1 u1 hh=>?_)⟩;exact ft
    . exact(Bn h).elim
  . rename_i id rops;split at h
    . obtain⟨a1,a2⟩:=HF hT rops.toList h;exact⟨a1,fun m hm=>AGoS.region (a2 m hm)⟩
    . exact other h
  . exact other h
end
section
variable (mt : Nat -> String -> Option Nat) (sp : Nat -> Option Ni)
noncomputable def jT(g:GF)(f:Nat)(xs:List AV)(H:TH)(k:Nat):Option (TH×Nat):=match fnEv Tryz.prog f with
  |some (fn,c)=>match Nat.ble (CT xs) fn.ntmps with
    |true=>match uN g 40 fn.ntmps c (JA xs 0 .lf) H k with
      | .mk x E1 H1 k1=>match endsOk x,resEv TI (eF E1) (hF H1 k1 k1) fn.results.toList with
        |true,some _=>some (H1,k1)
        |_,_=>none
      | .bad _=>none
    |false=>none
  |none=>none
noncomputable def Ux(f:Nat)(g:GF)(xs:List AV)(H:TH)(k:Nat):YC:=match fnEv Tryz.prog f with
  |some (fn,c)=>match Nat.ble (CT xs) fn.ntmps with
    |true=>match kn mt g (Fo sp g) 40 fn.ntmps c (JA xs 0 .lf) H k none with
      | .mk x E1 H1 k1 (some (.fn (.func q) us cs))=>match endsOk x,jT g q (Wy us cs) H1 k1 with
        |true,some (H2,k2)=>match resEv TI (eF E1) (hF H2 k2 k2) fn.results.toList with
          |some ys=>.mk (CQ ys) H2 k2
          |none=>.bad [f,3351]
        |_,_=>.bad [f,3352]
      | .mk _ _ _ _ _=>.bad [f,3353]
      | .bad l=>.bad (f::l)
    |false=>.bad [f,3354]
  |none=>.bad [f,3355]
end
theorem dT{g:GF}(hT:Bc Tryz.prog TI)(hg:g.Ok Tryz.prog){f:Nat}{xs:List AV}{H H':TH}{k k':Nat}(h:jT g f xs H k=some (H',k')):(∃gn,(Tryz.prog).funcs[f]?=some gn/\(gn.name== "runtime.NumGoroutine")=false/\gn.body.isSome=true)/\k<=k'/\
 ∀m,k'<=m->ACallD Tryz.prog f xs (hF H k m) .returning (fun u' h'=>u'=.returning/\h'=hF H' k' m):=by
 unfold jT at h;split at h
 . rename_i fn c hf;obtain⟨f1,f2,f3⟩:=C2 hf;split at h
   . rename_i hn;have hle:=Nat.le_of_ble_eq_true hn;rw[A3]at hle;split at h
     . rename_i x E1 H1 k1 h1;split at h
       . rename_i ys he hr
         cases h
         obtain⟨a1,a2⟩:=ZA hT hg _ _ _ _ _ _ _ _ _ _ h1;refine⟨⟨fn,f1,f3,by rw[f2];rfl⟩,a1,fun m hm=>?_⟩;have a2:=a2 m hm;rw[F4]at a2;refine KV hT f1 f2 (show xs.length+(fn.ntmps-xs.length)=fn.ntmps by omega) (AGoS.mono a2 fun x1 s1 u1 hh=>?_);obtain⟨rfl,rfl,rfl⟩:=hh
         cases x1<;>simp[endsOk]at he
         . exact⟨⟨ys,BP (DC hm hr)⟩,rfl,rfl⟩
         . exact⟨⟨ys,BP (DC hm hr)⟩,rfl,rfl⟩
       . cases h
     . cases h
   . cases h
 . cases h
theorem Z4{mt:Nat->String->Option Nat}{sp:Nat->Option Ni}{g:GF}(hT:Bc Tryz.prog TI)(hmt:G9 Tryz.prog mt)(hmx:(Tryz.prog).follows .mixedOrders=true)(hsp:PA Tryz.prog sp)(hg:g.Ok Tryz.prog)(f:Nat)(xs:List AV)(H:TH)(k:Nat):Rt Tryz.prog f xs H k (Ux mt sp f g xs H k):=by
 unfold Ux;split
 . rename_i fn c hf;obtain⟨f1,f2,f3⟩:=C2 hf;split
   . rename_i hn;have hle:=Nat.le_of_ble_eq_true hn;rw[A3]at hle;split
     . rename_i x E1 H1 k1 q us cs h1;split
       . rename_i H2 k2 he hq;split
         . rename_i ys hr;obtain⟨a1,a2⟩:=ZB hT hmt hmx hg (Ju hT hsp hg) _ _ _ _ _ _ _ _ _ _ _ _ h1;rw[Ew]at hq;obtain⟨g1,g2,g3⟩:=dT hT hg hq;refine⟨⟨_,hf⟩,Nat.le_trans a1 g2,fun m hm=>?_⟩;have a2:=a2 m (Nat.le_trans g2 hm);rw[F4]at a2;refine M1 hT f1 f2 (show xs.length+(fn.ntmps-xs.length)=fn.ntmps by omega) (AGoF.mono a2 fun x1 s1 d1 hh=>?_);obtain⟨rfl,rfl,rfl⟩:=hh;have key:(∃gn,(Tryz.prog).funcs[q]?=some gn/\(gn.name== "runtime.NumGoroutine")=false/\gn.body.isSome=true)/\∃R0:Aa->Prop,ACallD Tryz.prog q (us++cs) (hF H1 k1 m) .returning (fun u' h'=>u'=.returning/\R0 h')/\∀h',R0 h'->∃ys',CD TI ⟨fn.ntmps,eF E1,h'⟩ fn.results.toList ys'/\CQ ys'=CQ ys/\h'=hF H2 k2 m:=
            ⟨g1,fun h'=>h'=hF H2 k2 m,g3 m hm,fun h' e=>by subst e;exact⟨ys,BP (DC hm hr),rfl,rfl⟩⟩
           cases x1<;>simp[endsOk]at he
           . exact key
           . exact key
         . exact True.intro
       . exact True.intro
     . exact True.intro
     . exact True.intro
   . exact True.intro
 . exact True.intro
theorem FF{P:Program}{f:Nat}{args:List AV}{r:AV}{h0:Aa}(hp:r.isPure=true)(hc:ACall P f args hNew (fun r' h'=>r'=r/\HSub h0 h')):APure P f args (fun r'=>r'=r):=by
 intro H w vs ha hk;refine(hc H AE w vs ha (KJ hk)).mono fun e w' hx=>?_
 obtain⟨v,r',h',H',ι',rfl,⟨rfl,_⟩,h3,h4,h5⟩:=hx;have hno:∀rb,¬Ft hNew AE rb:=fun rb ho=>by obtain⟨b,o,r,e1,e2,e3,_⟩:=ho;cases e3
 exact⟨v,r',H',rfl,rfl,DE hp h3,⟨h5.size,h5.os,h5.out,fun rb hlt=>h5.keep rb hlt (hno rb),h5.kle,fun b hb=>(h5.knew b hb).imp id fun h=>h.resolve_right (hno b),h4.know⟩⟩
def YO:Nat->String->Option Nat:=fun t s=>bif Nat.beq t 228 then(bif s== "seedcorn/optimize.run" then some 299 else bif s== "seedcorn/optimize.holds" then some 298 else none)else bif Nat.beq t 230 then(bif s== "seedcorn/optimize.run" then some 313 else bif s== "seedcorn/optimize.holds" then some 312 else none)else none
theorem ur(v:Value)(w:World):(method (Tryz.prog.types.size+Made.depth) 228 v "seedcorn/optimize.run").run Tryz.prog w=.ok (299,v) w:=by kernel_rfl
theorem Uh(v:Value)(w:World):(method (Tryz.prog.types.size+Made.depth) 228 v "seedcorn/optimize.holds").run Tryz.prog w=.ok (298,v) w:=by kernel_rfl
theorem uq(v:Value)(w:World):(method (Tryz.prog.types.size+Made.depth) 230 v "seedcorn/optimize.run").run Tryz.prog w=.ok (313,v) w:=by kernel_rfl
theorem gi(v:Value)(w:World):(method (Tryz.prog.types.size+Made.depth) 230 v "seedcorn/optimize.holds").run Tryz.prog w=.ok (312,v) w:=by kernel_rfl
theorem Ug:G9 Tryz.prog YO:=fun t name f v w h=>by
 unfold YO at h
 cases ht:Nat.beq t 228 with
 |true=>
  obtain rfl:=Nat.eq_of_beq_eq_true ht;rw[ht]at h;simp only[cond_true]at h
  cases h1:name== "seedcorn/optimize.run" with
  |true=>
   rw[h1]at h;obtain rfl:=eq_of_beq h1;simp only[cond_true,Option.some.injEq]at h;subst h;exact ur v w
  |false=>
   rw[h1]at h
   cases h2:name== "seedcorn/optimize.holds" with
   |true=>
    rw[h2]at h;obtain rfl:=eq_of_beq h2;simp only[cond_true,cond_false,Option.some.injEq]at h;subst h;exact Uh v w
   |false=>rw[h2]at h;cases h
 |false=>
  rw[ht]at h
  cases ht2:Nat.beq t 230 with
  |true=>
   obtain rfl:=Nat.eq_of_beq_eq_true ht2;rw[ht2]at h;simp only[cond_true,cond_false]at h
   cases h1:name== "seedcorn/optimize.run" with
   |true=>
    rw[h1]at h;obtain rfl:=eq_of_beq h1;simp only[cond_true,Option.some.injEq]at h;subst h;exact uq v w
   |false=>
    rw[h1]at h
    cases h2:name== "seedcorn/optimize.holds" with
    |true=>
     rw[h2]at h;obtain rfl:=eq_of_beq h2;simp only[cond_true,cond_false,Option.some.injEq]at h;subst h;exact gi v w
    |false=>rw[h2]at h;cases h
  |false=>rw[ht2]at h;cases h
noncomputable def fZ(l:List Kn)(f:Nat)(b:Bool):Option Ni:=Bool.rec (motive:=fun _=>Option Ni) none (some (Ux YO (spKn l) f)) b
noncomputable def iu(l:List Kn)(f:Nat):Option Ni:=Option.rec (motive:=fun _=>Option Ni) (fZ l f (Nat.beq f 22||Nat.beq f 14)) (fun s=>some s) (spKn l f)
theorem K2:(Tryz.prog).follows .mixedOrders=true:=by kernel_rfl
theorem OK{l:List Kn}(h:A2 Tryz.prog l):PA Tryz.prog (iu l):=by
 intro f s hs go hgo xs H k;have hk:=br h;unfold iu at hs
 cases c:spKn l f with
 |some s'=>
  rw[c]at hs
  cases hs
  exact hk f s c go hgo xs H k
 |none=>
  rw[c]at hs;have hs:fZ l f (Nat.beq f 22||Nat.beq f 14)=some s:=hs
  cases cb:(Nat.beq f 22||Nat.beq f 14)with
  |false=>rw[cb]at hs;cases hs
  |true=>
   rw[cb]at hs;have e:Ux YO (spKn l) f=s:=Option.some.inj hs;rw[<-e];exact Z4 Am Ug K2 hk hgo f xs H k
theorem M0{P:Program}{f:FuncId}{args:List AV}{h h0:Aa}{R:AV->Aa->Prop}(hh:HSub h0 h)(hc:ACall P f args h0 R):ACall P f args h R:=fun H ι w vs ha hr=>by
 refine(hc H ι w vs ha (hr.sub hh)).mono ?_
 rintro e w' ⟨v,r,h',H',ι',rfl,k1,k2,k3,k4⟩
 exact⟨v,r,h',H',ι',rfl,k1,k2,k3,(To hh).trans hr (hr.sub hh) k4⟩
noncomputable def iB(mt:Nat->String->Option Nat)(sp:Nat->Option Ni)(d g f:Nat)(xs:List AV):Option AV:=match sp f with
  |none=>iC mt sp d g f xs
  |some s=>match s (goF mt sp g) xs .lf 0 with
    | .mk r _ _=>match r.isPure with
      |true=>some r
      |false=>none
    | .bad _=>none
theorem Nk{mt:Nat->String->Option Nat}{sp:Nat->Option Ni}(hT:Bc Tryz.prog TI)(hmt:G9 Tryz.prog mt)(hmx:(Tryz.prog).follows .mixedOrders=true)(hsp:PA Tryz.prog sp)(d g:Nat){f:Nat}{xs:List AV}{r:AV}(h:iB mt sp d g f xs=some r):APure Tryz.prog f xs (fun r'=>r'=r):=by
 unfold iB at h;split at h
 . exact Nl hT hmt hmx hsp d g h
 . rename_i s hs;have hgo:GF.Ok Tryz.prog (goF mt sp g):=fun n c E H k x E' H' k' h=>⟨(J5 hT hmt hmx hsp g n c E H k x E' H' k' h).1,fun m hm=>((J5 hT hmt hmx hsp g n c E H k x E' H' k' h).2 m hm).1⟩
   have hy:=hsp f s hs _ hgo xs .lf 0;split at h
   . rename_i r0 H k hr;rw[hr]at hy;split at h
     . rename_i hp
       cases h
       obtain⟨_,_,hc⟩:=hy;refine FF (h0:=hNone) hp (M0 (h0:=hF .lf 0 k) (fun b o hb=>?_) (ACall.mono (hc k (Nat.le_refl _)) fun r1 h1 hh=>⟨hh.1,HSub.none _⟩))
       by_cases hlt:b<k
       . rw[BM (Nat.zero_le _) hlt]at hb;cases hb;rfl
       . rw[CG (Nat.zero_le _) Ab]at hb;cases hb
     . cases h
   . cases h
theorem Bz{l:List Kn}(h:A2 Tryz.prog l)(d g:Nat){f:Nat}{xs:List AV}{r:AV}(e:iB YO (iu l) d g f xs=some r):APure Tryz.prog f xs (fun r'=>r'=r):=Nk Am Ug K2 (OK h) d g e
theorem Cr{f:Nat}{xs:List AV}{r:AV}(hf:(fnEv Tryz.prog f).isSome=true)(hp:xs.all AV.isPure=true)(h:APure Tryz.prog f xs (fun r'=>r'=r)){l:List Kn}(hl:A2 Tryz.prog l):A2 Tryz.prog (⟨f,xs,r⟩::l):=fun a ha=>by
 rcases List.mem_cons.1 ha with rfl|ha
 . exact⟨Option.isSome_iff_exists.1 hf,hp,h⟩
 . exact hl a ha
theorem AY:A2 Tryz.prog []:=fun a ha=>by cases ha
def iR(k:Int):AV:=match Uc (match Qw k with| .iface _ v=>v|v=>v)with
  |some x=>x
  |none=>.nil
def dj(k:Int):Nat:=bif k==4 then 312 else 298
def HP(p:OPass)(f:BFunc):Prop:=APure Tryz.prog (dj p.kind) [iR p.kind,.agg f.cells,.agg p.cells] (fun r=>r=.bool (p.holds f))
section
variable {o : Oper} {e : Ar} {h : Aa}
theorem cA{recv:Operand}{args:Array Operand}{tys:Array TypeId}{p:OPass}{f:BFunc}(hk:EB p.kind=true)(ho:o.op=.call {callee:=.invoke recv "seedcorn/optimize.holds",args:=args,argTypes:=tys})
 (hr:look e recv=some (.val (Qw p.kind))) (hx:AQ e args.toList=some [.agg f.cells,.agg p.cells]) (hc:HP p f):OLoc Tryz.prog o e h [] [] (some (.bool (p.holds f))):=by
 unfold HP at hc;rcases Mi hk with h1|h1|h1|h1<;>rw[h1]at hr hc
 . exact Jb ho hr (fun w=>Uh _ w) (FQ (by rfl)) Tryz.func298 Ay rfl hx rfl hc
 . exact Jb ho hr (fun w=>Uh _ w) (FQ (by rfl)) Tryz.func298 Ay rfl hx rfl hc
 . exact Jb ho hr (fun w=>Uh _ w) (FQ (by rfl)) Tryz.func298 Ay rfl hx rfl hc
 . exact Jb ho hr (fun w=>gi _ w) (FQ (by rfl)) Tryz.func312 Ay rfl hx rfl hc
end
structure eo(p:OPass):Prop where
  c:p.f.count<=1048576
  w:p.f.words
  n:p.paths.length<=1048576
  q:∀r∈p.paths,r.length<=1048576
structure ListLim(l:List (List OPass)):Prop where
  n:l.length<=1048576
  m:∀ps∈l,ps.length<=1048576
  p:∀ps∈l,∀p∈ps,eo p
theorem Kf{α:Type}{q:α->Bool}{l:List α}{k:Nat}{f:α}(h:l[k]?=some f)(h1:(l.take k).all q=true)(h2:q f=true):(l.take (k+1)).all q=true:=by
 rw[List.take_add_one,h,List.all_append,h1];simp[h2]
theorem d6{α:Type}{q:α->Bool}{l:List α}{f:α}(h:f∈l)(h2:q f=false):l.all q=false:=by
 rw[Bool.eq_false_iff];intro e;rw[List.all_eq_true.1 e f h]at h2
 cases h2
structure I35(f:BFunc):Prop where
  c:f.count<=300
  w:f.words
theorem I35.lim{f:BFunc}(h:I35 f):f.Lim:=GC (Nat.le_trans h.c A7)
theorem I35.n{f:BFunc}(h:I35 f):f.blocks.length<=10000:=by have:=Hk f;have:=h.c;omega
theorem I35.i{f:BFunc}(h:I35 f):∀x∈f.blocks,x.ins.length<=10000/\QW x.ins:=fun x hx=>by
 have h1:x.count<=f.count:=Il hx;have:=h.c;simp only[Block.count]at h1;exact⟨by omega,h.w x hx⟩
structure yp(p:OPass):Prop where
  f:I35 p.f
  n:p.paths.length<=1048576
  q:∀r∈p.paths,r.length<=1048576
theorem ListLim.w{l:List (List OPass)}(h:ListLim l):gc l:=fun ps hp p hpp=>(h.p ps hp p hpp).w
theorem Zo{p:OPass}{f:BFunc}(hk:EB p.kind=true):p.holds f=bif p.kind==4 then p.cert.same.isEmpty&&CE f p.f p.paths else p.paths.isEmpty&&Cg f p.f p.cert:=by
 unfold OPass.holds
 cases p.kind==4 with
 |true=>rfl
 |false=>rw[cond_false,cond_false,show decide (1<=p.kind/\p.kind<=4)=true from hk,Bool.true_and]
structure Forged where
  old:Blocks
  new:Blocks
  why:List (List OPass)
def Forged.cells(z:Forged):List AV:=[.int .i64 z.old.words,AT z.old.funcs,.int .i64 z.new.words,AT z.new.funcs,Mf z.why]
def MA(b:Blocks):Bool:=decide (b.funcs.length<=4)&&(decide (b.words<=200)&&b.funcs.all fun f=>E7 f 10 50)
def Mz(p:OPass):Bool:=E7 p.f 10 50&&(decide (p.cert.same.length<=20)&&decide (p.paths.length<=20))
def J6(l:List OPass):Bool:=decide (l.length<=6)&&l.all Mz
structure Oy(z:Forged):Prop where
  o:z.old.Lim
  n:z.new.Lim
  l:ListLim z.why
  ow:∀f∈z.old.funcs,f.words
  nw:∀f∈z.new.funcs,f.words
theorem Rw{f:BFunc}(hw:f.words)(h:E7 f 10 50=true):I35 f:=by
 simp only[E7,Bool.and_eq_true,decide_eq_true_eq]at h;have hc:=Hk f;have e:K5 f.blocks=BV f.blocks:=rfl;exact⟨by omega,hw⟩
structure Few36(b:Blocks):Prop where
  n:b.funcs.length<=4
  w:b.words<=200
  f:∀f∈b.funcs,E7 f 10 50=true
theorem Re{b:Blocks}(h:MA b=true):Few36 b:=by
 simp only[MA,Bool.and_eq_true,decide_eq_true_eq,List.all_eq_true]at h;exact⟨h.1,h.2.1,h.2.2⟩
theorem Few36.i{b:Blocks}(h:Few36 b)(hw:∀f∈b.funcs,f.words):∀f∈b.funcs,I35 f:=fun f hf=>Rw (hw f hf) (h.f f hf)
theorem Rc{l:List (List OPass)}(hl:ListLim l)(h:l.all J6=true):∀ps∈l,ps.length<=1048576/\∀p∈ps,yp p:=fun ps hp=>by
 have h1:=List.all_eq_true.1 h ps hp;simp only[J6,Bool.and_eq_true,decide_eq_true_eq,List.all_eq_true]at h1;refine⟨by omega,fun p hpp=>?_⟩;have h2:=h1.2 p hpp;simp only[Mz,Bool.and_eq_true,decide_eq_true_eq]at h2;exact⟨Rw (hl.p ps hp p hpp).w h2.1,(hl.p ps hp p hpp).n,(hl.p ps hp p hpp).q⟩
theorem PS.rfl'(b:Blocks):PS b b:=⟨rfl,rfl,fun i f g hf hg=>by
 rw[hf]at hg
 cases hg
 exact FSm.rfl' f⟩
theorem Pn{a b:Blocks}(hP:PS a b)(s:ByteArray)(h1:(DI a s 300).fin≠5)(h2:(DI b s 3000).fin≠5):(DI a s 300).fin=(DI b s 3000).fin/\(DI a s 300).out=(DI b s 3000).out:=by
 have hK:∀f∈b.funcs,∀x∈f.blocks,x.ins.length+1<=b.count+1:=fun f hf x hx=>by have:=Ww hf hx;omega
 obtain⟨e1,e2⟩:=NK hP s 300 hK (fuel:=(((b.count+1)*((DI a s 300).steps+1)+(b.count+1)*((DI b s 3000).steps+1):Nat):Int)) Ab h1;obtain⟨f1,f2⟩:=NK (PS.rfl' b) s 3000 hK (fuel:=(((b.count+1)*((DI a s 300).steps+1)+(b.count+1)*((DI b s 3000).steps+1):Nat):Int)) Ab h2;exact⟨e1.symm.trans f1,e2.symm.trans f2⟩
end Go.Proofs.YtijlphdockhgjaaGreatDoor.Sv
namespace Go.Proofs.YtijlphdockhgjaaGreatDoor
open Go Go.ChangeShapes Go.WideShapes Go.ChangeAt Go.RowKit Sv
section
variable {H : Type} {enc : TypeId × Value -> H} {W : World}
theorem decIntsR:DecR enc Tryz.prog W 61 (fun l:List Int=>[Bt l]) (fun l n=>(∀x∈l,QU x)/\l.length+1<=n):=fun fuel cs x h hw=>by
 obtain⟨l,h1,_,h2⟩:=DecR.slice' (j:=yA) Am rfl rfl rfl (Nat.zero_lt_succ _) (DecR.of (Br Am rfl rfl)) fuel cs x h hw;refine⟨l,h1,fun y hy=>?_,h2.len (fun a m h=>h.2)⟩;obtain⟨m,hm,_⟩:=h2.all y hy;exact Cu hm.1
theorem decPathsR:DecR enc Tryz.prog W 35 (fun l:List (List Int)=>[AS l]) (fun l n=>l.length+1<=n/\∀r∈l,r.length+1<=n):=fun fuel cs x h hw=>by
 obtain⟨l,h1,_,h2⟩:=DecR.slice' (j:=lF) Am rfl rfl rfl (Nat.zero_lt_succ _) decIntsR fuel cs x h hw;refine⟨l,h1,h2.len (fun a m h=>by have:=h.2;omega),fun y hy=>?_⟩;obtain⟨m,hm,h3⟩:=h2.all y hy;have:=hm.2;omega
theorem decBools:Dec enc Tryz.prog W 279 (fun l:List Bool=>[Gw l]) (fun l=>l.length*1<=reachBytes/\∀n∈l,True):=Dec.slice' (j:=yz) Am rfl rfl rfl (Nat.zero_lt_succ _) (WL Am rfl rfl)
theorem decRowsR:DecR enc Tryz.prog W 32 (fun l:List (List Bool)=>[LB l]) (fun l n=>l.length<=n):=fun fuel cs x h hw=>by
 obtain⟨l,h1,_,h2⟩:=DecR.slice' (j:=fV) Am rfl rfl rfl (Nat.zero_lt_succ _) (DecR.of decBools) fuel cs x h hw;exact⟨l,h1,by have:=h2.len (fun a m h=>h.2);omega⟩
theorem decCertR:DecR enc Tryz.prog W 34 Cert.cells (fun c n=>c.same.length<=n):=fun fuel cs x h hw=>by
 obtain⟨hl,hp⟩:=struct_partsR Am (i:=oG) rfl rfl h hw;have hl':cs.length=1:=hl;obtain⟨x0,a0,m0,b0,c0⟩:=hp 0 _ _ rfl decRowsR;have k0:=Dy Am (n:=1) rfl rfl (Reads.nil W cs) a0 Ab;exact⟨⟨x0⟩,k0.all hl',(by show x0.length<=_;omega)⟩
def PassN(p:OPass)(n:Nat):Prop:=p.f.Ok/\QU p.kind/\p.f.count+1<=n/\p.paths.length<=n/\(∀r∈p.paths,r.length<=n)/\p.cert.same.length<=n
theorem decPassR:DecR enc Tryz.prog W 40 OPass.cells PassN:=fun fuel cs x h hw=>by
 obtain⟨hl,hp⟩:=struct_partsR (i:=ii) Am rfl rfl h hw;have hl':cs.length=5:=hl;obtain⟨x0,a0,_,_,b0,_⟩:=hp 0 _ _ rfl (DecR.of (Br Am rfl rfl));obtain⟨x1,a1,m1,c1,b1⟩:=hp 1 _ _ rfl decCertR;obtain⟨x2,a2,m2,c2,d2,e2⟩:=hp 2 _ _ rfl decPathsR;obtain⟨x3,a3,m3,c3,d3,e3⟩:=hp 3 _ _ rfl decBFuncR;have k0:=Dy Am (n:=1) rfl rfl (Reads.nil W cs) a0 Ab;have k1:=Dy Am (n:=1) rfl rfl k0 a1 Ab;have k2:=Dy Am (n:=1) rfl rfl k1 a2 Ab;have k3:=Dy Am (n:=2) rfl rfl k2 a3 Ab;exact⟨⟨x0,x1,x2,x3⟩,k3.all hl',d3,Cu b0,(by show x3.count+1<=_;omega),(by show x2.length<=_;omega),fun r hr=>by have:=e2 r hr;omega,(by show x1.same.length<=_;omega)⟩
def ListsN(ls:List (List OPass))(n:Nat):Prop:=ls.length+1<=n/\∀ps∈ls,ps.length<=n/\∀p∈ps,PassN p n
theorem PassN.mono{p:OPass}{m n:Nat}(h:PassN p m)(hm:m<=n):PassN p n:=⟨h.1,h.2.1,Nat.le_trans h.2.2.1 hm,Nat.le_trans h.2.2.2.1 hm,fun r hr=>Nat.le_trans (h.2.2.2.2.1 r hr) hm,Nat.le_trans h.2.2.2.2.2 hm⟩
theorem decListsR:DecR enc Tryz.prog W 25 (fun ls:List (List OPass)=>[Mf ls]) ListsN:=fun fuel cs x h hw=>by
 obtain⟨ls,h1,_,h2⟩:=DecR.slice' (j:=px) Am rfl rfl rfl (Nat.zero_lt_succ _) (DecR.slice' (j:=ii) Am rfl rfl rfl (Nat.zero_lt_succ _) decPassR) fuel cs x h hw;have one:∀(a:OPass) (m:Nat),PassN a m->1<=m:=fun a m h=>by have:=h.2.2.1;omega
 refine⟨ls,h1,h2.len (fun a m h=>by have:=h.2.len one;omega),fun ps hps=>?_⟩;obtain⟨m,⟨_,hm⟩,h3⟩:=h2.all ps hps;refine⟨by have:=hm.len one;omega,fun p hp=>?_⟩;obtain⟨k,hk,h4⟩:=hm.all p hp;exact hk.mono Ab
theorem lists_row{ls:List (List OPass)}{n:Nat}(h:ListsN ls n)(hn:n<=1048576):ListLim ls:=by
 refine⟨by have:=h.1;omega,fun ps hp=>by have:=(h.2 ps hp).1;omega,fun ps hp p hpp=>?_⟩;have q:=((h.2 ps hp).2 p hpp).mono hn;exact⟨by have:=q.2.2.1;omega,fun x hx=>BFunc.Ok.insW q.1 hx,q.2.2.2.1,q.2.2.2.2.1⟩
theorem words_row{b:Blocks}(h:b.Ok):∀f∈b.funcs,f.words:=fun f hf x hx=>BFunc.Ok.insW (h.funcs f hf) hx
def ForgedN(z:Forged)(n:Nat):Prop:=(z.old.Ok/\z.old.count+z.old.funcs.length<=n)/\(z.new.Ok/\z.new.count+z.new.funcs.length<=n)/\ListsN z.why n
theorem decForgedR:DecR enc Tryz.prog W 27 Forged.cells ForgedN:=fun fuel cs x h hw=>by
 obtain⟨hl,hp⟩:=struct_partsR (i:=p6) Am rfl rfl h hw;have hl':cs.length=5:=hl;obtain⟨x0,a0,m0,c0,d0,e0⟩:=hp 0 _ _ rfl decBlocksR;obtain⟨x1,a1,m1,c1,d1,e1⟩:=hp 1 _ _ rfl decBlocksR;obtain⟨x2,a2,m2,c2,d2,e2⟩:=hp 2 _ _ rfl decListsR;have k0:=Dy Am (n:=2) rfl rfl (Reads.nil W cs) a0 Ab;have k1:=Dy Am (n:=2) rfl rfl k0 a1 Ab;have k2:=Dy Am (n:=1) rfl rfl k1 a2 Ab;refine⟨⟨x0,x1,x2⟩,k2.all hl',⟨d0,(by show x0.count+x0.funcs.length<=_;omega)⟩,⟨d1,(by show x1.count+x1.funcs.length<=_;omega)⟩,(by show x2.length+1<=_;omega),fun ps hps=>?_⟩;have:=e2 ps hps;exact⟨by omega,fun p hp=>(this.2 p hp).mono Ab⟩
theorem forged_row{z:Forged}{n:Nat}(h:ForgedN z n)(hn:n<=1048576):Oy z:=⟨lim_row h.1 hn,lim_row h.2.1 hn,lists_row h.2.2 hn,words_row h.1.1,words_row h.2.1.1⟩
end
end Go.Proofs.YtijlphdockhgjaaGreatDoor
namespace Go.Proofs.YtijlphdockhgjaaGreatDoor.Sv
open Go
theorem bz(t:Tac):Pu Tryz.prog 78 [.agg t.cells] (.int .i64 t.sets):=by
 refine APure.of_body (n:=14) Am Tryz.func78 rfl rfl ?_;refine Gy ?_;refine ax 1 (Dn 8 0) ?_;refine wk 15 ?_;refine asp 5 (fun hb1=>?_) fun hb1=>?_
 .
  refine wk 9 ?_;exact RH
 refine wk 6 ?_;refine asp 5 (fun hb2=>?_) fun hb2=>?_
 .
  refine wk 9 ?_;exact RH
 refine wk 6 ?_;refine asp 5 (fun hb3=>?_) fun hb3=>?_
 .
  refine wk 9 ?_;exact RH
 refine wk 6 ?_;refine asp 5 (fun hb4=>?_) fun hb4=>?_
 .
  refine wk 9 ?_;exact RH
 refine wk 6 ?_;refine asp 5 (fun hb5=>?_) fun hb5=>?_
 .
  refine wk 9 ?_;exact RH
 refine wk 5 ?_;refine asp 5 (fun hb6=>?_) fun hb6=>?_
 .
  refine wk 7 ?_;exact RH
 refine wk 6 ?_;exact RH
theorem bm(t:Tac):Pu Tryz.prog 79 [.agg t.cells] (Bt t.uses):=by
 refine APure.of_body (n:=21) Am Tryz.func79 rfl rfl ?_;refine Gy ?_;refine ax 1 (Dn 8 0) ?_;refine wk 15 ?_;refine asp 5 (fun hb1=>?_) fun hb1=>?_
 .
  refine wk 7 ?_;exact aP
 refine wk 6 ?_;refine asp 5 (fun hb2=>?_) fun hb2=>?_
 .
  refine wk 7 ?_;exact aP
 refine wk 6 ?_;refine asp 5 (fun hb3=>?_) fun hb3=>?_
 .
  refine wk 7 ?_;exact aP
 refine wk 5 ?_;refine asp 5 (fun hb4=>?_) fun hb4=>?_
 .
  refine wk 5 ?_;exact aP
 refine wk 7 ?_;refine asp 13 (fun hb5=>?_) fun hb5=>?_
 .
  refine wk 9 ?_;exact eN
 refine wk 5 ?_;refine asp 13 (fun hb6=>?_) fun hb6=>?_
 .
  refine wk 7 ?_;exact eN
 refine wk 6 ?_;refine AGo.ghost (.empty 2 rfl) ?_;exact gV
theorem BE(i j:Int):Pu Tryz.prog 77 [.int .i64 i,.int .i64 j] (.bool (AX i j)):=by
 refine APure.of_body (n:=12) Am Tryz.func77 rfl rfl ?_;refine wk 9 ?_;refine BH 7 (fun hb1=>?_) fun hb1=>?_
 .
  exact eA
 exact eA
theorem dM(b:Block)(blocks regs:Int):Pu Tryz.prog 41 [.agg b.cells,.int .i64 blocks,.int .i64 regs] (.bool (b.ends blocks regs)):=by
 refine APure.of_body (n:=61) Am Tryz.func41 rfl rfl ?_;refine Gy ?_;refine ax 3 (Dn 5 0) ?_;refine wk 14 ?_;refine asp 9 (fun hb1=>?_) fun hb1=>?_
 .
  refine wk 6 ?_;refine ax 14 (CR Tryz.func77 (BE _ _)) ?_;refine wk 1 ?_;refine BH 15 (fun hb2=>?_) fun hb2=>?_
  .
   refine wk 5 ?_;refine BH 20 (fun hb3=>?_) fun hb3=>?_
   .
    refine wk 6 ?_;exact M2
   refine wk 6 ?_;exact M2
  refine wk 11 ?_;exact M2
 refine wk 6 ?_;refine asp 25 (fun hb4=>?_) fun hb4=>?_
 .
  refine wk 6 ?_;refine ax 30 (CR Tryz.func77 (BE _ _)) ?_;refine wk 1 ?_;refine BH 31 (fun hb5=>?_) fun hb5=>?_
  .
   refine wk 3 ?_;refine ax 35 (CR Tryz.func77 (BE _ _)) ?_;refine wk 2 ?_;refine BH 37 (fun hb6=>?_) fun hb6=>?_
   .
    refine wk 3 ?_;refine ax 41 (CR Tryz.func77 (BE _ _)) ?_;refine wk 3 ?_;exact M2
   refine wk 7 ?_;exact M2
  refine wk 13 ?_;exact M2
 refine wk 8 ?_;refine BH 46 (fun hb7=>?_) fun hb7=>?_
 .
  refine wk 5 ?_;refine BH 51 (fun hb8=>?_) fun hb8=>?_
  .
   refine wk 5 ?_;refine BH 56 (fun hb9=>?_) fun hb9=>?_
   .
    refine wk 6 ?_;exact M2
   refine wk 6 ?_;exact M2
  refine wk 11 ?_;exact M2
 refine wk 16 ?_;exact M2
theorem dE(t:Tac)(f regs words:Int)(hw:0<=words)(hw2:words<=1048576):Pu Tryz.prog 42 [.agg t.cells,.int .i64 f,.int .i64 regs,.int .i64 words] (.bool (t.fits f regs words)):=by
 refine APure.of_body (n:=166) Am Tryz.func42 rfl rfl ?_;refine Gy ?_;refine ax 4 (Dn 8 0) ?_;refine wk 9 ?_;refine BH 15 (fun hb1=>?_) fun hb1=>?_
 .
  refine wk 10 ?_;exact eD
 refine wk 5 ?_;refine asp 19 (fun hb2=>?_) fun hb2=>?_
 .
  refine wk 5 ?_;exact eD
 refine wk 7 ?_;refine ax 9 (I7 Am 1) ?_;refine wk 3 ?_;refine AGo.join (γ:=Int) (fun d=>⟨166,(Ad (Ad (Ad (Ad (Ad BC 1 (.int .i64 f)) 2 (.int .i64 regs)) 3 (.int .i64 words)) 4 (pZ 0)) 9 (pZ 1)),(Al (Al (AU 2) 0 (rf 8 [t.cells])) 1 (rf 8 [[.int .i64 t.op,.int .i64 d,.int .i64 0,.int .i64 0,.int .i64 0,.int .i64 0,.int .i64 0,.int .u32 0]]))⟩) (fun d=>(!setsOp t.op||AX t.d regs)=true/\d=bif setsOp t.op then t.d else 0) ?_ ?_
 .
  refine wk 3 ?_;refine ax 24 (CR Tryz.func78 (bz _)) ?_;refine wk 2 ?_;refine BH 26 (fun hb3=>?_) fun hb3=>?_
  .
   refine wk 43 ?_;refine ax 62 (CR Tryz.func77 (BE _ _)) ?_;refine wk 2 ?_;refine asp 63 (fun hb4=>?_) fun hb4=>?_
   .
    exact RL
   exact gQ
  refine wk 5 ?_;refine BH 31 (fun hb5=>?_) fun hb5=>?_
  .
   refine wk 38 ?_;refine ax 62 (CR Tryz.func77 (BE _ _)) ?_;refine wk 2 ?_;refine asp 63 (fun hb6=>?_) fun hb6=>?_
   .
    exact RL
   exact gQ
  refine wk 5 ?_;refine BH 36 (fun hb7=>?_) fun hb7=>?_
  .
   refine wk 33 ?_;refine ax 62 (CR Tryz.func77 (BE _ _)) ?_;refine wk 2 ?_;refine asp 63 (fun hb8=>?_) fun hb8=>?_
   .
    exact RL
   exact gQ
  refine wk 5 ?_;refine BH 41 (fun hb9=>?_) fun hb9=>?_
  .
   refine wk 28 ?_;refine ax 62 (CR Tryz.func77 (BE _ _)) ?_;refine wk 2 ?_;refine asp 63 (fun hb10=>?_) fun hb10=>?_
   .
    exact RL
   exact gQ
  refine wk 5 ?_;refine BH 46 (fun hb11=>?_) fun hb11=>?_
  .
   refine wk 23 ?_;refine ax 62 (CR Tryz.func77 (BE _ _)) ?_;refine wk 2 ?_;refine asp 63 (fun hb12=>?_) fun hb12=>?_
   .
    exact RL
   exact gQ
  refine wk 5 ?_;refine BH 51 (fun hb13=>?_) fun hb13=>?_
  .
   refine wk 18 ?_;refine ax 62 (CR Tryz.func77 (BE _ _)) ?_;refine wk 2 ?_;refine asp 63 (fun hb14=>?_) fun hb14=>?_
   .
    exact RL
   exact gQ
  refine wk 5 ?_;refine asp 55 (fun hb15=>?_) fun hb15=>?_
  .
   refine wk 13 ?_;refine ax 62 (CR Tryz.func77 (BE _ _)) ?_;refine wk 2 ?_;refine asp 63 (fun hb16=>?_) fun hb16=>?_
   .
    exact RL
   exact gQ
  refine wk 2 ?_;exact⟨0,Sub.mk' Fc FH,⟨by simp[setsOp, *],by simp[setsOp, *]⟩⟩
 intro d ⟨hd,hdd⟩;refine wk 3 ?_;refine ax 65 (CR Tryz.func79 (bm _)) ?_;refine wk 8 ?_;refine AF (γ:=Nat) 2 (fun j=>⟨166,(Ad (Ad (Ad (Ad (Ad (Ad (Ad BC 1 (.int .i64 f)) 2 (.int .i64 regs)) 3 (.int .i64 words)) 4 (pZ 0)) 9 (pZ 1)) 10 (Bt t.uses)) 11 (iN j)),(Al (Al (AU 2) 0 (rf 8 [t.cells])) 1 (rf 8 [[.int .i64 t.op,.int .i64 d,.int .i64 0,.int .i64 0,.int .i64 0,.int .i64 0,.int .i64 0,.int .u32 0]]))⟩) (fun j=>(t.uses.take j).all (fun r=>AX r regs)=true) (fun j=>t.uses.length-j) 0 (Sub.mk' Fc FH) rfl (fun _=>CJ) ?_;intro j hj;refine wk 8 ?_;refine asp 69 (fun hb17=>?_) fun hb17=>?_
 .
  refine act ?_;have hjl:j<t.uses.length:=D2 hb17;obtain⟨u,hu⟩:=Ag hjl;refine wk 7 ?_;refine aq 74 Iz ?_;refine wk 2 ?_;refine ax 77 (CR Tryz.func77 (BE _ _)) ?_;refine wk 2 ?_;refine asp 78 (fun hb18=>?_) fun hb18=>?_
  .
   refine act ?_;have hbw:=hb18;refine wk 4 ?_;refine Cj ⟨[_],⟨rfl,trivial⟩,?_,rfl⟩;refine bc ?_;exact(ZG (BJ hu (by simpa using hbw))).symm
  refine BK ?_;have hbw:=hb18;refine wk 3 ?_;refine aq 71 (Bw rfl rfl hjl (Nat.le_trans (PV t) A7)) ?_;exact kS
 refine BK ?_;have hall:=Cd hj (D6 hb17);refine wk 2 ?_;refine AGo.join (γ:=Int) (fun a=>⟨166,(Ad (Ad (Ad (Ad (Ad (Ad BC 1 (.int .i64 f)) 2 (.int .i64 regs)) 3 (.int .i64 words)) 4 (pZ 0)) 9 (pZ 1)) 10 (Bt t.uses)),(Al (Al (AU 2) 0 (rf 8 [t.cells])) 1 (rf 8 [[.int .i64 t.op,.int .i64 d,.int .i64 a,.int .i64 0,.int .i64 0,.int .i64 0,.int .i64 0,.int .u32 0]]))⟩) (fun a=>a=bif use1 t.op||use2 t.op then t.a else 0) ?_ ?_
 .
  refine wk 6 ?_;refine asp 81 (fun hb19=>?_) fun hb19=>?_
  .
   refine wk 7 ?_;exact⟨t.a,Sub.mk' Fc FH,by have h3:=TG t.op;cases h1:use1 t.op<;>cases h2:use2 t.op<;>simp_all[Tac.uses]⟩
  exact kZ
 intro a haa;refine ve ?_;refine AGo.join (γ:=Int) (fun b=>⟨166,(Ad (Ad (Ad (Ad (Ad BC 1 (.int .i64 f)) 2 (.int .i64 regs)) 3 (.int .i64 words)) 4 (pZ 0)) 9 (pZ 1)),(Al (Al (AU 2) 0 (rf 8 [t.cells])) 1 (rf 8 [[.int .i64 t.op,.int .i64 d,.int .i64 a,.int .i64 b,.int .i64 0,.int .i64 0,.int .i64 0,.int .u32 0]]))⟩) (fun b=>b=bif use2 t.op then t.b else 0) ?_ ?_
 .
  refine wk 6 ?_;refine asp 87 (fun hb20=>?_) fun hb20=>?_
  .
   refine wk 7 ?_;exact⟨t.b,Sub.mk' Fc FH,by have h3:=TG t.op;cases h1:use1 t.op<;>cases h2:use2 t.op<;>simp_all[Tac.uses]⟩
  exact kZ
 intro b hbb;refine wk 12 ?_;refine asp 93 (fun hb21=>?_) fun hb21=>?_
 .
  refine wk 11 ?_;exact ey
 refine wk 6 ?_;refine asp 98 (fun hb22=>?_) fun hb22=>?_
 .
  refine wk 14 ?_;refine BH 106 (fun hb23=>?_) fun hb23=>?_
  .
   refine wk 10 ?_;exact WV
  refine wk 5 ?_;refine asp 110 (fun hb24=>?_) fun hb24=>?_
  .
   refine wk 5 ?_;exact WV
  refine wk 6 ?_;exact ey
 refine wk 7 ?_;refine asp 111 (fun hb25=>?_) fun hb25=>?_
 .
  refine wk 15 ?_;refine ax 120 (CR Tryz.func77 (BE _ _)) ?_;refine wk 2 ?_;refine asp 121 (fun hb26=>?_) fun hb26=>?_
  .
   refine wk 5 ?_;exact WV
  refine wk 6 ?_;exact ey
 refine wk 5 ?_;refine asp 111 (fun hb27=>?_) fun hb27=>?_
 .
  refine wk 13 ?_;refine ax 120 (CR Tryz.func77 (BE _ _)) ?_;refine wk 2 ?_;refine asp 121 (fun hb28=>?_) fun hb28=>?_
  .
   refine wk 5 ?_;exact WV
  refine wk 6 ?_;exact ey
 refine wk 7 ?_;refine asp 122 (fun hb29=>?_) fun hb29=>?_
 .
  refine wk 20 ?_;refine BH 134 (fun hb30=>?_) fun hb30=>?_
  .
   refine wk 24 ?_;exact PH
  refine wk 5 ?_;refine BH 139 (fun hb31=>?_) fun hb31=>?_
  .
   refine wk 19 ?_;exact PH
  refine wk 5 ?_;refine BH 144 (fun hb32=>?_) fun hb32=>?_
  .
   refine wk 14 ?_;exact PH
  refine wk 9 ?_;refine asp 152 (fun hb33=>?_) fun hb33=>?_
  .
   refine wk 5 ?_;exact PH
  refine wk 6 ?_;exact ey
 refine wk 5 ?_;refine asp 122 (fun hb34=>?_) fun hb34=>?_
 .
  refine wk 18 ?_;refine BH 134 (fun hb35=>?_) fun hb35=>?_
  .
   refine wk 24 ?_;exact PH
  refine wk 5 ?_;refine BH 139 (fun hb36=>?_) fun hb36=>?_
  .
   refine wk 19 ?_;exact PH
  refine wk 5 ?_;refine BH 144 (fun hb37=>?_) fun hb37=>?_
  .
   refine wk 14 ?_;exact PH
  refine wk 9 ?_;refine asp 152 (fun hb38=>?_) fun hb38=>?_
  .
   refine wk 5 ?_;exact PH
  refine wk 6 ?_;exact ey
 refine wk 6 ?_;refine asp 153 (fun hb39=>?_) fun hb39=>?_
 .
  refine wk 13 ?_;refine ax 161 (CR Tryz.func77 (BE _ _)) ?_;refine wk 2 ?_;refine asp 162 (fun hb40=>?_) fun hb40=>?_
  .
   refine wk 5 ?_;exact WV
  refine wk 6 ?_;exact ey
 refine wk 6 ?_;exact ey
theorem i9(f:BFunc)(number words:Int)(hw:0<=words)(hw2:words<=1048576):Pu Tryz.prog 17 [.agg f.cells,.int .i64 number,.int .i64 words] (.bool (f.one number words)):=by
 refine APure.of_body (n:=68) Am Tryz.func17 rfl rfl ?_;refine ve ?_;refine JE 0 rfl (fun H ι v=>NO) (fun hfit=>?_);refine j7 ?_;refine ax 3 (Dn 2 0) ?_;refine wk 9 ?_;refine BH 12 (fun hb1=>?_) fun hb1=>?_
 .
  refine wk 16 ?_;exact W7
 refine wk 5 ?_;refine BH 17 (fun hb2=>?_) fun hb2=>?_
 .
  refine wk 11 ?_;exact W7
 refine wk 6 ?_;refine asp 22 (fun hb3=>?_) fun hb3=>?_
 .
  refine wk 5 ?_;exact W7
 refine BK ?_;have h0:0<=f.regs/\f.regs<=4000/\f.blocks.length≠0:=by simp_all<;>omega
 refine wk 7 ?_;refine AF (γ:=Nat) 1 (fun k=>⟨68,(Ad (Ad (Ad (Ad BC 1 (.int .i64 number)) 2 (.int .i64 words)) 3 (pZ 0)) 7 (iN k)),(Al (AU 1) 0 (rf 2 [f.cells]))⟩) (fun k=>(f.blocks.take k).all (fun x=>x.ok f.blocks.length f.regs number words)=true) (fun k=>f.blocks.length-k) 0 (Sub.mk' Fc FH) rfl (fun _=>CJ) ?_;intro k hk;refine wk 9 ?_;refine asp 27 (fun hb4=>?_) fun hb4=>?_
 .
  refine act ?_;have hkl:k<f.blocks.length:=D2 hb4;obtain⟨x,hx⟩:=Ag hkl;refine wk 9 ?_;refine dq 33 Iz ?_;refine wk 6 ?_;refine dx 40 (CR Tryz.func41 (dM x _ _)) ?_;refine dq 41 (IZ rfl rfl) ?_;refine wk 1 ?_;refine asp 41 (fun hb5=>?_) fun hb5=>?_
  .
   refine act ?_;have hends:x.ends f.blocks.length f.regs=false:=by simpa using hb5
   refine wk 4 ?_;refine Cj ⟨[_],⟨rfl,trivial⟩,?_,rfl⟩;refine bc ?_;rw[HG h0.1 h0.2.1 h0.2.2,BJ hx (by simp[Block.ok,hends])]
  refine BK ?_;have hends:x.ends f.blocks.length f.regs=true:=by simpa using hb5
  refine wk 6 ?_;refine AF (γ:=Nat) 1 (fun j=>⟨68,(Ad (Ad (Ad (Ad (Ad BC 1 (.int .i64 number)) 2 (.int .i64 words)) 3 (pZ 0)) 7 (iN k)) 8 (iN j)),(Al (AU 1) 0 (rf 2 [f.cells]))⟩) (fun j=>(x.ins.take j).all (fun t=>t.fits number f.regs words)=true) (fun j=>x.ins.length-j) 0 (Sub.mk' Fc FH) rfl (fun _=>CJ) ?_;intro j hj;refine wk 7 ?_;refine aq 46 Iz ?_;refine wk 5 ?_;refine asp 50 (fun hb6=>?_) fun hb6=>?_
  .
   refine act ?_;have hjl:j<x.ins.length:=D2 hb6;obtain⟨u,hu⟩:=Ag hjl;refine wk 8 ?_;refine dq 56 Iz ?_;refine wk 3 ?_;refine dq 60 Iz ?_;refine wk 5 ?_;refine dx 66 (CR Tryz.func42 (dE u _ _ _ hw hw2)) ?_;refine dq 67 (IZ rfl rfl) ?_;refine wk 1 ?_;refine asp 67 (fun hb7=>?_) fun hb7=>?_
   .
    refine act ?_;have hbw:=hb7;refine wk 4 ?_;refine Cj ⟨[_],⟨rfl,trivial⟩,?_,rfl⟩;refine bc ?_;rw[HG h0.1 h0.2.1 h0.2.2,BJ hx (by simp only[Block.ok,BJ (p:=fun t=>Tac.fits t number f.regs words) hu (by simpa using hbw),Bool.and_false])]
   refine BK ?_;have hbw:=hb7;refine wk 3 ?_;refine aq 52 (Bw rfl rfl hjl (hfit.2 x (List.mem_of_getElem? hx))) ?_;exact kS
  refine BK ?_;have hins:=Cd hj (D6 hb6);refine wk 3 ?_;refine aq 29 (Bw rfl rfl hkl hfit.1) ?_;refine wk 2 ?_;exact⟨k+1,Drop.mk' DO KQ,BS hx hk (by simp[Block.ok,hends,hins]),by omega⟩
 refine BK ?_;have hall:=Cd hk (D6 hb4);refine wk 5 ?_;refine Cj ⟨[_],⟨rfl,trivial⟩,?_,rfl⟩;refine bc ?_;rw[HG h0.1 h0.2.1 h0.2.2,hall]
theorem Qk(b:Blocks):Pu Tryz.prog 7 [.agg b.cells] (.bool b.right):=by
 refine APure.of_body (n:=35) Am Tryz.func7 rfl rfl ?_;refine ve ?_;refine JE 0 rfl (fun H ι v=>Ql) (fun hfit=>?_);refine j7 ?_;refine ax 1 (Dn 2 0) ?_;refine wk 9 ?_;refine BH 7 (fun hb1=>?_) fun hb1=>?_
 .
  refine wk 16 ?_;exact gG
 refine wk 5 ?_;refine BH 12 (fun hb2=>?_) fun hb2=>?_
 .
  refine wk 11 ?_;exact gG
 refine wk 6 ?_;refine asp 17 (fun hb3=>?_) fun hb3=>?_
 .
  refine wk 5 ?_;exact gG
 refine BK ?_;have h0:0<=b.words/\b.words<=1048576/\b.funcs.length≠0:=by simp_all<;>omega
 refine wk 7 ?_;refine AF (γ:=Nat) 1 (fun k=>⟨35,(Ad (Ad BC 1 (pZ 0)) 3 (iN k)),(Al (AU 1) 0 (rf 2 [b.cells]))⟩) (fun k=>(b.funcs.zipIdx.take k).all (fun p=>p.1.one (p.2:Int) b.words)=true) (fun k=>b.funcs.length-k) 0 (Sub.mk' Fc FH) rfl (fun _=>CJ) ?_;intro k hk;refine wk 9 ?_;refine asp 22 (fun hb4=>?_) fun hb4=>?_
 .
  refine act ?_;have hkl:k<b.funcs.length:=D2 hb4;obtain⟨x,hx⟩:=Ag hkl;refine wk 8 ?_;refine dq 28 Iz ?_;refine wk 4 ?_;refine dx 33 (CR Tryz.func17 (i9 x _ _ h0.1 h0.2.1)) ?_;refine dq 34 (IZ rfl rfl) ?_;refine wk 1 ?_;refine asp 34 (fun hb5=>?_) fun hb5=>?_
  .
   refine act ?_;have hone:=hb5;refine wk 4 ?_;refine Cj ⟨[_],⟨rfl,trivial⟩,?_,rfl⟩;refine bc ?_;rw[FM h0.1 h0.2.1 h0.2.2,BJ (Bl hx) (by simpa using hone)]
  refine BK ?_;have hone:=hb5;refine wk 3 ?_;refine aq 24 (Bw rfl rfl hkl hfit.1) ?_;refine wk 2 ?_;exact⟨k+1,Drop.mk' DO KQ,BS (Bl hx) hk (by simpa using hone),by omega⟩
 refine BK ?_;have hall:=Cd hk (by rw[List.length_zipIdx];exact D6 hb4);exact eL
theorem Rf(f:BFunc)(nb ni:Int)(hb:0<=ni/\ni<=1000)(hn:f.blocks.length<=vd)(hi:∀x∈f.blocks,x.ins.length<=vd):Pu Tryz.prog 6 [.agg f.cells,.int .i64 nb,.int .i64 ni] (.bool (E7 f nb ni)):=by
 refine APure.of_body (n:=36) Am Tryz.func6 rfl rfl ?_;refine Gy ?_;refine ax 3 (Dn 2 0) ?_;refine wk 11 ?_;refine BH 13 (fun hb1=>?_) fun hb1=>?_
 .
  refine wk 10 ?_;refine Cj ⟨[_],⟨rfl,trivial⟩,?_,rfl⟩;refine bc ?_;simp_all[E7];try omega
 refine wk 5 ?_;refine asp 17 (fun hb2=>?_) fun hb2=>?_
 .
  refine wk 5 ?_;refine Cj ⟨[_],⟨rfl,trivial⟩,?_,rfl⟩;refine bc ?_;simp_all[E7];try omega
 refine BK ?_;have hg1:(f.blocks.length:Int)<=nb:=by have h:=hb1;simp only[List.length_map,decide_eq_false_iff_not]at h;omega
 have hg2:f.regs<=40:=by have h:=hb2;simp only[decide_eq_false_iff_not]at h;omega
 refine wk 7 ?_;refine AF (γ:=Nat) 1 (fun k=>⟨36,(Ad (Ad (Ad (Ad BC 1 (.int .i64 nb)) 2 (.int .i64 (ni-(BV (f.blocks.take k):Int)))) 3 (pZ 0)) 7 (iN k)),(Al (AU 1) 0 (rf 2 [f.cells]))⟩) (fun k=>k<=f.blocks.length/\(k≠0->(BV (f.blocks.take k):Int)<=ni)) (fun k=>f.blocks.length-k) 0 (Sub.mk' (by repeat(first|exact ESub.new _|refine ESub.put ?_ (by first|rfl|exact congrArg (fun n:Int=>some (AV.int .i64 n)) (by simp[BV])))) FH) ⟨Nat.zero_le _,fun h=>absurd rfl h⟩ (fun _=>CJ) ?_;intro k ⟨hk,hF⟩;refine wk 9 ?_;refine asp 22 (fun hb3=>?_) fun hb3=>?_
 .
  refine act ?_;have hkl:k<f.blocks.length:=by simpa using hb3
  obtain⟨x,hx⟩:=Ag hkl;have hxb:=hi x (List.mem_of_getElem? hx);have hsx:=Pj hx;simp only[vd]at hxb hn;have hsum:(BV (f.blocks.take k):Int)<=ni:=by by_cases h0:k=0;{subst h0;simp[BV];omega};exact hF h0
  refine wk 9 ?_;refine aq 29 (F6 Am (AG hx)) ?_;refine wk 3 ?_;refine aq 33 (BB (r:=.int .i64 (ni-(BV (f.blocks.take (k+1)):Int))) rfl rfl rfl (tP Xb Xb Xb)) ?_;refine wk 7 ?_;refine asp 35 (fun hb4=>?_) fun hb4=>?_
  .
   refine act ?_;have hover:¬(BV f.blocks:Int)<=ni:=by have h:=hb4;simp only[decide_eq_true_eq]at h;have h2:=ST f.blocks (k+1);omega
   refine wk 4 ?_;refine Cj ⟨[_],⟨rfl,trivial⟩,?_,rfl⟩;refine bc ?_;simp[E7,hover]
  refine BK ?_;have hin:(BV (f.blocks.take (k+1)):Int)<=ni:=by have h:=hb4;simp only[decide_eq_false_iff_not]at h;omega
  refine wk 3 ?_;refine aq 24 (Bw rfl rfl hkl (show f.blocks.length<=maxLen by simp only[maxLen];(try simp only[vd]at hn);omega)) ?_;refine wk 2 ?_;exact⟨k+1,Drop.mk' (by repeat(first|exact EDrop.new _ _|refine EDrop.put ?_ (by first|rfl|exact congrArg (fun n:Int=>some (AV.int .i64 n)) Ab) (by first|rfl|exact DV _ rfl|exact Hx _ rfl))) KQ,⟨hkl,fun _=>by omega⟩,by omega⟩
 refine BK ?_;have hge:f.blocks.length<=k:=by simpa using hb3
 have hsum:(BV f.blocks:Int)<=ni:=by by_cases h0:k=0;{subst h0;have:f.blocks=[]:=List.eq_nil_of_length_eq_zero Ab;rw[this];simp[BV];omega};{have h:=hF h0;rwa[List.take_of_length_le hge]at h}
 refine wk 5 ?_;refine Cj ⟨[_],⟨rfl,trivial⟩,?_,rfl⟩;refine bc ?_;simp[E7,hg1,hg2,hsum]
theorem Rd(b:Blocks)(hL:b.Lim):Pu Tryz.prog 5 [.agg b.cells] (.bool (MA b)):=by
 have hn:=hL.n;refine APure.of_body (n:=27) Am Tryz.func5 rfl rfl ?_;refine Gy ?_;refine ax 1 (Dn 2 0) ?_;refine wk 10 ?_;refine BH 8 (fun hb1=>?_) fun hb1=>?_
 .
  refine wk 10 ?_;refine Cj ⟨[_],⟨rfl,trivial⟩,?_,rfl⟩;refine bc ?_;simp_all[MA];try omega
 refine wk 5 ?_;refine asp 12 (fun hb2=>?_) fun hb2=>?_
 .
  refine wk 5 ?_;refine Cj ⟨[_],⟨rfl,trivial⟩,?_,rfl⟩;refine bc ?_;simp_all[MA];try omega
 refine BK ?_;have hg1:b.funcs.length<=4:=by have h:=hb1;simp at h;omega
 have hg2:b.words<=200:=by have h:=hb2;simp at h;omega
 refine wk 7 ?_;refine AF (γ:=Nat) 1 (fun k=>⟨27,(Ad (Ad BC 1 (pZ 0)) 3 (iN k)),(Al (AU 1) 0 (rf 2 [b.cells]))⟩) (fun k=>k<=b.funcs.length/\((b.funcs.take k).all fun f=>E7 f 10 50)=true) (fun k=>b.funcs.length-k) 0 (Sub.mk' DP FH) ⟨Nat.zero_le _,rfl⟩ (fun _=>CJ) ?_;intro k hF;refine wk 9 ?_;refine asp 17 (fun hb3=>?_) fun hb3=>?_
 .
  refine act ?_;have hkl:=D2 hb3;obtain⟨f,hf⟩:=Ag hkl;refine wk 8 ?_;refine aq 23 (F6 Am (AG hf)) ?_;refine wk 1 ?_;refine ax 25 (CR Tryz.func6 (Rf f 10 50 A7 (Nat.le_trans (hL.f (List.mem_of_getElem? hf)).n A7) (fun x hx=>Nat.le_trans ((hL.f (List.mem_of_getElem? hf)).c x hx) A7))) ?_;refine wk 2 ?_;refine asp 26 (fun hb4=>?_) fun hb4=>?_
  .
   refine act ?_;have hno:E7 f 10 50=false:=by simpa using hb4
   have hnall:=d6 (q:=fun f=>E7 f 10 50) (List.mem_of_getElem? hf) hno;refine wk 4 ?_;refine Cj ⟨[_],⟨rfl,trivial⟩,?_,rfl⟩;refine bc ?_;simp[MA,hnall]
  refine BK ?_;have hyes:E7 f 10 50=true:=by simpa using hb4
  refine wk 3 ?_;refine aq 19 (Bw rfl rfl hkl GM) ?_;refine wk 2 ?_;exact⟨k+1,Drop.mk' DO KQ,⟨hkl,Kf hf hF.2 hyes⟩,by omega⟩
 refine BK ?_;have hge:=D6 hb3;have hall:(b.funcs.all fun f=>E7 f 10 50)=true:=by have h:=hF.2;rwa[List.take_of_length_le hge]at h
 refine wk 5 ?_;refine Cj ⟨[_],⟨rfl,trivial⟩,?_,rfl⟩;refine bc ?_;simp[MA,hg1,hg2,hall]
theorem Tk(x y:Mach):Pu Tryz.prog 10 [.agg (LI x),.agg (LI y)] (.bool (decide (x.fin=y.fin)&&((⟨x.out.toArray⟩:ByteArray).toList==(⟨y.out.toArray⟩:ByteArray).toList))):=by
 refine APure.of_body (n:=17) Am Tryz.func10 rfl rfl ?_;refine Gy ?_;refine ax 2 (Dn 3 0) ?_;refine ax 3 (Dn 3 1) ?_;refine wk 10 ?_;refine BH 10 (fun hb1=>?_) fun hb1=>?_
 .
  exact fb
 exact fb
end Go.Proofs.YtijlphdockhgjaaGreatDoor.Sv
namespace Go.Proofs.YtijlphdockhgjaaGreatDoor.Sv
open Go Go.RowKit
def AObj.noMap:AObj->Bool
  | .map _=>false
  | .iter0=>false
  |_=>true
def NoMap(h:Aa):Prop:=∀b o,h b=some o->o.noMap=true
theorem NoMap.new:NoMap hNew:=fun b o h=>by cases h;rfl
theorem NoMap.put{h:Aa}(hh:NoMap h)(b:Nat){o:AObj}(ho:o.noMap=true):NoMap (Al h b o):=fun c q hq=>by
 by_cases hc:c=b
 . subst hc;rw[Au]at hq;cases hq;exact ho
 . rw[Ax _ _ hc]at hq;exact hh c q hq
theorem NoMap.none:NoMap hNone:=fun b o h=>by cases h
theorem HeapRel.grownO{H:Aq}{ι:AL}{h:Aa}{w w':World}{row:Option Nat}(hr:HeapRel H ι h w)(hm:NoMap h)(hg:w.grownBy w' row)(hrow:∀r,row=some r->∃o:Obj,w.heap[r]?=some o/\o.isCells=false):HeapRel H ι h w':=by
 have key:∀(b:Nat) (c:Array Value) (T:TypeId) (fr:Nat×Nat),w.heap[b]?=some (Obj.cells c T fr)->w'.heap[b]?=some (Obj.cells c T fr):=fun b c T fr hb=>by
  refine(hg.block b (Array.getElem?_eq_some_iff.1 hb).1 (fun e=>?_)).trans hb;obtain⟨o,ho,hc⟩:=hrow b e.symm;rw[hb]at ho;cases ho;cases hc
 refine⟨fun b c hb=>?_,hr.free,fun b o h1 h2=>?_,hr.inj,hr.glob⟩
 . obtain⟨T,fr,e⟩:=hr.know b c hb;exact⟨T,fr,key _ _ _ _ e⟩
 . obtain⟨r,e1,e2,e3⟩:=hr.obj b o h1 h2;refine⟨r,e1,?_,e3⟩
   cases o with
   |free=>trivial
   |map kvs=>have:=hm b _ h1;cases this
   |iter0=>have:=hm b _ h1;cases this
   |row p sz es=>
    obtain⟨r1,r2,r3,r4,r5,r6⟩:=e2;refine⟨r1,r2,r3,r4,r5,fun hsol=>?_⟩;obtain⟨c,T,⟨fr,q1,q2⟩,q3,q4⟩:=r6 hsol;exact⟨c,T,⟨fr,key _ _ _ _ q1,q2⟩,q3,q4⟩
theorem Step.grown{H:Aq}{ι:AL}{h:Aa}{w:World}{H':Aq}{ι':AL}{h':Aa}{w' w'':World}{row:Option Nat}(st:Step H ι h w H' ι' h' w')(hg:w'.grownBy w'' row)(hrow:∀r,row=some r->w.heap.size<=r):Step H ι h w H' ι' h' w'' where
 size:=Nat.le_trans st.size hg.size
 os:=hg.os.trans st.os
 out:=hg.output.trans st.out
 keep:=fun rb hlt hno=>by
  refine(hg.block rb (Nat.lt_of_lt_of_le hlt st.size) (fun e=>?_)).trans (st.keep rb hlt hno);have:=hrow rb e.symm;omega
 kle:=st.kle
 knew:=st.knew
 lle:=st.lle
 lframe:=st.lframe
 newrb:=st.newrb
 dom:=st.dom
theorem Step.others{H:Aq}{ι:AL}{h:Aa}{w:World}{H':Aq}{ι':AL}{h':Aa}{w':World}(hr:HeapRel H ι h w)(hm:NoMap h)(st:Step H ι h w H' ι' h' w'):KeepsOthers w w':=
 ⟨st.size,fun k o hk ho=>by
  have hlt:=(Array.getElem?_eq_some_iff.1 hk).1;refine(st.keep k hlt ?_).trans hk
  rintro⟨b,q,r,h1,h2,h3,h4,h5⟩
  obtain⟨r',e1,e2,_⟩:=hr.obj b q h1 h2;rw[h3]at e1;cases e1
  cases q with
  |free=>cases h2
  |map kvs=>have:=hm b _ h1;cases this
  |iter0=>have:=hm b _ h1;cases this
  |row p sz es=>
   obtain⟨_,_,_,_,_,r6⟩:=e2;obtain⟨c,T,⟨fr,q1,_⟩,_,_⟩:=r6 h4;rw[h5]at q1;rw[hk]at q1;cases q1;cases ho⟩
theorem Step.of_sub{H:Aq}{ι:AL}{h h':Aa}{w:World}(hh:HSub h' h):Step H ι h w H ι h' w:=⟨Nat.le_refl _,rfl,rfl,fun _ _ _=>rfl,KLe.refl _,fun _ h=>.inl h,LLe.refl _,fun _ _=>rfl,fun _ _ h _=>.inl h,fun b hb=>by
 cases e:h' b with
 |none=>rfl
 |some o=>rw[hh b o e]at hb;cases hb⟩
section
variable {P : Program}
theorem Xf{α:Type}{s:Ac}{H:Aq}{ι:AL}{a:Act}{w:World}(hs:Sim H ι s a w){g:Operand}{p d ida:Nat}{oa:Oper}{body:Code}{Q:Exit->Act->World->Prop}{gf:Nat}{cs:List AV}
 (hoa:oa.op=.assign (.tmp p)) (hda:oa.dst=some d) (hga:oa.guard=none) (hp:p<s.n) (hd:d<s.n) (hpd:p≠d)
 (hg:look s.env g=some (.fn (.func gf) [] cs)) (eg:∀args w,(callFunc gf args).run P w=.ok (.enter gf args) w)
 {enc:α->Value} {av:α->AV} (hav:∀x H ι,Rel H ι (av x) (enc x)) {S:List α->Prop} {N:Nat}
 (hseq:∀lb:Array Value,lb.size=cs.length->(∀(j:Nat) (x:AV) (v:Value),cs[j]?=some x->lb[j]?=some v->Rel H ι x v)->SeqStopsK Fence.wide 3 P gf lb (fun x=> #[enc x]) (fun _ _=>True) S (fun _=>True) N w)
 (e0:Ar) (hI:List α->Aa) (he0:ESub e0 s.env) (hm0:NoMap s.h) (hm:∀pre,NoMap (hI pre)) (h0:HSub (hI []) s.h)
 (hbody:∀(l:Nat) (pre:List α) (x:α),pre.length<N->AGoR P l 2 body ⟨s.n,Ad (Ad e0 p (av x)) d (av x),hI pre⟩ (Bk (fun s'=>HSub (hI (pre++[x])) s'.h) (fun _ _=>False)))
 (hdone:∀(D:Nat) (xs:List α) (W:World) (H':Aq) (ι':AL),w.heap.size<=D->S xs->HeapRel H' ι' (hI xs) W->Step H ι s.h w H' ι' (hI xs) W->W.heap[D]?=some (.deferred (some []))->Q .normal {tmps:=a.tmps,defers:=[{target:=.collected D,args:= #[]}]} W):
 (Code.rangeFunc g #[p] (.region ida #[oa] false) body).wp P Q a w:=by
 obtain⟨us,lb,hge,hus,hlb,_,hrl⟩:∃us lb,a.eval g=.func (.func gf) us lb/\([]:List AV).length=us.size/\cs.length=lb.size/\True/\∀(j:Nat) (x:AV) (v:Value),cs[j]?=some x->lb[j]?=some v->Rel H ι x v:=by
  exact eJ
 have hus':us= #[]:=by
  cases us with
  |mk l=>cases l with
   |nil=>rfl
   |cons y l=>simp at hus
 subst hus';refine wpIn_wide (n:=4).1 ?_;have hpn:p<a.tmps.size:=by rw[hs.n];exact hp
 have hdn:d<a.tmps.size:=by rw[hs.n];exact hd
 have hI0:∃H' ι',HeapRel H' ι' (hI []) w/\Step H ι s.h w H' ι' (hI []) w:=⟨H,ι,hs.heap.sub h0,Step.of_sub h0⟩
 refine wpIn_rangeFunc_ownF (F:=Fence.wide) (n:=4) (α:=α) (Q:=Q) (a:=a) (w:=w) (w0:=w) rfl A7 hge trivial eg (hseq lb hlb.symm hrl) (fun _ _=>trivial) (fun _ _ _ _ _ _ _ _=>trivial) (Below.refl _ _) (fun _=>rfl)
  (fun pre W=>∃H' ι',HeapRel H' ι' (hI pre) W/\Step H ι s.h w H' ι' (hI pre) W) (fun _ _ _=>False) ?_ (fun _ _ _ _ _ h _ _=>h) hI0
  (fun x=>{tmps:=(a.tmps.setIfInBounds p (enc x)).setIfInBounds d (enc x),defers:=[]}) ?_ ?_ ?_ (fun _ _ _ _ _ _ h _=>h.elim)
 . rintro pre W W' row ⟨H',ι',k1,k2⟩ hg' hr
   exact⟨H',ι',k1.grownO (hm pre) hg' (fun r e=>(hr r e).2),k2.grown hg' (fun r e=>(hr r e).1)⟩
 . intro l x W K hK;refine wpIn_region_list ?_;show wpListIn _ _ P _ _ [oa] _ W;unfold wpListIn;have hw:Region.wanted oa (yielded #[oa] (((#[p].zip #[enc x]).foldl (fun t (q:Nat×Value)=>t.setIfInBounds q.1 q.2) a.tmps)))=true:=by simp[Region.wanted,hga]
   rw[if_pos hw];refine Ua (by unfold C1;rw[hoa]) ?_;unfold Oper.wp;simp only[execOp,hoa,Sem.run_pure,Oper.upon];have e1:(#[p].zip #[enc x]).foldl (fun t (q:Nat×Value)=>t.setIfInBounds q.1 q.2) a.tmps=a.tmps.setIfInBounds p (enc x):=by simp
   have e2:({tmps:=a.tmps.setIfInBounds p (enc x),defers:=[]}:Act).eval (.tmp p)=enc x:=by
    simp[Act.eval,hpn]
   show K _ W;rw[hda];simpa[Act.put,Act.eval,hpn]using hK
 . rintro l pre x W ⟨H',ι',k1,k2⟩ hlt
   have hsim:Sim H' ι' ⟨s.n,Ad (Ad e0 p (av x)) d (av x),hI pre⟩ {tmps:=(a.tmps.setIfInBounds p (enc x)).setIfInBounds d (enc x),defers:=[]} W:=by
    refine⟨by simp[hs.n],rfl,fun t y hy=>?_,k1⟩
    by_cases htd:t=d
    . subst htd;have hy':Ad (Ad e0 p (av x)) t (av x) t=some y:=hy;rw[BX]at hy';cases hy';exact⟨enc x,by simp[hdn],hav x _ _⟩
    . have hy':Ad (Ad e0 p (av x)) d (av x) t=some y:=hy;rw[C3 _ _ htd]at hy'
      by_cases htp:t=p
      . subst htp;rw[BX]at hy';cases hy';refine⟨enc x,?_,hav x _ _⟩;show((a.tmps.setIfInBounds t (enc x)).setIfInBounds d (enc x))[t]?=_;rw[Array.getElem?_setIfInBounds_ne (fun e=>htd e.symm)];simp[hpn]
      . rw[C3 _ _ htp]at hy';obtain⟨v,v1,v2⟩:=hs.env t y (he0 t y hy');refine⟨v,?_,v2.mono k2.kle k2.lle⟩;show((a.tmps.setIfInBounds p (enc x)).setIfInBounds d (enc x))[t]?=_;rw[Array.getElem?_setIfInBounds_ne (fun e=>htd e.symm),Array.getElem?_setIfInBounds_ne (fun e=>htp e.symm)];exact v1
   refine wpIn_mono (hbody l pre x hlt H' ι' _ W hsim) fun e a' W' hp=>?_
   obtain⟨s',H2,ι2,q,r,t⟩:=hp
   cases e with
   |normal=>
    have t2:Step H' ι' (hI pre) W H2 ι2 (hI (pre++[x])) W':=t.trans k1 r.heap (Step.of_sub q);exact⟨t.others k1 (hm pre),trivial,H2,ι2,r.heap.sub q,k2.trans hs.heap k1 t2⟩
   |_=>exact q.elim
 . rintro D xs W hD hS ⟨H',ι',k1,k2⟩ hK
   have:a.defers=[]:=hs.d;have ha:{a with defers:={target:=.collected D,args:= #[]}::a.defers}=({tmps:=a.tmps,defers:=[{target:=.collected D,args:= #[]}]}:Act):=by rw[this]
   rw[ha];exact hdone D xs W H' ι' hD hS k1 k2 hK
def QD(ds:List Deferred)(K:Act->World->Prop)(a:Act)(w:World):Prop:=∃tm,a={tmps:=tm,defers:=ds}/\K {tmps:=tm,defers:=[]} w
theorem X5(tm:Array Value)(ds:List Deferred)(d:Option Nat)(v:Value):∃tm',({tmps:=tm,defers:=ds}:Act).put d v={tmps:=tm',defers:=ds}/\({tmps:=tm,defers:=[]}:Act).put d v={tmps:=tm',defers:=[]}:=by
 cases d with
 |none=>exact⟨tm,rfl,rfl⟩
 |some d=>exact⟨tm.setIfInBounds d v,rfl,rfl⟩
def EO(o:Oper):Bool:=match o.op with
  | .load .. | .store .. =>true
  |_=>false
theorem Si{o:Oper}(hd:EO o=true){ρ:Operand->Value}{w w':World}{x:Next}(h:(execOp ρ o).run P w=.ok x w'):(∃v,x=.value v)\/x=.skip:=by
 unfold EO at hd;unfold execOp at h
 cases ho:o.op<;>rw[ho]at hd h<;>first|(cases hd;done)|skip
 . simp only[Sem.run_bind,Sem.run_pure]at h;generalize(Instr.loadAt _ _).run P w=r at h
   cases r with
   |ok v w1=>simp only[Result.andThen_ok]at h;cases h;exact .inl ⟨v,rfl⟩
   |halt y w1=>cases h
 . simp only[Sem.run_bind,Sem.run_pure]at h;generalize(Instr.storeAt _ _ _).run P w=r at h
   cases r with
   |ok v w1=>simp only[Result.andThen_ok]at h;cases h;exact .inr rfl
   |halt y w1=>cases h
theorem cx{o:Oper}{tm:Array Value}{ds:List Deferred}{w:World}{K:Act->World->Prop}{Q:Exit->Act->World->Prop}(hd:EO o=true)(h:o.wp P {tmps:=tm,defers:=[]} w K Q):o.wp P {tmps:=tm,defers:=ds} w (QD ds K) (fun e=>QD ds (Q e)):=by
 unfold Oper.wp at h|-;have e:(execOp ({tmps:=tm,defers:=ds}:Act).eval o)=execOp ({tmps:=tm,defers:=[]}:Act).eval o:=by
  congr 1
 rw[e];have hnd:∀x w',(execOp ({tmps:=tm,defers:=[]}:Act).eval o).run P w=.ok x w'->(∃v,x=.value v)\/x=.skip:=fun x w' hx=>Si hd hx
 generalize(execOp ({tmps:=tm,defers:=[]}:Act).eval o).run P w=res at h hnd|-;have Al:∀v w',K (({tmps:=tm,defers:=[]}:Act).put o.dst v) w'->QD ds K (({tmps:=tm,defers:=ds}:Act).put o.dst v) w':=fun v w' hk=>by
  obtain⟨tm',e1,e2⟩:=X5 tm ds o.dst v;rw[e2]at hk;exact⟨tm',e1,hk⟩
 cases res with
 |ok x w'=>
  rcases hnd x w' rfl with⟨v,rfl⟩|rfl
  . exact Al v w' h
  . exact Al _ w' h
 |halt x w'=>
  cases x with
  |panic v=>exact⟨tm,rfl,h⟩
  |_=>exact h.elim
theorem Px{ops:Array Oper}{ds:List Deferred}{Q:Exit->Act->World->Prop}(hq:¬LetsOut Q)(hd:∀(i:Nat) o,ops[i]?=some o->EO o=true):∀(fuel:Nat) (L:Array Bool) (tm:Array Value) (w:World),wpAny P .any ops Q fuel L {tmps:=tm,defers:=[]} w->wpAny P .any ops (fun e=>QD ds (Q e)) fuel L {tmps:=tm,defers:=ds} w
 |0,L,tm,w,h=>⟨h.1,tm,rfl,h.2⟩
 |fuel+1,L,tm,w,h=>by
  refine⟨fun h0=>⟨tm,rfl,h.1 h0⟩,fun i hi=>?_⟩;have h1:=h.2 i hi;unfold wpOp at h1|-;have go:∀a w',QD ds (wpAny P .any ops Q fuel (L.setIfInBounds i true)) a w'->wpAny P .any ops (fun e=>QD ds (Q e)) fuel (L.setIfInBounds i true) a w':=fun a w' ⟨tm',e,hx⟩=>by
   subst e;exact Px hq hd fuel _ tm' w' hx
  cases ho:ops[i]? with
  |none=>rw[ho]at h1;exact Px hq hd fuel _ tm w h1
  |some o=>
   rw[ho]at h1;simp only at h1|-
   by_cases hw:Region.wanted o (yielded ops tm)=true
   . rw[if_pos hw]at h1|-;rcases h1 with h1|⟨_,h1⟩
     . exact .inl (Oper.wp_mono (fun a w' hx=>go a w' hx) (cx (hd i o ho) h1))
     . exact absurd h1 hq
   . rw[if_neg hw]at h1|-;obtain⟨tm',e1,e2⟩:=X5 tm ds o.dst undef;rw[e2]at h1;rw[e1];exact Px hq hd fuel _ tm' w h1
theorem DOps.any{ops:Array Oper}{n:Nat}{e:Ar}{h:Aa}{K:Ac->Prop}(hd:DOps P ops n ops.toList e h [] K){H:Aq}{ι:AL}{a:Act}{w:World}(hs:Sim H ι ⟨n,e,h⟩ a w):
 wpAny P .any ops (Post H ι h w (Bk K fun _ _=>False)) ops.size (Array.replicate ops.size false) a {w with drawn:=w.drawn+1}:=by
 obtain⟨cs,e',h',h1,h2,h3⟩:=hd;have hgrow:∀rb,rb<w.heap.size->({w with drawn:=w.drawn+1}:World).heap[rb]?=w.heap[rb]?:=fun _ _=>rfl
 have hr':HeapRel H ι h {w with drawn:=w.drawn+1}:=hs.heap.grow hgrow;have hst:Step H ι h w H ι h {w with drawn:=w.drawn+1}:=Step.grow hgrow (Nat.le_refl _) rfl rfl;have hL0:∀i,(Array.replicate ops.size false).getD i false=false:=fun i=>by
  by_cases hi:i<ops.size
  . simp[hi]
  . simp[hi]
 have hm0:∀{V:Type} (l:List (Upd V)) (g:Nat->V),AP (fun i=>(Array.replicate ops.size false).getD i false) l 0 g=g:=fun l g=>funext fun x=>CS fun i u _ _=>hL0 _
 refine Dg (fun e a' w' hp=>?_) _ _ _ _ (Ow (I:=fun _=>True) (D:=[]) (K:=K) h1 trivial Lf h3 hs.heap ops.size (Array.replicate ops.size false) H ι a {w with drawn:=w.drawn+1}
  ⟨by simp,fun i hi=>by rw[hL0]at hi;cases hi⟩ (by unfold JK;simp) hs.d (by rw[hm0,hm0,hs.d0];exact⟨hs.n,hs.d,hs.env,hr'⟩) (by rw[hm0];exact hst))
 obtain⟨hD,s',H',ι',q,r,t⟩:=hp;have e2:{a' with defers:=[]}=a':=by cases a';simp only at hD;subst hD;rfl
 rw[e2]at r;exact⟨s',H',ι',q,r,t⟩
theorem bi{T:Nat->Option Ae}(hT:Bc P T)(hmx:P.follows .mixedOrders=true){fn:Func}{ops:Array Oper}{id D:Nat}{s:Ac}{H0 H:Aq}{ι0 ι:AL}{h0:Aa}{tm:Array Value}{w0 w:World}{R:AV->Aa->Prop}
 (hld:∀(i:Nat) o,ops[i]?=some o->EO o=true) (hs:Sim H ι s {tmps:=tm,defers:=[]} w) (hnm:NoMap s.h) (hr0:HeapRel H0 ι0 h0 w0) (hst:Step H0 ι0 h0 w0 H ι s.h w) (hD:w0.heap.size<=D) (hK:w.heap[D]?=some (.deferred (some [])))
 (hd:DOps P ops s.n ops.toList s.env s.h [] (fun s'=>NoMap s'.h/\∃xs,CD T s' fn.results.toList xs/\R (CQ xs) s'.h)):
 (Code.seq (.region id ops true) .ret).wp P (bodyPostM Fence.wide 3 P fn (fun e w'=>∃v r h' H' ι',e=.returned v/\R r h'/\Rel H' ι' r v/\HeapRel H' ι' h' w'/\Step H0 ι0 h0 w0 H' ι' h' w')) {tmps:=tm,defers:=[{target:=.collected D,args:= #[]}]} w:=by
 have hlo:¬LetsOut (Post H ι s.h w (Bk (fun s'=>NoMap s'.h/\∃xs,CD T s' fn.results.toList xs/\R (CQ xs) s'.h) fun _ _=>False)):=fun⟨a,w,s',H',ι',q,r⟩=>q
 refine wp_seq (wp_mono (wp_region_any hmx (Px (ds:=[{target:=.collected D,args:= #[]}]) hlo hld _ _ _ _ (DOps.any (K:=fun s'=>NoMap s'.h/\∃xs,CD T s' fn.results.toList xs/\R (CQ xs) s'.h) hd hs))) fun e a' w' hp=>?_);obtain⟨tm',rfl,s',H',ι',q,r,t⟩:=hp
 cases e with
 |normal=>
  obtain⟨qn,xs,q1,q2⟩:=q;refine wp_ret ?_;have hoth:=t.others hs.heap hnm;have hK':=hoth.same D _ hK rfl;have hg:=grownBy_putObj' w' D (.deferred none);have hrow:∀r,some D=some r->∃o:Obj,w'.heap[r]?=some o/\o.isCells=false:=fun r e=>by cases e;exact⟨_,hK',rfl⟩
  have hr2:=r.heap.grownO qn hg hrow;have hst2:Step H0 ι0 h0 w0 H' ι' s'.h (w'.putObj D (.deferred none)):=(hst.trans hr0 hs.heap t).grown hg (fun r e=>by cases e;exact hD);refine⟨by simp,.inl ⟨D,_,rfl,run_takeDeferred hK',?_⟩⟩;obtain⟨v,e1,e2⟩:=Dm hT (s:=s') (a:={tmps:=tm',defers:=[]}) ⟨r.n,rfl,r.env,hr2⟩ q1;exact⟨v,e2,v,_,_,H',ι',rfl,q2,e1,hr2,hst2⟩
 |_=>exact q.elim
end
end Go.Proofs.YtijlphdockhgjaaGreatDoor.Sv
namespace Go.Proofs.YtijlphdockhgjaaGreatDoor.Sv
open Go Go.RowKit
section
variable {P : Program}
def AW(P:Program)(Q:Exit->Act->World->Prop)(H0:Aq)(ι0:AL)(h0:Aa)(w0:World)(c:Code)(s:Ac):Prop:=
  ∀H ι a w,Sim H ι s a w->Step H0 ι0 h0 w0 H ι s.h w->c.wp P Q a w
def AD(K:Act->World->Prop)(H0:Aq)(ι0:AL)(h0:Aa)(w0:World)(s:Ac):Prop:=
  ∀H ι tm w D,Sim H ι s {tmps:=tm,defers:=[]} w->Step H0 ι0 h0 w0 H ι s.h w->w0.heap.size<=D->w.heap[D]?=some (.deferred (some []))->K {tmps:=tm,defers:=[{target:=.collected D,args:= #[]}]} w
variable {Q : Exit -> Act -> World -> Prop} {H0 : Aq} {ι0 : AL} {h0 : Aa} {w0 : World} {s s' : Ac} {K : Act -> World -> Prop}
theorem AW.seq(hr:HeapRel H0 ι0 h0 w0){x y:Code}(h:AGo P x s (Bk (fun s'=>AW P Q H0 ι0 h0 w0 y s') (fun _ _=>False))):AW P Q H0 ι0 h0 w0 (.seq x y) s:=fun H ι a w hs hst=>by
 refine wp_seq (wp_mono (h H ι a w hs) fun e a' w' hp=>?_);obtain⟨s',H',ι',q,r,t⟩:=hp
 cases e with
 |normal=>exact q H' ι' a' w' r (hst.trans hr hs.heap t)
 |_=>exact q.elim
theorem UH{x y:Code}(h:AW P (fun e a w=>match e with
 | .normal=>y.wp P Q a w
 |e=>Q e a w) H0 ι0 h0 w0 x s):AW P Q H0 ι0 h0 w0 (.seq x y) s:=fun H ι a w hs hst=>by
 refine wp_seq (wp_mono (h H ι a w hs hst) fun e a' w' hp=>?_)
 cases e<;>exact hp
theorem AD.ghost(hr:HeapRel H0 ι0 h0 w0)(hg:Ghost s s')(h:AD K H0 ι0 h0 w0 s'):AD K H0 ι0 h0 w0 s:=fun H ι tm w D hs hst hD hK=>by
 obtain⟨H',ι',g1,g2⟩:=hg H ι _ w hs;exact h H' ι' tm w D g1 (hst.trans hr hs.heap g2) hD hK
theorem AW.range(hr:HeapRel H0 ι0 h0 w0){α:Type}{g:Operand}{p d ida b0:Nat}{oa:Oper}{body:Code}{gf:Nat}{cs:List AV}
 (hoa:oa.op=.assign (.tmp p)) (hda:oa.dst=some d) (hga:oa.guard=none) (hp:p<s.n) (hd:d<s.n) (hpd:p≠d)
 (hg:look s.env g=some (.fn (.func gf) [] cs)) (eg:∀args w,(callFunc gf args).run P w=.ok (.enter gf args) w)
 (enc:α->Value) (av:α->AV) (hav:∀x H ι,Rel H ι (av x) (enc x)) {S:List α->Prop} {N:Nat}
 (hseq:∀H ι w,HeapRel H ι s.h w->∀lb:Array Value,lb.size=cs.length->(∀(j:Nat) (x:AV) (v:Value),cs[j]?=some x->lb[j]?=some v->Rel H ι x v)->SeqStopsK Fence.wide 3 P gf lb (fun x=> #[enc x]) (fun _ _=>True) S (fun _=>True) N w)
 (e0:Ar) (hI:List α->Aa) (he0:ESub e0 s.env) (hm0:NoMap s.h) (hm:∀pre,NoMap (hI pre)) (h1:HSub (hI []) s.h)
 (hbody:∀(l:Nat) (pre:List α) (x:α),pre.length<N->AGoR P l 2 body ⟨s.n,Ad (Ad e0 p (av x)) d (av x),hI pre⟩ (Bk (fun s'=>HSub (hI (pre++[x])) s'.h) (fun _ _=>False)))
 (hdone:∀xs,S xs->AD (Q .normal) H0 ι0 h0 w0 ⟨s.n,s.env,hI xs⟩):
 AW P Q H0 ι0 h0 w0 (.block b0 (.rangeFunc g #[p] (.region ida #[oa] false) body)) s:=fun H ι a w hs hst=>by
 refine wp_block ?_;refine Xf hs hoa hda hga hp hd hpd hg eg hav (hseq H ι w hs.heap) e0 hI he0 hm0 hm h1 hbody fun D xs W H' ι' hD hS hr' hst' hK=>?_
 show Q .normal _ W;refine hdone xs hS H' ι' _ W D ⟨hs.n,rfl,fun t x hx=>?_,hr'⟩ (hst.trans hr hs.heap hst') (Nat.le_trans hst.size hD) hK;obtain⟨v,e1,e2⟩:=hs.env t x hx;exact⟨v,e1,e2.mono hst'.kle hst'.lle⟩
theorem AGoR.join{l n:Nat}{R:Exit->Ac->Prop}{γ:Type}{c:Code}(inv:γ->Ac)(F:γ->Prop)(h:AGoR P l n c s (Bk (fun s'=>∃g,Sub (inv g) s'/\F g) R))(k:∀g,F g->R .normal (inv g)):AGoR P l n c s R:=fun H ι a w hs=>
 wpIn_mono (h H ι a w hs) fun e a' w' hp=>by
  exact kF
theorem Ghost.freezeP{n:Nat}{e:Ar}{h:Aa}(t b:Nat){sz:Nat}{cs:List AV}(ht:e t=some (.ptr b 1 0 0))(hb:h b=some (.row true sz [cs])):Ghost ⟨n,e,h⟩ ⟨n,Ad e t (.loc cs),hrm h b⟩:=fun H ι a w hs=>by
 have hr:=hs.heap;obtain⟨r,hl,⟨r1,r2,r3,r4,r5,r6⟩,r7⟩:=hr.obj b _ hb rfl;have hsol:r.csz≠0:=by simp at r4;omega
 have hsubh:∀x o,hrm h b x=some o->h x=some o:=fun x o hx=>by
  by_cases hxb:x=b
  . subst hxb;rw[Hh]at hx;cases hx
  . rwa[Hi _ hxb]at hx
 have hdom:∀x,h x=none->hrm h b x=none:=fun x hx=>by
  cases e:hrm h b x with
  |none=>rfl
  |some o=>rw[hsubh x o e]at hx;cases hx
 obtain⟨c,TT,w1,w2,w3⟩:=r6 hsol;have hnone:H r.rb=none:=r7 hsol;have hkle:KLe H (Im H r.rb c):=fun x c' e=>by
  rw[DK _ _ (fun hx=>by subst hx;rw[hnone]at e;cases e)];exact e
 have hsub:=hr.sub hsubh;have hheap:HeapRel (Im H r.rb c) ι (hrm h b) w:=by
  refine⟨fun x c' e=>?_,hsub.free,fun x o h1 h2=>?_,hsub.inj,hr.glob.mono hkle⟩
  . by_cases hx:x=r.rb
    . subst hx;rw[EP]at e;cases e;obtain⟨fr,w1',_⟩:=w1;exact⟨TT,fr,w1'⟩
    . rw[DK _ _ hx]at e;exact hr.know x c' e
  . obtain⟨r',e1,e2,e3⟩:=hsub.obj x o h1 h2;exact kC
 have hstep:Step H ι h w (Im H r.rb c) ι (hrm h b) w:=by
  refine⟨Nat.le_refl _,rfl,rfl,fun _ _ _=>rfl,hkle,fun x hx=>?_,LLe.refl _,fun _ _=>rfl,fun _ _ h _=>.inl h,hdom⟩
  by_cases hx':x=r.rb
  . subst hx';exact .inr (.inr ⟨b,_,r,hb,rfl,hl,hsol,rfl⟩)
  . rw[DK _ _ hx']at hx;exact .inl hx
 refine⟨_,ι,⟨hs.n,hs.d,fun u y hy=>?_,hheap⟩,hstep⟩
 by_cases hu:u=t
 . subst hu;simp only[BX,Option.some.injEq]at hy;subst hy;obtain⟨v,h1,h2⟩:=hs.env u _ ht;have hv:=h2.ptr_live hl r3;subst hv;refine⟨_,h1,.loc _ _ _ _ c (fun k=>(c[0*r.sz+0+k]?).getD undef) (EP _ _ _) (fun j x hj=>?_) (fun j x hj=>?_) (fun j x hj=>?_)⟩
   . obtain⟨u,f1,_⟩:=w3.2 0 cs j x rfl hj;have f1':c[0*r.sz+0+j]?=some u:=by rw[<-f1];congr 1;rw[r1];omega
     show c[0*r.sz+0+j]?=some ((c[0*r.sz+0+j]?).getD undef);rw[f1'];rfl
   . obtain⟨u,f1,f2,_⟩:=w3.2 0 cs j x rfl hj;have f1':c[0*r.sz+0+j]?=some u:=by rw[<-f1];congr 1;rw[r1];omega
     show Rel _ _ _ ((c[0*r.sz+0+j]?).getD undef);rw[f1'];exact f2.mono hkle (LLe.refl _)
   . obtain⟨u,_,_,f3⟩:=w3.2 0 cs j x rfl hj;exact f3
 . simp only[C3 _ _ hu]at hy;obtain⟨v,h1,h2⟩:=hs.env u y hy;exact⟨v,h1,h2.mono hkle (LLe.refl _)⟩
theorem aG{h:Aa}(hh:NoMap h)(b:Nat):NoMap (hrm h b):=fun c q hq=>by
 by_cases hc:c=b
 . subst hc;rw[Hh]at hq;cases hq
 . rw[Hi _ hc]at hq;exact hh c q hq
abbrev aJ(P:Program)(fn:Func)(R:AV->Aa->Prop)(H:Aq)(ι:AL)(h:Aa)(w:World):Exit->Act->World->Prop:=
  bodyPostM Fence.wide 3 P fn (fun e w'=>∃v r h' H' ι',e=.returned v/\R r h'/\Rel H' ι' r v/\HeapRel H' ι' h' w'/\Step H ι h w H' ι' h' w')
theorem Hu{f:FuncId}{fn:Func}{c:Code}{args:List AV}{h:Aa}{R:AV->Aa->Prop}(hf:P.funcs[f]?=some fn)(hb:fn.body=some c){n:Nat}(hn:args.length+(fn.ntmps-args.length)=n)
 (hg:∀H ι w,HeapRel H ι h w->AW P (aJ P fn R H ι h w) H ι h w c ⟨n,C9 args,h⟩):ACall P f args h R:=by
 intro H ι w vs ha hr;have hs:Sim H ι ⟨n,C9 args,h⟩ {tmps:=vs++Array.replicate (fn.ntmps-vs.size) undef,defers:=[]} w:=by
  exact WX
 exact callsIn_wide.1 (callsIn_of_wp_marks (F:=Fence.wide) (n:=3) hf hb trivial (wpIn_wide.2 (hg H ι w hr H ι _ w hs (Step.refl _ _ _ _))))
theorem eu{T:Nat->Option Ae}(hT:Bc P T)(hmx:P.follows .mixedOrders=true){fn:Func}{ops:Array Oper}{id:Nat}{R:AV->Aa->Prop}(hr:HeapRel H0 ι0 h0 w0)
 (hld:∀(i:Nat) o,ops[i]?=some o->EO o=true) (hnm:NoMap s.h)
 (hd:DOps P ops s.n ops.toList s.env s.h [] (fun s'=>NoMap s'.h/\∃xs,CD T s' fn.results.toList xs/\R (CQ xs) s'.h)):
 AD (fun a w=>(Code.seq (.region id ops true) .ret).wp P (aJ P fn R H0 ι0 h0 w0) a w) H0 ι0 h0 w0 s:=fun H ι tm w D hs hst hD hK=>
 bi hT hmx hld hs hnm hr hst hD hK hd
theorem WN{ops:Array Oper}{o:Oper}{rest:List Oper}{n:Nat}{e:Ar}{h:Aa}{K:Ac->Prop}(d:Nat){v:Value}(hd:o.dst=some d)(ho:o.op=.assign (.const v))(hg:o.guard=none)(he:e d=none)(hr:AOps P ops rest ⟨n,e,h⟩ K):AOps P ops (o::rest) ⟨n,e,h⟩ K:=by
 intro H ι a w hs;unfold wpList;rw[if_pos (by simp[Region.wanted,hg])];refine .inl ?_;unfold Oper.wp;simp only[execOp,ho,Sem.run_pure];refine hr H ι _ w ?_;rw[hd];refine⟨by simp[Act.put,hs.n],hs.d,fun t x hx=>?_,hs.heap⟩;have hne:d≠t:=fun e2=>by subst e2;rw[show e d=some x from hx]at he;cases he
 obtain⟨v',e1,e2⟩:=hs.env t x hx;exact⟨v',by simp only[Act.put];rw[Array.getElem?_setIfInBounds_ne hne];exact e1,e2⟩
end
end Go.Proofs.YtijlphdockhgjaaGreatDoor.Sv
namespace Go.Proofs.YtijlphdockhgjaaGreatDoor.Sv
open Go Go.RowKit
def cz:Obj->Bool
  | .loop _=>true
  | .deferred _=>true
  |_=>false
theorem HeapRel.notOwned{H:Aq}{ι:AL}{h:Aa}{w:World}(hr:HeapRel H ι h w){b:Nat}{o:Obj}(hb:w.heap[b]?=some o)(ho:cz o=true):¬Ft h ι b:=by
 rintro⟨c,q,r,h1,h2,h3,hsol,rfl⟩
 obtain⟨r',e1,e2,_⟩:=hr.obj c q h1 h2;rw[h3]at e1;cases e1
 cases q with
 |free=>cases h2
 |row p sz es=>
  obtain⟨_,_,_,_,_,hx⟩:=e2;obtain⟨cc,T,⟨fr,q1,_⟩,_⟩:=hx hsol;rw[hb]at q1;cases q1;cases ho
 |map kvs=>
  obtain⟨_,_,es,clk,hc,_⟩:=e2;rw[hb]at hc;cases hc;cases ho
 |iter0=>
  have:=e2.2.2.2;rw[hb]at this;cases this;cases ho
theorem Step.odd{H:Aq}{ι:AL}{h:Aa}{w:World}{H':Aq}{ι':AL}{h':Aa}{w':World}(hr:HeapRel H ι h w)(st:Step H ι h w H' ι' h' w'){b:Nat}{o:Obj}(hb:w.heap[b]?=some o)(ho:cz o=true):w'.heap[b]?=some o:=
 (st.keep b (Array.getElem?_eq_some_iff.1 hb).1 (hr.notOwned hb ho)).trans hb
theorem HeapRel.putOdd{H:Aq}{ι:AL}{h:Aa}{w:World}(hr:HeapRel H ι h w){b:Nat}{o:Obj}(hb:w.heap[b]?=some o)(ho:cz o=true)(o':Obj):HeapRel H ι h (w.putObj b o'):=by
 have key:∀(c:Nat) (q:Obj),w.heap[c]?=some q->cz q=false->(w.putObj b o').heap[c]?=some q:=fun c q hc hq=>by
  rw[World.putObj_heap_other (fun e=>by subst e;rw[hb]at hc;cases hc;rw[ho]at hq;cases hq)];exact hc
 refine⟨fun c v hv=>?_,hr.free,fun c q h1 h2=>?_,hr.inj,hr.glob⟩
 . obtain⟨T,fr,e⟩:=hr.know c v hv;exact⟨T,fr,key _ _ e rfl⟩
 . obtain⟨r,e1,e2,e3⟩:=hr.obj c q h1 h2;refine⟨r,e1,?_,e3⟩
   cases q with
   |free=>trivial
   |map kvs=>
    obtain⟨r1,r2,es,clk,hc,r3⟩:=e2;exact⟨r1,r2,es,clk,key _ _ hc rfl,r3⟩
   |iter0=>
    obtain⟨r1,r2,r3,r4⟩:=e2;exact⟨r1,r2,r3,key _ _ r4 rfl⟩
   |row p sz es=>
    obtain⟨r1,r2,r3,r4,r5,r6⟩:=e2;refine⟨r1,r2,r3,r4,r5,fun hsol=>?_⟩;obtain⟨cc,T,⟨fr,q1,q2⟩,q3,q4⟩:=r6 hsol;exact⟨cc,T,⟨fr,key _ _ q1 rfl,q2⟩,q3,q4⟩
theorem Step.putOdd{H:Aq}{ι:AL}{h:Aa}{w:World}{H':Aq}{ι':AL}{h':Aa}{w':World}(st:Step H ι h w H' ι' h' w'){b:Nat}(hb:w.heap.size<=b)(o':Obj):Step H ι h w H' ι' h' (w'.putObj b o') where
 size:=by rw[World.putObj_size];exact st.size
 os:=st.os
 out:=st.out
 keep:=fun rb hlt hno=>by rw[World.putObj_heap_other Ab];exact st.keep rb hlt hno
 kle:=st.kle
 knew:=st.knew
 lle:=st.lle
 lframe:=st.lframe
 newrb:=st.newrb
 dom:=st.dom
theorem Qs{w:World}{l:Nat}{o o':Obj}(h:w.heap[l]?=some o):(w.putObj l o').putObj l o=w:=by
 have:(w.heap.setIfInBounds l o').setIfInBounds l o=w.heap:=by
  apply Array.ext_getElem?;intro i
  by_cases hi:i=l
  . subst hi;have hlt:=(Array.getElem?_eq_some_iff.1 h).1;rw[h];simp[hlt]
  . rw[Array.getElem?_setIfInBounds_ne (Ne.symm hi),Array.getElem?_setIfInBounds_ne (Ne.symm hi)]
 unfold World.putObj;simp only[this]
structure LoopAt(l K:Nat)(rec:Loop)(w:World):Prop where
  hl:w.heap[l]?=some (.loop rec)
  hk:w.heap[K]?=some (.deferred (some []))
  ne:l≠K
structure Kh(rec:Loop):Prop where
  state:rec.state=.ready
  pending:rec.pending=none
  params:rec.params.size=1
  assign:rec.assign=.skip
  body:∃b,rec.body=.block b .skip
theorem LoopAt.step{l K:Nat}{rec:Loop}{H:Aq}{ι:AL}{h:Aa}{w:World}{H':Aq}{ι':AL}{h':Aa}{w':World}(hl:LoopAt l K rec w)(hr:HeapRel H ι h w)(st:Step H ι h w H' ι' h' w'):LoopAt l K rec w':=
 ⟨st.odd hr hl.hl rfl,st.odd hr hl.hk rfl,hl.ne⟩
theorem XM{P:Program}{l K:Nat}{rec:Loop}{w:World}(hl:LoopAt l K rec w)(hi:Kh rec){args:Array Value}(hs:args.size=1):YieldAt Fence.wide 2 P l args w (fun e w'=>e=.returned (.bool true)/\w'=w):=by
 have hy:=run_yield (P:=P) (args:=args) hl.hl (by rw[hi.params];exact hs);refine⟨_,_,_,_,hy,roundIn_of_wpIn trivial ?_⟩;rw[hi.assign];refine wpIn_skip ⟨_,run_beginRound hl.hl hi.state,?_⟩;obtain⟨b,hb⟩:=hi.body;have aux:∀{c:Code} {F:Fence} {n:Nat} {Q:Exit->Act->World->Prop} {a:Act} {w:World},c=.block b .skip->Q .normal a w->c.wpIn F n P Q a w:=fun hc hq=>by
  subst hc;exact wpIn_block (wpIn_skip hq)
 refine aux hb ?_;have hlt:l<w.heap.size:=(Array.getElem?_eq_some_iff.1 hl.hl).1;have h2:(w.putObj l (.loop {rec with state:=.busy})).heap[l]?=some (.loop {rec with state:=.busy}):=World.putObj_heap_same hlt;have he:=run_endRound (P:=P) none h2;refine⟨_,_,he,rfl,?_⟩;have e:({{rec with state:=.busy}with state:=(if(none:Option Code).isNone then .ready else .done),pending:=none}:Loop)=rec:=by
  cases rec
  have h1:=hi.state;have h3:=hi.pending;simp only at h1 h3;subst h1;subst h3;rfl
 rw[e];exact Qs hl.hl
def PostY(l K:Nat)(rec:Loop)(H:Aq)(ι:AL)(h:Aa)(w:World)(Q:Exit->Ac->Prop):Exit->Act->World->Prop:=fun e a' w'=>Post H ι h w Q e a' w'/\LoopAt l K rec w'
def AGoY(P:Program)(l K:Nat)(rec:Loop)(c:Code)(s:Ac)(Q:Exit->Ac->Prop):Prop:=
  ∀H ι a w,Sim H ι s a w->LoopAt l K rec w->c.wpIn Fence.wide 3 P (PostY l K rec H ι s.h w Q) a w
def AOpsY(P:Program)(l K:Nat)(rec:Loop)(ops:Array Oper)(L:List Oper)(s:Ac)(Q:Exit->Ac->Prop):Prop:=
  ∀H0 ι0 h0 w0,HeapRel H0 ι0 h0 w0->∀H ι a w,Sim H ι s a w->Step H0 ι0 h0 w0 H ι s.h w->LoopAt l K rec w->wpListIn Fence.wide 3 P ops (PostY l K rec H0 ι0 h0 w0 Q) L a w
section
variable {P : Program} {l K : Nat} {rec : Loop} {s : Ac} {Q : Exit -> Ac -> Prop}
theorem PostY.step{H:Aq}{ι:AL}{h:Aa}{w:World}{H':Aq}{ι':AL}{h':Aa}{w':World}(hr:HeapRel H ι h w)(hr':HeapRel H' ι' h' w')(st:Step H ι h w H' ι' h' w'){e:Exit}{a:Act}{w'':World}(hp:PostY l K rec H' ι' h' w' Q e a w''):PostY l K rec H ι h w Q e a w'':=
 ⟨Post.step hr hr' st hp.1,hp.2⟩
theorem AGoY.of{c:Code}(h:AGo P c s Q):AGoY P l K rec c s Q:=fun H ι a w hs hl=>
 wpIn_wide.2 (wp_mono (h H ι a w hs) fun e a' w' hp=>⟨hp,by
  obtain⟨s',H',ι',q,r,t⟩:=hp;exact hl.step hs.heap t⟩)
theorem AGoY.mono{c:Code}{Q':Exit->Ac->Prop}(h:AGoY P l K rec c s Q)(hq:∀e s,Q e s->Q' e s):AGoY P l K rec c s Q':=fun H ι a w hs hl=>wpIn_mono (h H ι a w hs hl) fun e a' w' hp=>⟨hp.1.mono (hq e),hp.2⟩
theorem AGoY.seq{x y:Code}(h:AGoY P l K rec x s (Bk (fun s'=>AGoY P l K rec y s' Q) Q)):AGoY P l K rec (.seq x y) s Q:=by
 intro H ι a w hs hl;refine wpIn_seq (wpIn_mono (h H ι a w hs hl) fun e a' w' hp=>?_)
 cases e with
 |normal=>
  obtain⟨⟨s',H',ι',q,r,t⟩,hl'⟩:=hp;exact wpIn_mono (q H' ι' a' w' r hl') fun e a'' w'' hp'=>PostY.step hs.heap r.heap t hp'
 |_=>exact hp
theorem AGoY.cond{t:Nat}{x y:Code}(b:Bool)(he:s.env t=some (.bool b))(h:AGoY P l K rec (bif b then x else y) s Q):AGoY P l K rec (.cond (.tmp t) x y) s Q:=by
 intro H ι a w hs hl;obtain⟨v,hv,hr⟩:=hs.env t _ he
 cases hr
 have hev:a.eval (.tmp t)=.bool b:=by simp[Act.eval,hv]
 cases b with
 |true=>exact wpIn_cond_split hev (fun e=>h H ι a w hs hl) JH
 |false=>exact wpIn_cond_split hev JH (fun e=>h H ι a w hs hl)
theorem AGoY.block{id:Nat}{c:Code}(h:AGoY P l K rec c s (JD id Q)):AGoY P l K rec (.block id c) s Q:=by
 intro H ι a w hs hl;refine wpIn_block (wpIn_mono (h H ι a w hs hl) fun e a' w' hp=>?_)
 cases e with
 |exit id'=>
  obtain⟨⟨s',H',ι',q,r⟩,hl'⟩:=hp;simp only[Exit.inBlock];simp only[JD]at q
  by_cases hid:id'=id
  . subst hid;simp only[Nat.beq_refl,cond_true]at q;rw[if_pos rfl];exact⟨⟨s',H',ι',q,r⟩,hl'⟩
  . rw[if_neg hid];rw[AC hid]at q;exact⟨⟨s',H',ι',q,r⟩,hl'⟩
 |_=>exact hp
theorem AGoY.loop{γ:Type}{c:Code}(I:γ->Ac->Prop)(μ:γ->Nat)(g0:γ)(h0:I g0 s)
 (round:∀g s,I g s->AGoY P l K rec c s (Bk (fun s'=>∃g',I g' s'/\μ g'<μ g) Q)):AGoY P l K rec (.loop c) s Q:=by
 intro H ι a w hs hl b k cs hro hb hr;have key:∀m g s1 H1 ι1 a1 w1,μ g=m->I g s1->Sim H1 ι1 s1 a1 w1->Step H ι s.h w H1 ι1 s1.h w1->LoopAt l K rec w1->
  ∃e a' w',PostY l K rec H ι s.h w Q e a' w'/\ArrivesIn (Machine.fenced P Fence.wide) P (lone (b.atR a1 (.code c:: .inLoop c::k)) cs w1) b k cs e a' w':=by
  intro m
  induction m using Nat.strongRecOn with
  |_ m ih=>
   intro g s1 H1 ι1 a1 w1 hn hI hs1 hst hl1;obtain⟨e,a₂,w₂,hq,harr⟩:=round g s1 hI H1 ι1 a1 w1 hs1 hl1 b (.inLoop c::k) cs hro hb hr;obtain⟨⟨s2,H2,ι2,q,r,t⟩,hl2⟩:=hq;have t':=hst.trans hs.heap hs1.heap t
   cases e with
   |normal=>
    obtain⟨g',hI',hlt⟩:=q;obtain⟨e₂,a₃,w₃,hq₂,harr₂⟩:=ih (μ g') (hn▸hlt) g' s2 H2 ι2 a₂ w₂ rfl hI' r t' hl2;exact eR
   |exit id=>exact⟨.exit id,a₂,w₂,⟨⟨s2,H2,ι2,q,r,t'⟩,hl2⟩,.pass (x:=.inLoop c) rfl (fun _ _=>.inl Az) harr⟩
   |goto t=>exact⟨.goto t,a₂,w₂,⟨⟨s2,H2,ι2,q,r,t'⟩,hl2⟩,.pass (x:=.inLoop c) rfl (fun _ _=>.inl Az) harr⟩
   |ret=>exact⟨.ret,a₂,w₂,⟨⟨s2,H2,ι2,q,r,t'⟩,hl2⟩,.pass (x:=.inLoop c) rfl (fun _ _=>.inl Az) harr⟩
   |panic ch=>exact⟨.panic ch,a₂,w₂,⟨⟨s2,H2,ι2,q,r,t'⟩,hl2⟩,.pass (x:=.inLoop c) rfl (fun _ _=>.inl Az) harr⟩
   |outgrown=>exact⟨.outgrown,a₂,w₂,⟨⟨s2,H2,ι2,q,r,t'⟩,hl2⟩,.pass (x:=.inLoop c) rfl (fun _ _=>.inl Az) harr⟩
 obtain⟨e,a',w',hq,harr⟩:=key (μ g0) g0 s H ι a w rfl h0 hs (Step.refl _ _ _ _) hl;exact⟨e,a',w',hq,.of_steps (.one (fenced_calm hb hr rfl) stepR_loop) harr⟩
def d8(P:Program)(l K:Nat)(rec:Loop)(c:Code)(Q:Exit->Ac->Prop):Nat->Ac->Prop
  |0,s=>AGoY P l K rec c s (Bk (fun _=>False) Q)
  |n+1,s=>AGoY P l K rec c s (Bk (d8 P l K rec c Q n) Q)
theorem Xu{c:Code}{e:Exit}{s:Ac}{g:Nat}(h:Bk (d8 P l K rec c Q g) Q e s):Bk (fun s'=>∃g',d8 P l K rec c Q g' s'/\g'<g+1) Q e s:=by
 cases e with
 |normal=>exact⟨g,h,Nat.lt_succ_self g⟩
 |_=>exact h
theorem AGoY.unroll{c:Code}(n:Nat)(h:d8 P l K rec c Q n s):AGoY P l K rec (.loop c) s Q:=by
 refine AGoY.loop (d8 P l K rec c Q) (fun g=>g) n h fun g s hg=>?_
 cases g with
 |zero=>exact AGoY.mono (Q:=Bk (fun _=>False) Q) hg fun e s h=>PX h
 |succ g=>exact AGoY.mono (Q:=Bk (d8 P l K rec c Q g) Q) hg fun e s h=>Xu h
theorem AGoY.region{id:Nat}{ops:Array Oper}(h:AOpsY P l K rec ops ops.toList s Q):AGoY P l K rec (.region id ops false) s Q:=fun H ι a w hs hl=>
 wpIn_region_list (h H ι s.h w hs.heap H ι a w hs (Step.refl _ _ _ _) hl)
theorem AOpsY.nil{ops:Array Oper}(h:Q .normal s):AOpsY P l K rec ops [] s Q:=fun H0 ι0 h0 w0 hr0 H ι a w hs hst hl=>⟨⟨s,H,ι,h,hs,hst⟩,hl⟩
theorem QA{o:Oper}{a:Act}{w:World}{N:Act->World->Prop}{Q:Exit->Act->World->Prop}(hd:C1 o=true)(h:o.wp P a w N (fun _ _ _=>False)):o.wpIn Fence.wide 3 P a w N Q:=by
 refine⟨fun _ _=>trivial,?_⟩;rw[Oper.semAt_eq _ _ _ (fun c e=>by unfold C1 at hd;rw[e]at hd;cases hd)];unfold Oper.wp at h;generalize(execOp a.eval o).run P w=res at h|-
 cases res with
 |ok x w'=>
  cases x with
  |value v=>exact h
  |skip=>exact h
  |defer d=>exact h
  |enter f args=>
   refine⟨fun e=>(by cases e),(callsIn_wide (n:=2).2 h).mono fun e w'' he=>?_⟩
   cases e with
   |returned v=>exact he
   |panicked ch=>exact he.elim
   |outgrown=>obtain⟨_,_,hf⟩:=he;exact hf.elim
  |row r args=>exact⟨fun e=>(by cases e),fun c cs _=>by
   obtain⟨v,w',r,s⟩:=h c cs;exact⟨v,w',r,stepsIn_wide.2 s⟩⟩
  |_=>exact h.elim
 |halt x w'=>
  cases x with
  |panic v=>exact h.elim
  |_=>exact h.elim
theorem OpsJ.ofY{ops:Array Oper}{n:Nat}:OpsJ P ops n (fun L e h=>AOpsY P l K rec ops L ⟨n,e,h⟩ Q) where
 step:=fun {o rest e h R W r} hnd hg ho hd hn H0 ι0 h0 w0 hr0 H ι a w hs hst hl=>by
  unfold wpListIn;have hw:Region.wanted o (yielded ops a.tmps)=true:=AN hs hg;rw[if_pos hw];refine QA hnd (Oper.wp_mono (fun a' w' hx=>?_) (ho H ι a w _ _ hs (fun _ _=>rfl) (fun _ _=>rfl)));obtain⟨v,H',ι',rfl,h1,h2,h3⟩:=hx;exact hn H0 ι0 h0 w0 hr0 H' ι' _ w' (hs.put h2 h3 h1 hd) (hst.trans hr0 hs.heap h3) (hl.step hs.heap h3)
 inn:=fun {o rest e h} hnd hg hd ho H0 ι0 h0 w0 hr0 H ι a w hs hst hl=>by
  unfold wpListIn;have hw:Region.wanted o (yielded ops a.tmps)=true:=AN hs hg;rw[if_pos hw];refine QA hnd (Oper.wp_mono (fun a' w' hx=>?_) (ho H ι a w n _ hs));obtain⟨v,r,hn,H',ι',h0',rfl,h1,h2,h3⟩:=hx;exact h0' H0 ι0 h0 w0 hr0 H' ι' _ w' (hs.put (d:=o.dst) (r:=some r) h2 h3 (fun y e=>by cases e;exact h1) hd) (hst.trans hr0 hs.heap h3) (hl.step hs.heap h3)
 skip:=fun {o rest e h} hg hd hn H0 ι0 h0 w0 hr0 H ι a w hs hst hl=>by
  unfold wpListIn;have hw:Region.wanted o (yielded ops a.tmps)=false:=AN hs hg;rw[hw];simp only[Bool.false_eq_true,if_false];exact⟨fun _ _=>trivial,hn H0 ι0 h0 w0 hr0 H ι _ w (hs.put (d:=o.dst) (r:=some (.tup [])) hs.heap (Step.refl _ _ _ _) Xd hd) hst hl⟩
theorem AOpsY.yield{ops:Array Oper}{o:Oper}{rest:List Oper}{n:Nat}{e:Ar}{h:Aa}{y x:Operand}{tys:Array TypeId}(hi:Kh rec)(hg:Av ops o e=some true)(hd:∀t,o.dst=some t->t<n)(ho:o.op=.call {callee:=.value y,args:= #[x],argTypes:=tys})
 (hy:look e y=some (.fn (.yield l) [] [])) (hn:AOpsY P l K rec ops rest ⟨n,Cy e o.dst (some (.bool true)),h⟩ Q):AOpsY P l K rec ops (o::rest) ⟨n,e,h⟩ Q:=fun H0 ι0 h0 w0 hr0 H ι a w hs hst hl=>by
 unfold wpListIn;have hw:Region.wanted o (yielded ops a.tmps)=true:=AN hs hg;rw[if_pos hw];obtain⟨us,vs,hva,h1,h2,_,_⟩:=(Ai hs hy).fn_inv;have hus:us= #[]:=Array.eq_empty_of_size_eq_zero (by simpa using h1.symm);have hvs:vs= #[]:=Array.eq_empty_of_size_eq_zero (by simpa using h2.symm);subst hus;subst hvs;obtain⟨fn,tmps,assign,body,hyr,hR⟩:=XM (P:=P) (args:= #[a.eval x]) hl hi rfl;have hex:(execOp a.eval o).run P w=.ok (.round l fn tmps assign body) w:=by
  simp[execOp,ho,resolve,hva,invoke,Deferred.ofValue,hyr]
 refine⟨fun _ _=>trivial,?_⟩;rw[Oper.semAt_eq _ _ _ (fun c e=>by rw[ho]at e;cases e),hex];refine⟨fun e=>(by cases e),hR.mono fun e' w' he=>?_⟩;obtain⟨rfl,rfl⟩:=he;exact hn H0 ι0 h0 w0 hr0 H ι _ _ (hs.put (d:=o.dst) (r:=some (.bool true)) hs.heap (Step.refl _ _ _ _) (fun x e=>by cases e;exact .bool _ _) hd) hst hl
end
end Go.Proofs.YtijlphdockhgjaaGreatDoor.Sv
namespace Go.Proofs.YtijlphdockhgjaaGreatDoor.Sv
open Go Go.RowKit
inductive YU where
  |mk (x:Exit) (E:TE) (H:TH) (k:Nat) (u:List Nat)
  |bad (l:List Nat)
noncomputable def Pg(o:Oper)(E:TE):Option Nat:=match o.op with
  | .call ⟨.value y,args,_⟩=>match args.toList,lk y E with
    | [_],some (.fn (.yield i) [] [])=>some i
    |_,_=>none
  |_=>none
theorem Pf{o:Oper}{E:TE}{i:Nat}(h:Pg o E=some i):∃y x tys,o.op=.call {callee:=.value y,args:= #[x],argTypes:=tys}/\look (eF E) y=some (.fn (.yield i) [] []):=by
 unfold Pg at h;split at h
 . rename_i y args tys ho;split at h
   . rename_i x i' ha hy
     cases h
     rw[A1]at hy;exact⟨y,x,tys,by rw[ho,Jz ha],hy⟩
   . cases h
 . cases h
noncomputable def x9(ops:List Oper):Bool:=ops.any fun o=>match o.op with
  | .call ⟨.value (.tmp _),_,_⟩=>true
  |_=>false
section
variable (mt : Nat -> String -> Option Nat)
noncomputable def Yq(cl:CL)(n:Nat)(ops:List Oper):List Oper->TE->TH->Nat->List Nat->YU
  | [],E,H,k,u=>.mk .normal E H k u
  |o::l,E,H,k,u=>match Pg o E with
    |some i=>match Av ⟨ops⟩ o (eF E),dstOk o.dst n with
      |some true,true=>Yq cl n ops l (FO o.dst (.bool true) E) H k (i::u)
      |_,_=>.bad [4441]
    |none=>match C1 o with
      |true=>match opsF mt endS [o] n ops cl [] E H k with
        | .mk _ E1 H1 k1=>Yq cl n ops l E1 H1 k1 u
        | .bad l=>.bad l
      |false=>.bad [4442]
noncomputable def Zz(g:GF)(cl:CL):Nat->Nat->Code->TE->TH->Nat->List Nat->YU
  |0,_,_,_,_,_,_=>.bad [4443]
  |d+1,n,c,E,H,k,u=>match c with
    | .seq a b=>match Zz g cl d n a E H k u with
      | .mk .normal E1 H1 k1 u1=>Zz g cl d n b E1 H1 k1 u1
      | .mk x E1 H1 k1 u1=>.mk x E1 H1 k1 u1
      | .bad l=>.bad l
    | .cond (.tmp t) a b=>match lkT t E with
      |some (.bool v)=>Zz g cl d n (bif v then a else b) E H k u
      |_=>.bad [4444]
    | .block id b=>match Zz g cl d n b E H k u with
      | .mk (.exit i) E1 H1 k1 u1=>bif Nat.beq i id then .mk .normal E1 H1 k1 u1 else .mk (.exit i) E1 H1 k1 u1
      | .mk x E1 H1 k1 u1=>.mk x E1 H1 k1 u1
      | .bad l=>.bad l
    | .loop b=>match Zz g cl d n b E H k u with
      | .mk .normal E1 H1 k1 u1=>Zz g cl d n (.loop b) E1 H1 k1 u1
      | .mk x E1 H1 k1 u1=>.mk x E1 H1 k1 u1
      | .bad l=>.bad l
    | .region id ops false=>match x9 ops.toList with
      |true=>Yq mt cl n ops.toList ops.toList E H k u
      |false=>match g n (.region id ops false) E H k with
        | .mk x E1 H1 k1=>.mk x E1 H1 k1 u
        | .bad l=>.bad l
    |c=>match g n c E H k with
      | .mk x E1 H1 k1=>.mk x E1 H1 k1 u
      | .bad l=>.bad l
end
def UF(P:Program)(l K:Nat)(rec:Loop)(n:Nat)(c:Code)(E:TE)(H:TH)(k:Nat)(x:Exit)(E':TE)(H':TH)(k':Nat):Prop:=
  ∀m,k'<=m->AGoY P l K rec c ⟨n,eF E,hF H k m⟩ (CX x ⟨n,eF E',hF H' k' m⟩)/\∀b,c=.loop b->∃j,d8 P l K rec b (CX x ⟨n,eF E',hF H' k' m⟩) j ⟨n,eF E,hF H k m⟩
theorem EL{l:List Nat}{x:Exit}{E:TE}{H:TH}{k:Nat}{u:List Nat}(h:YU.bad l=YU.mk x E H k u):False:=by cases h
def Us(l:Nat)(u:List Nat):Prop:=∀i∈u,i=l
section
variable {mt : Nat -> String -> Option Nat} {n : Nat} {cl : CL} {l K : Nat} {rec : Loop}
theorem OV(hT:Bc Tryz.prog TI)(hmt:G9 Tryz.prog mt)(hcl:cl.Ok Tryz.prog)(hi:Kh rec){ops:List Oper}:∀(L:List Oper) {E E':TE} {H H':TH} {k k':Nat} {x:Exit} {u u':List Nat},Yq mt cl n ops L E H k u=.mk x E' H' k' u'->
 k<=k'/\(Us l u'->Us l u/\∀m,k'<=m->AOpsY Tryz.prog l K rec ⟨ops⟩ L ⟨n,eF E,hF H k m⟩ (CX x ⟨n,eF E',hF H' k' m⟩))
 | [],E,E',H,H',k,k',x,u,u',h=>by
  cases h
  exact⟨Nat.le_refl _,fun hu=>⟨hu,fun m _=>AOpsY.nil ⟨rfl,rfl⟩⟩⟩
 |o::L,E,E',H,H',k,k',x,u,u',h=>by
  unfold Yq at h;split at h
  . rename_i i hy;split at h
    . rename_i hg hd;obtain⟨y,z,tys,h1,h2⟩:=Pf hy;obtain⟨hk,ha⟩:=OV hT hmt hcl hi L h;refine⟨hk,fun hu=>?_⟩;obtain⟨hu1,ha⟩:=ha hu;have hil:i=l:=hu1 i Az;subst hil;refine⟨fun j hj=>hu1 j (by simp[hj]),fun m hm=>?_⟩;have ha:=ha m hm;rw[show eF (FO o.dst (.bool true) E)=Cy (eF E) o.dst (some (.bool true))from Fm (r:=some (.bool true)) JH]at ha;exact AOpsY.yield hi hg (fun t e=>Nat.blt_eq.mp (Iv hd t e)) h1 h2 ha
    . exact(EL h).elim
  . split at h
    . rename_i hnd;split at h
      . rename_i x1 E1 H1 k1 h1;obtain⟨_,hk1,ha1⟩:=G7 hT hmt hcl [o] h1 (by simp[hnd]);obtain⟨hk,ha⟩:=OV hT hmt hcl hi L h;refine⟨Nat.le_trans hk1 hk,fun hu=>?_⟩;obtain⟨hu1,ha⟩:=ha hu;exact⟨hu1,fun m hm=>ha1 m (Nat.le_trans hk hm) L _ .ofY (ha m hm)⟩
      . exact(EL h).elim
    . exact(EL h).elim
theorem SZ{g:GF}(hT:Bc Tryz.prog TI)(hmt:G9 Tryz.prog mt)(hg:g.Ok Tryz.prog)(hcl:cl.Ok Tryz.prog)(hi:Kh rec):∀(d n:Nat) (c:Code) (E:TE) (H:TH) (k:Nat) (u:List Nat) (x:Exit) (E':TE) (H':TH) (k':Nat) (u':List Nat),Zz mt g cl d n c E H k u=.mk x E' H' k' u'->
 k<=k'/\(Us l u'->Us l u/\UF Tryz.prog l K rec n c E H k x E' H' k')
 |0,n,c,E,H,k,u,x,E',H',k',u',h=>(EL h).elim
 |d+1,n,c,E,H,k,u,x,E',H',k',u',h=>by
  have ih:=SZ hT hmt hg hcl hi d;have other:∀{c:Code},(∀b,c≠ .loop b)->(match g n c E H k with
   | .mk x E1 H1 k1=>YU.mk x E1 H1 k1 u
   | .bad l=>.bad l)=.mk x E' H' k' u'->k<=k'/\(Us l u'->Us l u/\UF Tryz.prog l K rec n c E H k x E' H' k'):=fun {c} hc h=>by
   split at h
   . rename_i x1 E1 H1 k1 h1
     cases h
     obtain⟨a1,a2⟩:=hg _ _ _ _ _ _ _ _ _ h1;exact⟨a1,fun hu=>⟨hu,fun m hm=>⟨AGoY.of (a2 m hm),fun b hb=>absurd hb (hc b)⟩⟩⟩
   . exact(EL h).elim
  unfold Zz at h;split at h
  . rename_i a b;split at h
    . rename_i E1 H1 k1 u1 h1;obtain⟨a1,a2⟩:=ih _ _ _ _ _ _ _ _ _ _ _ h1;obtain⟨b1,b2⟩:=ih _ _ _ _ _ _ _ _ _ _ _ h;refine⟨Nat.le_trans a1 b1,fun hu=>?_⟩;obtain⟨hu1,b2⟩:=b2 hu;obtain⟨hu2,a2⟩:=a2 hu1;refine⟨hu2,fun m hm=>⟨AGoY.seq (AGoY.mono (a2 m (Nat.le_trans b1 hm)).1 fun e s1 hh=>Ee hh (fun _=>(b2 m hm).1) (fun hn=>absurd rfl hn)),fun b hb=>by cases hb⟩⟩
    . rename_i x1 E1 H1 k1 u1 hx h1
      cases h
      obtain⟨a1,a2⟩:=ih _ _ _ _ _ _ _ _ _ _ _ h1;refine⟨a1,fun hu=>?_⟩;obtain⟨hu2,a2⟩:=a2 hu;exact⟨hu2,fun m hm=>⟨AGoY.seq (AGoY.mono (a2 m hm).1 fun e s1 hh=>Ee hh (fun hn=>(hx hn).elim) (fun _=>⟨rfl,rfl⟩)),fun b hb=>by cases hb⟩⟩
    . exact(EL h).elim
  . rename_i t a b;split at h
    . rename_i v hv;obtain⟨b1,b2⟩:=ih _ _ _ _ _ _ _ _ _ _ _ h;refine⟨b1,fun hu=>?_⟩;obtain⟨hu2,b2⟩:=b2 hu;exact⟨hu2,fun m hm=>⟨AGoY.cond v hv (b2 m hm).1,fun b hb=>by cases hb⟩⟩
    . exact(EL h).elim
  . rename_i id b;split at h
    . rename_i i E1 H1 k1 u1 h1;obtain⟨a1,a2⟩:=ih _ _ _ _ _ _ _ _ _ _ _ h1
      cases hid:Nat.beq i id with
      |true=>
       rw[hid]at h;have h:YU.mk .normal E1 H1 k1 u1=.mk x E' H' k' u':=h;exact kJ
      |false=>
       rw[hid]at h;have h:YU.mk (.exit i) E1 H1 k1 u1=.mk x E' H' k' u':=h;exact kJ
    . rename_i x1 E1 H1 k1 u1 hx h1
      cases h
      obtain⟨a1,a2⟩:=ih _ _ _ _ _ _ _ _ _ _ _ h1;refine⟨a1,fun hu=>?_⟩;obtain⟨hu2,a2⟩:=a2 hu;refine⟨hu2,fun m hm=>⟨AGoY.block (AGoY.mono (a2 m hm).1 fun x2 s2 hh=>?_),fun b hb=>by cases hb⟩⟩;obtain⟨rfl,rfl⟩:=hh
      cases x2 with
      |exit i=>exact(hx i rfl).elim
      |_=>exact⟨rfl,rfl⟩
    . exact(EL h).elim
  . rename_i b;split at h
    . rename_i E1 H1 k1 u1 h1;obtain⟨a1,a2⟩:=ih _ _ _ _ _ _ _ _ _ _ _ h1;obtain⟨b1,b2⟩:=ih _ _ _ _ _ _ _ _ _ _ _ h;refine⟨Nat.le_trans a1 b1,fun hu=>?_⟩;obtain⟨hu1,b2⟩:=b2 hu;obtain⟨hu2,a2⟩:=a2 hu1;refine⟨hu2,fun m hm=>?_⟩;obtain⟨j,hj⟩:=(b2 m hm).2 b rfl;have hun:d8 Tryz.prog l K rec b (CX x ⟨n,eF E',hF H' k' m⟩) (j+1) ⟨n,eF E,hF H k m⟩:=AGoY.mono (a2 m (Nat.le_trans b1 hm)).1 fun x2 s2 hh=>Ee hh (fun _=>hj) (fun hn=>absurd rfl hn)
      exact⟨AGoY.unroll _ hun,fun b' hb=>by cases hb;exact⟨_,hun⟩⟩
    . rename_i x1 E1 H1 k1 u1 hx h1
      cases h
      obtain⟨a1,a2⟩:=ih _ _ _ _ _ _ _ _ _ _ _ h1;refine⟨a1,fun hu=>?_⟩;obtain⟨hu2,a2⟩:=a2 hu;refine⟨hu2,fun m hm=>?_⟩;have hun:d8 Tryz.prog l K rec b (CX x ⟨n,eF E',hF H' k' m⟩) 0 ⟨n,eF E,hF H k m⟩:=AGoY.mono (a2 m hm).1 fun x2 s2 hh=>Ee hh (fun hn=>(hx hn).elim) (fun _=>⟨rfl,rfl⟩)
      exact⟨AGoY.unroll _ hun,fun b' hb=>by cases hb;exact⟨_,hun⟩⟩
    . exact(EL h).elim
  . rename_i id rops;split at h
    . obtain⟨a1,a2⟩:=OV (l:=l) (K:=K) hT hmt hcl hi rops.toList h;refine⟨a1,fun hu=>?_⟩;obtain⟨hu2,a2⟩:=a2 hu;exact⟨hu2,fun m hm=>⟨AGoY.region (a2 m hm),fun b hb=>by cases hb⟩⟩
    . exact other (fun b hb=>by cases hb) h
  . rename_i h1 h2 h3 h4 h5;exact other (fun b hb=>h4 b hb) h
end
end Go.Proofs.YtijlphdockhgjaaGreatDoor.Sv
namespace Go.Proofs.YtijlphdockhgjaaGreatDoor.Sv
open Go Go.RowKit
def AGoM(P:Program)(D:List Deferred)(c:Code)(s:Ac)(Q:Exit->Ac->Prop):Prop:=
  ∀H ι a w,Sim H ι s {a with defers:=[]} w->a.defers=D->c.wp P (PD D (Post H ι s.h w Q)) a w
def AOpsM(P:Program)(D:List Deferred)(ops:Array Oper)(L:List Oper)(s:Ac)(Q:Exit->Ac->Prop):Prop:=
  ∀H0 ι0 h0 w0,HeapRel H0 ι0 h0 w0->∀H ι a w,Sim H ι s {a with defers:=[]} w->Step H0 ι0 h0 w0 H ι s.h w->a.defers=D->wpList P ops (PD D (Post H0 ι0 h0 w0 Q)) L a w
section
variable {P : Program} {D : List Deferred} {s : Ac} {Q : Exit -> Ac -> Prop}
theorem AGoM.mono{c:Code}{Q':Exit->Ac->Prop}(h:AGoM P D c s Q)(hq:∀e s,Q e s->Q' e s):AGoM P D c s Q':=fun H ι a w hs hd=>wp_mono (h H ι a w hs hd) fun e a' w' hp=>⟨hp.1,hp.2.mono (hq e)⟩
theorem AGoM.seq{x y:Code}(h:AGoM P D x s (Bk (fun s'=>AGoM P D y s' Q) Q)):AGoM P D (.seq x y) s Q:=by
 intro H ι a w hs hd;refine wp_seq (wp_mono (h H ι a w hs hd) fun e a' w' hp=>?_)
 cases e with
 |normal=>
  obtain⟨hd',s',H',ι',q,r,t⟩:=hp;exact wp_mono (q H' ι' a' w' r hd') fun e a'' w'' hp'=>⟨hp'.1,Post.step hs.heap r.heap t hp'.2⟩
 |_=>exact hp
theorem AGoM.ret(h:Q .ret s):AGoM P D .ret s Q:=fun H ι a w hs hd=>wp_ret ⟨hd,s,H,ι,h,hs,Step.refl _ _ _ _⟩
theorem AGoM.region{id:Nat}{ops:Array Oper}(h:AOpsM P D ops ops.toList s Q):AGoM P D (.region id ops false) s Q:=fun H ι a w hs hd=>
 wp_region_list (h H ι s.h w hs.heap H ι a w hs (Step.refl _ _ _ _) hd)
theorem AOpsM.nil{ops:Array Oper}(h:Q .normal s):AOpsM P D ops [] s Q:=fun H0 ι0 h0 w0 hr0 H ι a w hs hst hd=>⟨hd,s,H,ι,h,hs,hst⟩
theorem OpsJ.ofM{ops:Array Oper}{n:Nat}:OpsJ P ops n (fun L e h=>AOpsM P D ops L ⟨n,e,h⟩ Q) where
 step:=fun {o rest e h R W r} hnd hg ho hd hn H0 ι0 h0 w0 hr0 H ι a w hs hst hD=>by
  unfold wpList;have hw:Region.wanted o (yielded ops a.tmps)=true:=AN hs hg;rw[hw];simp only[if_true];refine .inl (EN (R:=fun v w'=>∃H' ι',(∀x,r=some x->Rel H' ι' x v)/\HeapRel H' ι' (AA h W) w'/\Step H ι h w H' ι' (AA h W) w')
   (Oper.wp_mono (fun a' w' hx=>?_) (ho H ι {a with defers:=[]} w _ _ hs (fun _ _=>rfl) (fun _ _=>rfl))) (fun v w' hx=>?_))
  . obtain⟨v,H',ι',h1,h2⟩:=hx;exact⟨v,h1,H',ι',h2⟩
  . obtain⟨H',ι',h1,h2,h3⟩:=hx;have hs':=hs.put (d:=o.dst) h2 h3 h1 hd;rw[DY]at hs';exact hn H0 ι0 h0 w0 hr0 H' ι' _ w' hs' (hst.trans hr0 hs.heap h3) ((G4 a o.dst v).trans hD)
 inn:=fun {o rest e h} hnd hg hd ho H0 ι0 h0 w0 hr0 H ι a w hs hst hD=>by
  unfold wpList;have hw:Region.wanted o (yielded ops a.tmps)=true:=AN hs hg;rw[hw];simp only[if_true];refine .inl (EN (R:=fun v w'=>∃r hn H' ι',AOpsM P D ops rest ⟨n,Cy e o.dst (some r),hn⟩ Q/\Rel H' ι' r v/\HeapRel H' ι' hn w'/\Step H ι h w H' ι' hn w')
   (Oper.wp_mono (fun a' w' hx=>?_) (ho H ι {a with defers:=[]} w n _ hs)) (fun v w' hx=>?_))
  . obtain⟨v,r,hn,H',ι',h0',h1,h2,h3,h4⟩:=hx;exact⟨v,h1,r,hn,H',ι',h0',h2,h3,h4⟩
  . obtain⟨r,hn,H',ι',h0',h1,h2,h3⟩:=hx;have hs':=hs.put (d:=o.dst) (r:=some r) h2 h3 (fun y e=>by cases e;exact h1) hd;rw[DY]at hs';exact h0' H0 ι0 h0 w0 hr0 H' ι' _ w' hs' (hst.trans hr0 hs.heap h3) ((G4 a o.dst v).trans hD)
 skip:=fun {o rest e h} hg hd hn H0 ι0 h0 w0 hr0 H ι a w hs hst hD=>by
  unfold wpList;have hw:Region.wanted o (yielded ops a.tmps)=false:=AN hs hg;rw[hw];simp only[Bool.false_eq_true,if_false];have hs':=hs.put (d:=o.dst) (r:=some (.tup [])) (v:=undef) hs.heap (Step.refl _ _ _ _) Xd hd;rw[DY]at hs';exact hn H0 ι0 h0 w0 hr0 H ι _ w hs' hst ((G4 a o.dst undef).trans hD)
end
section
variable (mt : Nat -> String -> Option Nat)
noncomputable def jE(cl:CL):Nat->Nat->Code->TE->TH->Nat->YR
  |0,_,_,_,_,_=>.bad [4451]
  |d+1,n,c,E,H,k=>match c with
    | .seq a b=>match jE cl d n a E H k with
      | .mk .normal E1 H1 k1=>jE cl d n b E1 H1 k1
      | .mk x E1 H1 k1=>.mk x E1 H1 k1
      | .bad l=>.bad l
    | .region id ops false=>match ops.toList.all C1 with
      |true=>opsF mt endS ops.toList n ops.toList cl [] E H k
      |false=>.bad [4452]
    | .ret=>.mk .ret E H k
    |_=>.bad [4453]
end
theorem S0{mt:Nat->String->Option Nat}{cl:CL}{D:List Deferred}(hT:Bc Tryz.prog TI)(hmt:G9 Tryz.prog mt)(hcl:cl.Ok Tryz.prog):∀(d n:Nat) (c:Code) (E:TE) (H:TH) (k:Nat) (x:Exit) (E':TE) (H':TH) (k':Nat),jE mt cl d n c E H k=.mk x E' H' k'->
 k<=k'/\∀m,k'<=m->AGoM Tryz.prog D c ⟨n,eF E,hF H k m⟩ (CX x ⟨n,eF E',hF H' k' m⟩)
 |0,n,c,E,H,k,x,E',H',k',h=>(Bn h).elim
 |d+1,n,c,E,H,k,x,E',H',k',h=>by
  have ih:=S0 (D:=D) hT hmt hcl d;unfold jE at h;split at h
  . rename_i a b;split at h
    . rename_i E1 H1 k1 h1;obtain⟨a1,a2⟩:=ih _ _ _ _ _ _ _ _ _ h1;obtain⟨b1,b2⟩:=ih _ _ _ _ _ _ _ _ _ h;exact⟨Nat.le_trans a1 b1,fun m hm=>AGoM.seq (AGoM.mono (a2 m (Nat.le_trans b1 hm)) fun e s1 hh=>Ee hh (fun _=>b2 m hm) (fun hn=>absurd rfl hn))⟩
    . rename_i x1 E1 H1 k1 hx h1
      cases h
      obtain⟨a1,a2⟩:=ih _ _ _ _ _ _ _ _ _ h1;exact⟨a1,fun m hm=>AGoM.seq (AGoM.mono (a2 m hm) fun e s1 hh=>Ee hh (fun hn=>(hx hn).elim) (fun _=>⟨rfl,rfl⟩))⟩
    . exact(Bn h).elim
  . rename_i id rops;split at h
    . rename_i hnd;obtain⟨rfl,hk,ha⟩:=G7 hT hmt hcl _ h hnd;refine⟨hk,fun m hm=>AGoM.region ?_⟩;have:=ha m hm [] (fun L e h=>AOpsM Tryz.prog D ⟨rops.toList⟩ L ⟨n,e,h⟩ (CX .normal ⟨n,eF E',hF H' k' m⟩)) .ofM (AOpsM.nil ⟨rfl,rfl⟩);simpa using this
    . exact(Bn h).elim
  . cases h
    exact⟨Nat.le_refl _,fun m hm=>AGoM.ret ⟨rfl,rfl⟩⟩
  . exact(Bn h).elim
def ACallY(P:Program)(l K:Nat)(rec:Loop)(f:FuncId)(args:List AV)(h:Aa)(R:Aa->Prop):Prop:=
  ∀(H:Aq) (ι:AL) (w:World) (vs:Array Value),RelAll H ι args vs->HeapRel H ι h w->LoopAt l K rec w->
    CallsIn Fence.wide 3 P f vs w (fun e w'=>∃v h' H' ι',e=.returned v/\R h'/\HeapRel H' ι' h' w'/\Step H ι h w H' ι' h' w'/\LoopAt l K rec w')
theorem ACallY.of_body{P:Program}{T:Nat->Option Ae}{l K:Nat}{rec:Loop}{f:FuncId}{fn:Func}{c:Code}{args:List AV}{h:Aa}{R:Aa->Prop}(hT:Bc P T)(hf:P.funcs[f]?=some fn)(hb:fn.body=some c){n:Nat}(hn:args.length+(fn.ntmps-args.length)=n)
 (hg:AGoY P l K rec c ⟨n,C9 args,h⟩ (kg T fn fun _ h'=>R h')):ACallY P l K rec f args h R:=by
 intro H ι w vs ha hr hl;have hs:Sim H ι ⟨n,C9 args,h⟩ {tmps:=vs++Array.replicate (fn.ntmps-vs.size) undef,defers:=[]} w:=by
  exact WX
 refine callsIn_of_wp hf hb trivial (wpIn_mono (hg H ι _ w hs hl) fun e a' w' hp=>?_);obtain⟨⟨s',H',ι',q,r,t⟩,hl'⟩:=hp;have key:(∃xs,CD T s' fn.results.toList xs/\R s'.h)->a'.defers=[]/\∃v,(results fn a'.tmps).run P w'=.ok v w'/\∃v' h' H' ι',Ending.returned v=.returned v'/\R h'/\HeapRel H' ι' h' w'/\Step H ι h w H' ι' h' w'/\LoopAt l K rec w':=fun⟨xs,h1,h2⟩=>by
  obtain⟨v,e1,e2⟩:=Dm hT r h1;exact⟨r.d,v,e2,v,_,H',ι',rfl,h2,r.heap,t,hl'⟩
 exact W4
theorem WM{P:Program}{T:Nat->Option Ae}(hT:Bc P T){H0:Aq}{ι0:AL}{h0:Aa}{w0:World}(hr0:HeapRel H0 ι0 h0 w0){fn:Func}{R:AV->Aa->Prop}{gop:Operand}{ps:Array Tmp}{b0 b1 gf n:Nat}{e:Ar}{h:Aa}{cs:List AV}{rest:Code}{Qx:Exit->Act->World->Prop}(hQx:∀a w,rest.wp P (aJ P fn R H0 ι0 h0 w0) a w->Qx .normal a w)
 (hps:ps.size=1) (hg:look e gop=some (.fn (.func gf) [] cs)) (eg:∀args w,(callFunc gf args).run P w=.ok (.enter gf args) w)
 (hit:∀l,∃h2 x3 s3 s4 ys,(∀K rec,Kh rec->ACallY P l K rec gf (.fn (.yield l) [] []::cs) h (fun h'=>h'=h2))/\(∀D,AGoM P D rest ⟨n,e,h2⟩ (CX x3 s3))/\endsOk x3=true/\Ghost s3 s4/\CD T s4 fn.results.toList ys/\R (CQ ys) s4.h):
 AW P Qx H0 ι0 h0 w0 (.block b0 (.rangeFunc gop ps .skip (.block b1 .skip))) ⟨n,e,h⟩:=fun H ι a w hs hst=>by
 obtain⟨h2,x3,s3,s4,ys,hit,hrest,hx3,hgh,hres,hR⟩:=hit (w.heap.size+1);refine wp_block ?_;obtain⟨us,lb,hge,hus,hlb,_,hrl⟩:∃us lb,a.eval gop=.func (.func gf) us lb/\([]:List AV).length=us.size/\cs.length=lb.size/\True/\∀(j:Nat) (x:AV) (v:Value),cs[j]?=some x->lb[j]?=some v->Rel H ι x v:=by
  exact eJ
 have hus':us= #[]:=Array.eq_empty_of_size_eq_zero (by simpa using hus.symm);subst hus';refine wpIn_wide (n:=4).1 (wpIn_rangeFunc ?_);intro fnid _;obtain⟨rec,hrec⟩:∃rec:Loop,rec={state:=.ready,pending:=none,fn:=fnid,tmps:=a.tmps,params:=ps,assign:=.skip,body:=.block b1 .skip,defers:=w.heap.size}:=⟨_,rfl⟩
 obtain⟨W1,hW1⟩:∃W1,(w.alloc (.deferred (some []))).alloc (.loop rec)=W1:=⟨_,rfl⟩
 have hL1:W1.heap[w.heap.size+1]?=some (.loop rec):=by
  rw[<-hW1];have:=World.alloc_heap_new (w.alloc (.deferred (some []))) (.loop rec);rwa[World.size_alloc]at this
 have hK1:W1.heap[w.heap.size]?=some (.deferred (some [])):=by
  rw[<-hW1];exact(Below.heap_alloc _ _ _ Az).trans (World.alloc_heap_new w _)
 have hgrow:∀rb,rb<w.heap.size->W1.heap[rb]?=w.heap[rb]?:=fun rb hlt=>by
  rw[<-hW1];exact(Below.heap_alloc _ _ _ FI).trans (Below.heap_alloc _ _ _ hlt)
 have hsz:w.heap.size<=W1.heap.size:=by have:=(Array.getElem?_eq_some_iff.1 hK1).1;omega
 have hr1:HeapRel H ι h W1:=hs.heap.grow hgrow;have hst1:Step H ι h w H ι h W1:=Step.grow hgrow hsz (by rw[<-hW1];rfl) (by rw[<-hW1];rfl);have hli:Kh rec:=by rw[hrec];exact⟨rfl,rfl,hps,rfl,b1,rfl⟩
 refine⟨w.heap.size+1,[{target:=.collected w.heap.size,args:= #[]}],W1,{target:=.fn (.func gf) lb,args:= #[.func (.yield (w.heap.size+1)) #[] #[]]},W1,gf,
  #[.func (.yield (w.heap.size+1)) #[] #[]]++lb,W1,?_,?_,fun _ _=>trivial,?_,fun _=>by omega,?_⟩
 . rw[<-hW1,hrec];exact run_enterLoop_outer _ _ _ _ _
 . simp only[resolve,hge];simp[go_sem]
 . simp[invoke,go_sem,eg]
 . have hra:RelAll H ι (.fn (.yield (w.heap.size+1)) [] []::cs) (#[.func (.yield (w.heap.size+1)) #[] #[]]++lb):=by
    have h1:RelAll H ι [.fn (.yield (w.heap.size+1)) [] []] #[.func (.yield (w.heap.size+1)) #[] #[]]:=⟨rfl,fun j x v e1 e2=>by
     match j,e1,e2 with
     |0,e1,e2=>
      cases e1;cases e2
      exact .fn _ _ _ _ _ _ rfl rfl Xa Xa⟩
    exact BW h1 ⟨hlb,hrl⟩
   refine((hit w.heap.size rec hli) H ι W1 _ hra hr1 ⟨hL1,hK1,by omega⟩).mono ?_
   rintro e3 W2 ⟨v,h',H',ι',rfl,rfl,hr2,hst2,hl2⟩
   have hrun:=run_endLoop (P:=P) hl2.hl (by rw[hli.state];simp);generalize(Obj.loop {rec with state:=.exhausted})=ob at hrun;rw[hli.pending]at hrun;refine⟨none,_,hrun,?_⟩;have hr3:=hr2.putOdd hl2.hl rfl ob;have hst3:Step H ι h w H' ι' h' (W2.putObj (w.heap.size+1) ob):=(hst1.trans hs.heap hr1 hst2).putOdd Ab _;generalize hW3:W2.putObj (w.heap.size+1) ob=W3 at hr3 hst3;have hK3:W3.heap[w.heap.size]?=some (.deferred (some [])):=by rw[<-hW3,World.putObj_heap_other Ab];exact hl2.hk
   have had:a.defers=[]:=hs.d;have hs3:Sim H' ι' ⟨n,e,h'⟩ {({a with defers:=[{target:=.collected w.heap.size,args:= #[]}]++a.defers}:Act)with defers:=[]} W3:=⟨hs.n,rfl,fun t x hx=>by
    obtain⟨v,e1,e2⟩:=hs.env t x hx;exact⟨v,e1,e2.mono hst3.kle hst3.lle⟩,hr3⟩
   refine hQx _ _ (wp_mono (hrest [{target:=.collected w.heap.size,args:= #[]}] H' ι' _ W3 hs3 (by rw[had];rfl)) fun e4 a4 w4 hp=>by
    obtain⟨hD,s5,H4,ι4,⟨rfl,rfl⟩,r4,t4⟩:=hp;obtain⟨H5,ι5,r5,t5⟩:=hgh H4 ι4 _ w4 r4;have hK4:=Step.odd r4.heap t5 (Step.odd hr3 t4 hK3 rfl) rfl;have t6:=(hst.trans hr0 hs.heap (hst3.trans hs.heap hr3 (t4.trans hr3 r4.heap t5))).putOdd (b:=w.heap.size) hst.size (.deferred none);have r6:=r5.heap.putOdd hK4 rfl (.deferred none);have fin:LeavesInM Fence.wide 3 P fn a4.tmps (fun e w'=>∃v r h' H' ι',e=.returned v/\R r h'/\Rel H' ι' r v/\HeapRel H' ι' h' w'/\Step H0 ι0 h0 w0 H' ι' h' w') a4.defers .returning w4:=by
     rw[hD];refine⟨by simp,.inl ⟨w.heap.size,_,rfl,run_takeDeferred hK4,?_⟩⟩;obtain⟨v,e1,e2⟩:=Dm hT (s:=s4) (a:={tmps:=a4.tmps,defers:=[]}) ⟨r5.n,rfl,r5.env,r6⟩ hres;exact⟨v,e2,v,_,_,H5,ι5,rfl,hR,e1,r6,t6⟩
    cases e4<;>simp[endsOk]at hx3
    . exact fin
    . exact fin)
end Go.Proofs.YtijlphdockhgjaaGreatDoor.Sv
namespace Go.Proofs.YtijlphdockhgjaaGreatDoor.Sv
open Go Go.RowKit
structure Ox where
  g:Operand
  ps:Array Tmp
  b0:Nat
  b1:Nat
  rest:Code
  E:TE
  H:TH
  k:Nat
noncomputable def XP:Code->Option (Nat×Operand×Array Tmp×Nat)
  | .block b0 (.rangeFunc g ps .skip (.block b1 .skip))=>some (b0,g,ps,b1)
  |_=>none
theorem Sm{c:Code}{b0 b1:Nat}{g:Operand}{ps:Array Tmp}(h:XP c=some (b0,g,ps,b1)):c=.block b0 (.rangeFunc g ps .skip (.block b1 .skip)):=by
 unfold XP at h;split at h
 . cases h;rfl
 . cases h
def Pk:Code->Bool
  | .seq a b=>Pk a||Pk b
  | .block _ a=>Pk a
  | .rangeFunc .. =>true
  |_=>false
noncomputable def bR(go:GF):Nat->Nat->Code->TE->TH->Nat->Option Ox
  |0,_,_,_,_,_=>none
  |d+1,n,c,E,H,k=>match XP c with
    |some (b0,g,ps,b1)=>some ⟨g,ps,b0,b1,.skip,E,H,k⟩
    |none=>match c with
      | .seq a b=>match go n a E H k with
        | .mk .normal E1 H1 k1=>bR go d n b E1 H1 k1
        |_=>none
      |_=>none
theorem OU{P:Program}{go:GF}(hg:go.Ok P){Q:Exit->Act->World->Prop}{H0:Aq}{ι0:AL}{h0:Aa}{w0:World}(hr:HeapRel H0 ι0 h0 w0):∀(d n:Nat) (c:Code) (E:TE) (H:TH) (k:Nat) (r:Ox),bR go d n c E H k=some r->
 k<=r.k/\∀m,r.k<=m->AW P Q H0 ι0 h0 w0 (.block r.b0 (.rangeFunc r.g r.ps .skip (.block r.b1 .skip))) ⟨n,eF r.E,hF r.H r.k m⟩->AW P Q H0 ι0 h0 w0 c ⟨n,eF E,hF H k m⟩
 |0,n,c,E,H,k,r,h=>by cases h
 |d+1,n,c,E,H,k,r,h=>by
  unfold bR at h;split at h
  . rename_i b0 g ps b1 ha
    cases h
    exact⟨Nat.le_refl _,fun m hm hw=>by rw[Sm ha];exact hw⟩
  . split at h
    . rename_i a b _;split at h
      . rename_i E1 H1 k1 h1;obtain⟨a1,a2⟩:=hg _ _ _ _ _ _ _ _ _ h1;obtain⟨b1,b2⟩:=OU hg hr d n b E1 H1 k1 r h;exact fJ
      . cases h
    . cases h
noncomputable def bQ(go:GF):Nat->Nat->Code->TE->TH->Nat->Option Ox
  |0,_,_,_,_,_=>none
  |d+1,n,c,E,H,k=>match c with
    | .seq a b=>match Pk a with
      |true=>match bR go 40 n a E H k with
        |some r=>some {r with rest:=b}
        |none=>none
      |false=>match go n a E H k with
        | .mk .normal E1 H1 k1=>bQ go d n b E1 H1 k1
        |_=>none
    |_=>none
theorem T8{P:Program}{go:GF}(hg:go.Ok P){Q:Exit->Act->World->Prop}{H0:Aq}{ι0:AL}{h0:Aa}{w0:World}(hr:HeapRel H0 ι0 h0 w0):∀(d n:Nat) (c:Code) (E:TE) (H:TH) (k:Nat) (r:Ox),bQ go d n c E H k=some r->
 k<=r.k/\∀m,r.k<=m->(∀Qx:Exit->Act->World->Prop,(∀a w,r.rest.wp P Q a w->Qx .normal a w)->AW P Qx H0 ι0 h0 w0 (.block r.b0 (.rangeFunc r.g r.ps .skip (.block r.b1 .skip))) ⟨n,eF r.E,hF r.H r.k m⟩)->AW P Q H0 ι0 h0 w0 c ⟨n,eF E,hF H k m⟩
 |0,n,c,E,H,k,r,h=>by cases h
 |d+1,n,c,E,H,k,r,h=>by
  unfold bQ at h;split at h
  . rename_i a b;split at h
    . split at h
      . rename_i r0 ha
        cases h
        refine⟨(OU (Q:=Q) hg hr 40 n a E H k r0 ha).1,fun m hm hw=>UH ((OU hg hr 40 n a E H k r0 ha).2 m hm (hw _ fun a w h=>h))⟩
      . cases h
    . split at h
      . rename_i E1 H1 k1 h1;obtain⟨a1,a2⟩:=hg _ _ _ _ _ _ _ _ _ h1;obtain⟨b1,b2⟩:=T8 hg hr d n b E1 H1 k1 r h;exact fJ
      . cases h
  . cases h
section
variable (mt : Nat -> String -> Option Nat) (sp : Nat -> Option Ni)
noncomputable def TS(d:Nat)(fn:Func)(x:Exit)(E:TE)(H:TH)(k:Nat)(u:List Nat):Option (AV×List Nat×Nat):=match Sl x fn (frzL fn.ntmps k (DD (hF H k k) d (Fh (eF E) fn.results.toList)) (eF E) (hF H k k))with
  |some r=>some (r,u,k)
  |none=>none
noncomputable def f7(d g:Nat)(fn:Func)(r:Ox)(fi:Func)(yr:YU):Option (AV×List Nat×Nat):=match yr with
  | .mk x E2 H2 k2 u=>match endsOk x,resEv TI (eF E2) (hF H2 k2 k2) fi.results.toList with
    |true,some _=>match jE mt (Fo sp (goF mt sp g)) 40 fn.ntmps r.rest r.E H2 k2 with
      | .mk x3 E3 H3 k3=>TS d fn x3 E3 H3 k3 u
      | .bad _=>none
    |_,_=>none
  | .bad _=>none
noncomputable def f8(l d g:Nat)(fn:Func)(r:Ox)(gv:Option AV):Option (AV×List Nat×Nat):=match gv with
  |some (.fn (.func gf) [] cs)=>match fnEv Tryz.prog gf with
    |some (fi,ci)=>match Nat.ble (Nat.succ (CT cs)) fi.ntmps with
      |true=>f7 mt sp d g fn r fi (Zz mt (goF mt sp g) (Fo sp (goF mt sp g)) 4000 fi.ntmps ci (JA (.fn (.yield l) [] []::cs) 0 .lf) r.H r.k [])
      |false=>none
    |none=>none
  |_=>none
noncomputable def tU(l d g f:Nat)(xs:List AV):Option (AV×List Nat×Nat):=match fnEv Tryz.prog f with
  |some (fn,c)=>match Nat.ble (CT xs) fn.ntmps with
    |true=>match bQ (goF mt sp g) 40 fn.ntmps c (JA xs 0 .lf) .lf 0 with
      |some r=>match Nat.beq r.ps.size 1 with
        |true=>f8 mt sp l d g fn r (lk r.g r.E)
        |false=>none
      |none=>none
    |false=>none
  |none=>none
end
theorem HX{mt:Nat->String->Option Nat}{sp:Nat->Option Ni}(hT:Bc Tryz.prog TI)(hmt:G9 Tryz.prog mt)(hmx:(Tryz.prog).follows .mixedOrders=true)(hsp:PA Tryz.prog sp)(d g:Nat){f:Nat}{xs:List AV}{r:AV}{N kk:Nat}(h:∀l,tU mt sp l d g f xs=some (r,List.replicate N l,kk)):APure Tryz.prog f xs (fun r'=>r'=r):=by
 have hgo:GF.Ok Tryz.prog (goF mt sp g):=fun n c E H k x E' H' k' h=>⟨(J5 hT hmt hmx hsp g n c E H k x E' H' k' h).1,fun m hm=>((J5 hT hmt hmx hsp g n c E H k x E' H' k' h).2 m hm).1⟩
 have hcl:=Ju hT hsp hgo;have h0:=h 0;unfold tU at h h0;split at h0
 . rename_i fn c hf;obtain⟨f1,f2,f3⟩:=C2 hf;simp only[hf]at h;split at h0
   . rename_i hn;have hle:=Nat.le_of_ble_eq_true hn;rw[A3]at hle;simp only[hn]at h;split at h0
     . rename_i rg hp;simp only[hp]at h;split at h0
       . rename_i hps;simp only[hps]at h;unfold f8 at h h0;split at h0
         . rename_i gf cs hgv;simp only[hgv]at h;split at h0
           . rename_i fi ci hfi;obtain⟨g1,g2,g3⟩:=C2 hfi;simp only[hfi]at h;split at h0
             . rename_i hnc;have hlc:=Nat.le_of_ble_eq_true hnc;rw[A3]at hlc;simp only[hnc]at h
               -- every loop's evaluation, and what is common to them
               have hy:∀l,∃x E2 H2 k2 u,Zz mt (goF mt sp g) (Fo sp (goF mt sp g)) 4000 fi.ntmps ci (JA (.fn (.yield l) [] []::cs) 0 .lf) rg.H rg.k []=.mk x E2 H2 k2 u/\endsOk x=true/\(∃ys,resEv TI (eF E2) (hF H2 k2 k2) fi.results.toList=some ys)/\
                ∃x3 E3 H3 k3,jE mt (Fo sp (goF mt sp g)) 40 fn.ntmps rg.rest rg.E H2 k2=.mk x3 E3 H3 k3/\TS d fn x3 E3 H3 k3 u=some (r,List.replicate N l,kk):=fun l=>by
                have h:=h l;unfold f7 at h;split at h
                . rename_i x E2 H2 k2 u hyr;split at h
                  . rename_i ys he hr;split at h
                    . rename_i x3 E3 H3 k3 hm;exact⟨x,E2,H2,k2,u,hyr,he,⟨ys,hr⟩,x3,E3,H3,k3,hm,h⟩
                    . cases h
                  . cases h
                . cases h
               have hlk:look (eF rg.E) rg.g=some (.fn (.func gf) [] cs):=by rw[<-A1];exact hgv
               -- what is common
               obtain⟨x,E2,H2,k2,u,_,_,_,x3,E3,H3,k3,hm0,h30⟩:=hy 0;have h3k:∀{x3:Exit} {E3:TE} {H3:TH} {k3:Nat} {u:List Nat} {l:Nat},TS d fn x3 E3 H3 k3 u=some (r,List.replicate N l,kk)->k3=kk/\u=List.replicate N l/\Sl x3 fn (frzL fn.ntmps k3 (DD (hF H3 k3 k3) d (Fh (eF E3) fn.results.toList)) (eF E3) (hF H3 k3 k3))=some r:=fun h=>by
                unfold TS at h;split at h
                . rename_i r' hr
                  cases h
                  exact⟨rfl,rfl,hr⟩
                . cases h
               have hp0:r.isPure=true:=by
                obtain⟨_,_,hE⟩:=h3k h30;unfold Sl at hE;split at hE
                . split at hE
                  . cases hE;assumption
                  . cases hE
                . cases hE
               refine FF (h0:=hNone) hp0 (M0 (h0:=hF .lf 0 kk) (fun b o hb=>?_) (ACall.mono (R:=fun r' _=>r'=r) ?_ fun r1 h1 hh=>⟨hh,HSub.none _⟩))
               . by_cases hlt:b<kk
                 . rw[BM (Nat.zero_le _) hlt]at hb;cases hb;rfl
                 . rw[CG (Nat.zero_le _) Ab]at hb;cases hb
               refine Hu f1 f2 (show xs.length+(fn.ntmps-xs.length)=fn.ntmps by omega) fun H ι w hr=>?_
               rw[<-F4];have hk0:∀{x3:Exit} {E3:TE} {H2 H3:TH} {k2 k3:Nat},jE mt (Fo sp (goF mt sp g)) 40 fn.ntmps rg.rest rg.E H2 k2=.mk x3 E3 H3 k3->k2<=k3:=fun hm=>(S0 (D:=[]) hT hmt hcl _ _ _ _ _ _ _ _ _ _ hm).1
               have hkr:∀{l:Nat} {x:Exit} {E2:TE} {H2:TH} {k2:Nat} {u:List Nat},Zz mt (goF mt sp g) (Fo sp (goF mt sp g)) 4000 fi.ntmps ci (JA (.fn (.yield l) [] []::cs) 0 .lf) rg.H rg.k []=.mk x E2 H2 k2 u->rg.k<=k2:=fun {l x E2 H2 k2 u} hy=>(SZ (l:=l) (K:=0) (rec:={state:=.ready,pending:=none,fn:=0,tmps:= #[],params:= #[0],assign:=.skip,body:=.block 0 .skip,defers:=0}) hT hmt hgo hcl ⟨rfl,rfl,rfl,rfl,0,rfl⟩ _ _ _ _ _ _ _ _ _ _ _ _ hy).1
               have hrk:rg.k<=kk:=by
                obtain⟨x,E2,H2,k2,u,hy0,_,_,x3,E3,H3,k3,hm0,h30⟩:=hy 0;obtain⟨e1,_,_⟩:=h3k h30;have:=hk0 hm0;have:=hkr hy0;omega
               refine(T8 hgo hr 40 _ _ _ _ _ rg hp).2 kk hrk fun Qx hQx=>?_
               refine WM hT hr hQx (Nat.eq_of_beq_eq_true hps) hlk (fun args w=>Bv g1 g3 (by rw[g2];rfl) args) fun l=>?_
               obtain⟨x,E2,H2,k2,u,hyl,he,⟨ys,hres⟩,x3,E3,H3,k3,hm,h3⟩:=hy l;obtain⟨e1,e2,hE⟩:=h3k h3;subst e1;have hk2:=hk0 hm;unfold Sl at hE;generalize hfz:frzL fn.ntmps k3 (DD (hF H3 k3 k3) d (Fh (eF E3) fn.results.toList)) (eF E3) (hF H3 k3 k3)=eh at hE;obtain⟨e4,h4⟩:=eh;split at hE
               . rename_i zs hend hrs;split at hE
                 . rename_i hpz
                   cases hE
                   refine⟨hF H2 k2 k3,x3,⟨fn.ntmps,eF E3,hF H3 k3 k3⟩,⟨fn.ntmps,e4,h4⟩,zs,fun K rec hli=>?_,fun D=>(S0 hT hmt hcl _ _ _ _ _ _ _ _ _ _ hm).2 k3 (Nat.le_refl _),hend,D7 _ hfz,BP hrs,rfl⟩;have hus:Us l u:=fun i hi=>by rw[e2]at hi;exact List.eq_of_mem_replicate hi
                   obtain⟨_,hc⟩:=(SZ (l:=l) (K:=K) (rec:=rec) hT hmt hgo hcl hli _ _ _ _ _ _ _ _ _ _ _ _ hyl).2 hus;have hc:=(hc k3 hk2).1;rw[F4]at hc;refine ACallY.of_body hT g1 g2 (show(AV.fn (.yield l) [] []::cs).length+(fi.ntmps-(AV.fn (.yield l) [] []::cs).length)=fi.ntmps by simp only[List.length_cons];omega) (AGoY.mono hc fun x1 s1 hh=>?_);obtain⟨rfl,rfl⟩:=hh
                   cases x1<;>simp[endsOk]at he
                   . exact⟨ys,BP (DC hk2 hres),rfl⟩
                   . exact⟨ys,BP (DC hk2 hres),rfl⟩
                 . cases hE
               . cases hE
             . cases h0
           . cases h0
         . cases h0
       . cases h0
     . cases h0
   . cases h0
 . cases h0
end Go.Proofs.YtijlphdockhgjaaGreatDoor.Sv
namespace Go.Proofs.YtijlphdockhgjaaGreatDoor.Sv
open Go
def jN(n:Nat):AV:=.int .i64 (.ofNat n)
def wN(n:Nat):AV:=.int .u32 (.ofNat n)
def lN(n:Nat):AV:=.int .u64 (.ofNat n)
def bS(l:List UInt8):AV:=.str ⟨⟨l⟩⟩
def PF(j:Nat):AV->AV
  | .tup vs=>vs.getD j .nil
  |_=>.nil
def vD(x:AV)(j i:Nat):List AV:=match x with
  | .agg cs=>match cs.getD j .nil with
    | .lst _ es=>es.getD i []
    |_=>[]
  |_=>[]
abbrev At(a b c d e f g h:Nat):List AV:=[jN a,jN b,jN c,jN d,jN e,jN f,jN g,wN h]
def a_touch11:List AV:=[.agg [.lst true [At 4 0 0 0 0 0 0 0,At 9 0 0 0 0 0 0 0],jN 3,jN 0,jN 0,jN 0],jN 2]
def v_touch11:AV:=.tup [.lst false [[lN 0]],.lst false [[lN 1]]]
def a_touch10:List AV:=[.agg [.lst true [At 4 0 0 0 0 2 0 0,At 5 0 0 0 0 1 0 0,At 10 0 0 0 0 0 0 0,At 4 0 0 0 0 3 0 0,At 5 0 0 0 0 0 0 0,At 8 0 0 0 0 0 0 0,At 5 0 0 0 0 2 0 0],jN 1,jN 0,jN 1,jN 0],jN 2]
def v_touch10:AV:=.tup [.lst false [[lN 0]],.lst false [[lN 1]]]
def a_touch9:List AV:=[.agg [.lst true [At 4 0 0 0 0 2 0 0,At 1 1 0 0 0 0 0 256,At 3 0 0 1 14 0 0 0],jN 2,jN 0,jN 2,jN 3],jN 2]
def v_touch9:AV:=.tup [.lst false [[lN 0]],.lst false [[lN 3]]]
def a_touch8:List AV:=[.agg [.lst true [At 8 0 0 0 0 0 0 0,At 5 0 0 0 0 2 0 0],jN 1,jN 0,jN 1,jN 0],jN 2]
def v_touch8:AV:=.tup [.lst false [[lN 0]],.lst false [[lN 1]]]
def a_touch7:List AV:=[.agg [.lst true [At 4 0 0 0 0 0 0 0,At 4 1 0 0 0 1 0 0,At 3 0 0 1 4 0 0 0,At 5 0 0 0 0 3 0 0],jN 3,jN 0,jN 0,jN 0],jN 2]
def v_touch7:AV:=.tup [.lst false [[lN 0]],.lst false [[lN 3]]]
def a_touch6:List AV:=[.agg [.lst false [At 4 0 0 0 0 0 0 0,At 9 0 0 0 0 0 0 0],jN 3,jN 0,jN 0,jN 0],jN 2]
def v_touch6:AV:=.tup [.lst false [[lN 0]],.lst false [[lN 1]]]
def a_touch5:List AV:=[.agg [.lst false [At 4 0 0 0 0 2 0 0,At 5 0 0 0 0 1 0 0,At 10 0 0 0 0 0 0 0,At 4 0 0 0 0 3 0 0,At 5 0 0 0 0 0 0 0,At 8 0 0 0 0 0 0 0,At 5 0 0 0 0 2 0 0],jN 1,jN 0,jN 1,jN 0],jN 2]
def v_touch5:AV:=.tup [.lst false [[lN 0]],.lst false [[lN 1]]]
def a_touch4:List AV:=[.agg [.lst false [At 4 0 0 0 0 2 0 0,At 1 1 0 0 0 0 0 256,At 3 0 0 1 14 0 0 0],jN 2,jN 0,jN 2,jN 3],jN 2]
def v_touch4:AV:=.tup [.lst false [[lN 0]],.lst false [[lN 3]]]
def a_touch3:List AV:=[.agg [.lst false [At 8 0 0 0 0 0 0 0,At 5 0 0 0 0 2 0 0],jN 1,jN 0,jN 1,jN 0],jN 2]
def v_touch3:AV:=.tup [.lst false [[lN 0]],.lst false [[lN 1]]]
def a_touch2:List AV:=[.agg [.lst false [At 1 0 0 0 0 0 0 0,At 5 0 0 0 0 3 0 0],jN 3,jN 0,jN 0,jN 0],jN 2]
def v_touch2:AV:=.tup [.lst false [[lN 0]],.lst false [[lN 1]]]
def a_touch1:List AV:=[.agg [.lst false [At 4 0 0 0 0 0 0 0,At 4 1 0 0 0 1 0 0,At 3 0 0 1 4 0 0 0,At 5 0 0 0 0 3 0 0],jN 3,jN 0,jN 0,jN 0],jN 2]
def v_touch1:AV:=.tup [.lst false [[lN 0]],.lst false [[lN 3]]]
def a_src:List AV:=[bS [118,97,114,32,115,59,32,102,117,110,99,32,97,100,100,40,120,41,32,119,111,114,100,32,123,32,114,101,116,117,114,110,32,115,32,43,32,120,59,32,125,32,102,117,110,99,32,109,97,105,110,40,41,32,123,32,118,97,114,32,99,59,32,99,32,61,32,103,101,116,40,41,59,32,119,104,105,108,101,32,40,99,32,60,32,50,53,54,41,32,123,32,115,32,61,32,97,100,100,40,99,41,59,32,99,32,61,32,103,101,116,40,41,59,32,125,32,112,117,116,40,115,41,59,32,125]]
def v_src:AV:=.tup [.agg [.lst false [[bS [115]]],.nil,.lst false [[bS [97,100,100],.lst false [[bS [120]]],.nil,.bool true,.lst false [[jN 7,bS [],.lst false [[jN 6,jN 4,wN 0,bS [],.lst false [[jN 2,jN 0,wN 0,bS [115],.nil],[jN 2,jN 0,wN 0,bS [120],.nil]]]],.nil,.nil]]],[bS [109,97,105,110],.nil,.lst false [[bS [99]]],.bool false,.lst false [[jN 1,bS [99],.lst false [[jN 5,jN 0,wN 0,bS [],.nil]],.nil,.nil],[jN 5,bS [],.lst false [[jN 6,jN 14,wN 0,bS [],.lst false [[jN 2,jN 0,wN 0,bS [99],.nil],[jN 1,jN 0,wN 256,bS [],.nil]]]],.lst false [[jN 1,bS [115],.lst false [[jN 4,jN 0,wN 0,bS [97,100,100],.lst false [[jN 2,jN 0,wN 0,bS [99],.nil]]]],.nil,.nil],[jN 1,bS [99],.lst false [[jN 5,jN 0,wN 0,bS [],.nil]],.nil,.nil]],.nil],[jN 3,bS [],.lst false [[jN 2,jN 0,wN 0,bS [115],.nil]],.nil,.nil]]]]],jN 0,jN 0]
def a_core:List AV:=[PF 0 v_src]
def v_core:AV:=.tup [.agg [jN 3,.lst false [[jN 1,jN 1,jN 1,.bool true,.lst false [[jN 7,jN 0,jN 0,.lst false [[jN 6,jN 4,wN 0,jN 0,jN 0,.lst false [[jN 2,jN 0,wN 0,jN 0,jN 0,.nil],[jN 2,jN 0,wN 0,jN 1,jN 0,.nil]]]],.nil,.nil]]],[jN 0,jN 1,jN 2,.bool false,.lst false [[jN 1,jN 2,jN 0,.lst false [[jN 5,jN 0,wN 0,jN 0,jN 0,.nil]],.nil,.nil],[jN 5,jN 0,jN 0,.lst false [[jN 6,jN 14,wN 0,jN 0,jN 0,.lst false [[jN 2,jN 0,wN 0,jN 2,jN 0,.nil],[jN 1,jN 0,wN 256,jN 0,jN 0,.nil]]]],.lst false [[jN 1,jN 0,jN 0,.lst false [[jN 4,jN 0,wN 0,jN 0,jN 0,.lst false [[jN 2,jN 0,wN 0,jN 2,jN 0,.nil]]]],.nil,.nil],[jN 1,jN 2,jN 0,.lst false [[jN 5,jN 0,wN 0,jN 0,jN 0,.nil]],.nil,.nil]],.nil],[jN 3,jN 0,jN 0,.lst false [[jN 2,jN 0,wN 0,jN 0,jN 0,.nil]],.nil,.nil]]]]],jN 0]
def a_mean:List AV:=[PF 0 v_src,bS [1,2,3],jN 20]
def v_mean:AV:=.agg [jN 1,bS [6],jN 7]
def a_sound:List AV:=[PF 0 v_src]
def v_sound:AV:=jN 0
def a_lower:List AV:=[PF 0 v_core]
def v_lower:AV:=.agg [jN 3,.lst false [[jN 1,jN 1,jN 1,.bool true,.lst false [[jN 2,jN 0,jN 0,wN 0],[jN 2,jN 1,jN 0,wN 0],[jN 6,jN 4,jN 0,wN 0],[jN 11,jN 0,jN 0,wN 0],[jN 1,jN 0,jN 0,wN 0],[jN 11,jN 0,jN 0,wN 0]]],[jN 0,jN 1,jN 2,.bool false,.lst false [[jN 12,jN 0,jN 0,wN 0],[jN 3,jN 2,jN 0,wN 0],[jN 2,jN 2,jN 0,wN 0],[jN 1,jN 0,jN 0,wN 256],[jN 6,jN 14,jN 0,wN 0],[jN 9,jN 12,jN 0,wN 0],[jN 2,jN 2,jN 0,wN 0],[jN 10,jN 0,jN 0,wN 0],[jN 3,jN 0,jN 0,wN 0],[jN 12,jN 0,jN 0,wN 0],[jN 3,jN 2,jN 0,wN 0],[jN 8,jN 2,jN 0,wN 0],[jN 2,jN 0,jN 0,wN 0],[jN 13,jN 0,jN 0,wN 0],[jN 11,jN 0,jN 0,wN 0]]]]]
def a_build:List AV:=[PF 0 v_core]
def v_build:AV:=.agg [jN 4,.lst false [[jN 2,.lst false [[.lst false [At 4 0 0 0 0 0 0 0,At 4 1 0 0 0 1 0 0,At 3 0 0 1 4 0 0 0,At 5 0 0 0 0 3 0 0],jN 3,jN 0,jN 0,jN 0],[.lst false [At 1 0 0 0 0 0 0 0,At 5 0 0 0 0 3 0 0],jN 3,jN 0,jN 0,jN 0]]],[jN 2,.lst false [[.lst false [At 8 0 0 0 0 0 0 0,At 5 0 0 0 0 2 0 0],jN 1,jN 0,jN 1,jN 0],[.lst false [At 4 0 0 0 0 2 0 0,At 1 1 0 0 0 0 0 256,At 3 0 0 1 14 0 0 0],jN 2,jN 0,jN 2,jN 3],[.lst false [At 4 0 0 0 0 2 0 0,At 5 0 0 0 0 1 0 0,At 10 0 0 0 0 0 0 0,At 4 0 0 0 0 3 0 0,At 5 0 0 0 0 0 0 0,At 8 0 0 0 0 0 0 0,At 5 0 0 0 0 2 0 0],jN 1,jN 0,jN 1,jN 0],[.lst false [At 4 0 0 0 0 0 0 0,At 9 0 0 0 0 0 0 0],jN 3,jN 0,jN 0,jN 0]]]]]
def a_emit:List AV:=[v_lower]
def v_emit:AV:=.tup [.agg [.lst false [[wN 32505857],[wN 386924544],[wN 286261254],[wN 269484038],[wN 286261250],[wN 269484034],[wN 286261254],[wN 17826048],[wN 286261255],[wN 269484038],[wN 270532615],[wN 235995138],[wN 286261254],[wN 269484038],[wN 319815708],[wN 269484034],[wN 286261254],[wN 269484038],[wN 286261249],[wN 367001633],[wN 286261254],[wN 269484038],[wN 286261248],[wN 386924544],[wN 286261254],[wN 269484038],[wN 286261250],[wN 301989893],[wN 269484032],[wN 286261254],[wN 269484038],[wN 403701760],[wN 436207616],[wN 299892739],[wN 269484032],[wN 286261252],[wN 269484033],[wN 286261253],[wN 269484036],[wN 270532613],[wN 68222978],[wN 286261252],[wN 269484036],[wN 283115523],[wN 383778816]],jN 8],jN 0]
def a_image:List AV:=[PF 0 v_src]
def v_image:AV:=.tup [.agg [.lst false [[wN 32505857],[wN 386924544],[wN 286261254],[wN 269484038],[wN 286261250],[wN 269484034],[wN 286261254],[wN 17826048],[wN 286261255],[wN 269484038],[wN 270532615],[wN 235995138],[wN 286261254],[wN 269484038],[wN 319815708],[wN 269484034],[wN 286261254],[wN 269484038],[wN 286261249],[wN 367001633],[wN 286261254],[wN 269484038],[wN 286261248],[wN 386924544],[wN 286261254],[wN 269484038],[wN 286261250],[wN 301989893],[wN 269484032],[wN 286261254],[wN 269484038],[wN 403701760],[wN 436207616],[wN 299892739],[wN 269484032],[wN 286261252],[wN 269484033],[wN 286261253],[wN 269484036],[wN 270532613],[wN 68222978],[wN 286261252],[wN 269484036],[wN 283115523],[wN 383778816]],jN 8],jN 0]
def a_opt_1:List AV:=[.agg [jN 2,.lst false [[.lst false [At 4 0 0 0 0 0 0 0,At 4 1 0 0 0 1 0 0,At 3 0 0 1 4 0 0 0,At 5 0 0 0 0 3 0 0],jN 3,jN 0,jN 0,jN 0],[.lst false [At 1 0 0 0 0 0 0 0,At 5 0 0 0 0 3 0 0],jN 3,jN 0,jN 0,jN 0]]],jN 1]
def v_opt_1:AV:=.tup [.agg [jN 2,.lst false [[.lst false [At 4 0 0 0 0 0 0 0,At 4 1 0 0 0 1 0 0,At 3 0 0 1 4 0 0 0,At 5 0 0 0 0 3 0 0],jN 3,jN 0,jN 0,jN 0],[.lst false [At 1 0 0 0 0 0 0 0,At 5 0 0 0 0 3 0 0],jN 3,jN 0,jN 0,jN 0]]],.agg [jN 1,.lst false [[.lst false [[.bool true],[.bool true]]],[.lst false [[.bool true],[.bool true]]]],.nil,jN 2,.lst false [[.lst false [At 4 0 0 0 0 0 0 0,At 4 1 0 0 0 1 0 0,At 3 0 0 1 4 0 0 0,At 5 0 0 0 0 3 0 0],jN 3,jN 0,jN 0,jN 0],[.lst false [At 1 0 0 0 0 0 0 0,At 5 0 0 0 0 3 0 0],jN 3,jN 0,jN 0,jN 0]]],jN 0]
def a_opt_2:List AV:=[.agg [jN 2,.lst false [[.lst false [At 4 0 0 0 0 0 0 0,At 4 1 0 0 0 1 0 0,At 3 0 0 1 4 0 0 0,At 5 0 0 0 0 3 0 0],jN 3,jN 0,jN 0,jN 0],[.lst false [At 1 0 0 0 0 0 0 0,At 5 0 0 0 0 3 0 0],jN 3,jN 0,jN 0,jN 0]]],jN 2]
def v_opt_2:AV:=.tup [.agg [jN 2,.lst false [[.lst false [At 4 0 0 0 0 0 0 0,At 4 1 0 0 0 1 0 0,At 3 0 0 1 4 0 0 0,At 5 0 0 0 0 3 0 0],jN 3,jN 0,jN 0,jN 0],[.lst false [At 1 0 0 0 0 0 0 0,At 5 0 0 0 0 3 0 0],jN 3,jN 0,jN 0,jN 0]]],.agg [jN 2,.lst false [[.lst false [[.bool true],[.bool true]]],[.lst false [[.bool true],[.bool true]]]],.nil,jN 2,.lst false [[.lst false [At 4 0 0 0 0 0 0 0,At 4 1 0 0 0 1 0 0,At 3 0 0 1 4 0 0 0,At 5 0 0 0 0 3 0 0],jN 3,jN 0,jN 0,jN 0],[.lst false [At 1 0 0 0 0 0 0 0,At 5 0 0 0 0 3 0 0],jN 3,jN 0,jN 0,jN 0]]],jN 0]
def a_opt_3:List AV:=[.agg [jN 2,.lst false [[.lst false [At 4 0 0 0 0 0 0 0,At 4 1 0 0 0 1 0 0,At 3 0 0 1 4 0 0 0,At 5 0 0 0 0 3 0 0],jN 3,jN 0,jN 0,jN 0],[.lst false [At 1 0 0 0 0 0 0 0,At 5 0 0 0 0 3 0 0],jN 3,jN 0,jN 0,jN 0]]],jN 3]
def v_opt_3:AV:=.tup [.agg [jN 2,.lst false [[.lst false [At 4 0 0 0 0 0 0 0,At 4 1 0 0 0 1 0 0,At 3 0 0 1 4 0 0 0,At 5 0 0 0 0 3 0 0],jN 3,jN 0,jN 0,jN 0],[.lst false [At 1 0 0 0 0 0 0 0,At 5 0 0 0 0 3 0 0],jN 3,jN 0,jN 0,jN 0]]],.agg [jN 3,.lst false [[.lst false [[.bool false],[.bool false]]],[.lst false [[.bool false],[.bool false]]]],.nil,jN 2,.lst false [[.lst false [At 4 0 0 0 0 0 0 0,At 4 1 0 0 0 1 0 0,At 3 0 0 1 4 0 0 0,At 5 0 0 0 0 3 0 0],jN 3,jN 0,jN 0,jN 0],[.lst false [At 1 0 0 0 0 0 0 0,At 5 0 0 0 0 3 0 0],jN 3,jN 0,jN 0,jN 0]]],jN 0]
def a_opt_4:List AV:=[.agg [jN 2,.lst false [[.lst false [At 4 0 0 0 0 0 0 0,At 4 1 0 0 0 1 0 0,At 3 0 0 1 4 0 0 0,At 5 0 0 0 0 3 0 0],jN 3,jN 0,jN 0,jN 0],[.lst false [At 1 0 0 0 0 0 0 0,At 5 0 0 0 0 3 0 0],jN 3,jN 0,jN 0,jN 0]]],jN 4]
def v_opt_4:AV:=.tup [.agg [jN 2,.lst false [[.lst true [At 4 0 0 0 0 0 0 0,At 4 1 0 0 0 1 0 0,At 3 0 0 1 4 0 0 0,At 5 0 0 0 0 3 0 0],jN 3,jN 0,jN 0,jN 0]]],.agg [jN 4,.nil,.lst false [[.lst false [[jN 0]]]],jN 2,.lst false [[.lst true [At 4 0 0 0 0 0 0 0,At 4 1 0 0 0 1 0 0,At 3 0 0 1 4 0 0 0,At 5 0 0 0 0 3 0 0],jN 3,jN 0,jN 0,jN 0]]],jN 0]
def a_opt_5:List AV:=[.agg [jN 2,.lst false [[.lst false [At 8 0 0 0 0 0 0 0,At 5 0 0 0 0 2 0 0],jN 1,jN 0,jN 1,jN 0],[.lst false [At 4 0 0 0 0 2 0 0,At 1 1 0 0 0 0 0 256,At 3 0 0 1 14 0 0 0],jN 2,jN 0,jN 2,jN 3],[.lst false [At 4 0 0 0 0 2 0 0,At 5 0 0 0 0 1 0 0,At 10 0 0 0 0 0 0 0,At 4 0 0 0 0 3 0 0,At 5 0 0 0 0 0 0 0,At 8 0 0 0 0 0 0 0,At 5 0 0 0 0 2 0 0],jN 1,jN 0,jN 1,jN 0],[.lst false [At 4 0 0 0 0 0 0 0,At 9 0 0 0 0 0 0 0],jN 3,jN 0,jN 0,jN 0]]],jN 1]
def v_opt_5:AV:=.tup [.agg [jN 2,.lst false [[.lst false [At 8 0 0 0 0 0 0 0,At 5 0 0 0 0 2 0 0],jN 1,jN 0,jN 1,jN 0],[.lst false [At 4 0 0 0 0 2 0 0,At 1 1 0 0 0 0 0 256,At 3 0 0 1 14 0 0 0],jN 2,jN 0,jN 2,jN 3],[.lst false [At 4 0 0 0 0 2 0 0,At 5 0 0 0 0 1 0 0,At 10 0 0 0 0 0 0 0,At 4 0 0 0 0 3 0 0,At 5 0 0 0 0 0 0 0,At 8 0 0 0 0 0 0 0,At 5 0 0 0 0 2 0 0],jN 1,jN 0,jN 1,jN 0],[.lst false [At 4 0 0 0 0 0 0 0,At 9 0 0 0 0 0 0 0],jN 3,jN 0,jN 0,jN 0]]],.agg [jN 1,.lst false [[.lst false [[.bool true],[.bool true]]],[.lst false [[.bool true],[.bool true]]],[.lst false [[.bool true],[.bool true]]],[.lst false [[.bool true],[.bool true]]]],.nil,jN 2,.lst false [[.lst false [At 8 0 0 0 0 0 0 0,At 5 0 0 0 0 2 0 0],jN 1,jN 0,jN 1,jN 0],[.lst false [At 4 0 0 0 0 2 0 0,At 1 1 0 0 0 0 0 256,At 3 0 0 1 14 0 0 0],jN 2,jN 0,jN 2,jN 3],[.lst false [At 4 0 0 0 0 2 0 0,At 5 0 0 0 0 1 0 0,At 10 0 0 0 0 0 0 0,At 4 0 0 0 0 3 0 0,At 5 0 0 0 0 0 0 0,At 8 0 0 0 0 0 0 0,At 5 0 0 0 0 2 0 0],jN 1,jN 0,jN 1,jN 0],[.lst false [At 4 0 0 0 0 0 0 0,At 9 0 0 0 0 0 0 0],jN 3,jN 0,jN 0,jN 0]]],jN 0]
def a_opt_6:List AV:=[.agg [jN 2,.lst false [[.lst false [At 8 0 0 0 0 0 0 0,At 5 0 0 0 0 2 0 0],jN 1,jN 0,jN 1,jN 0],[.lst false [At 4 0 0 0 0 2 0 0,At 1 1 0 0 0 0 0 256,At 3 0 0 1 14 0 0 0],jN 2,jN 0,jN 2,jN 3],[.lst false [At 4 0 0 0 0 2 0 0,At 5 0 0 0 0 1 0 0,At 10 0 0 0 0 0 0 0,At 4 0 0 0 0 3 0 0,At 5 0 0 0 0 0 0 0,At 8 0 0 0 0 0 0 0,At 5 0 0 0 0 2 0 0],jN 1,jN 0,jN 1,jN 0],[.lst false [At 4 0 0 0 0 0 0 0,At 9 0 0 0 0 0 0 0],jN 3,jN 0,jN 0,jN 0]]],jN 2]
def v_opt_6:AV:=.tup [.agg [jN 2,.lst false [[.lst false [At 8 0 0 0 0 0 0 0,At 5 0 0 0 0 2 0 0],jN 1,jN 0,jN 1,jN 0],[.lst false [At 4 0 0 0 0 2 0 0,At 1 1 0 0 0 0 0 256,At 3 0 0 1 14 0 0 0],jN 2,jN 0,jN 2,jN 3],[.lst false [At 4 0 0 0 0 2 0 0,At 5 0 0 0 0 1 0 0,At 10 0 0 0 0 0 0 0,At 4 0 0 0 0 3 0 0,At 5 0 0 0 0 0 0 0,At 8 0 0 0 0 0 0 0,At 5 0 0 0 0 2 0 0],jN 1,jN 0,jN 1,jN 0],[.lst false [At 4 0 0 0 0 0 0 0,At 9 0 0 0 0 0 0 0],jN 3,jN 0,jN 0,jN 0]]],.agg [jN 2,.lst false [[.lst false [[.bool true],[.bool true]]],[.lst false [[.bool true],[.bool true]]],[.lst false [[.bool true],[.bool true]]],[.lst false [[.bool true],[.bool true]]]],.nil,jN 2,.lst false [[.lst false [At 8 0 0 0 0 0 0 0,At 5 0 0 0 0 2 0 0],jN 1,jN 0,jN 1,jN 0],[.lst false [At 4 0 0 0 0 2 0 0,At 1 1 0 0 0 0 0 256,At 3 0 0 1 14 0 0 0],jN 2,jN 0,jN 2,jN 3],[.lst false [At 4 0 0 0 0 2 0 0,At 5 0 0 0 0 1 0 0,At 10 0 0 0 0 0 0 0,At 4 0 0 0 0 3 0 0,At 5 0 0 0 0 0 0 0,At 8 0 0 0 0 0 0 0,At 5 0 0 0 0 2 0 0],jN 1,jN 0,jN 1,jN 0],[.lst false [At 4 0 0 0 0 0 0 0,At 9 0 0 0 0 0 0 0],jN 3,jN 0,jN 0,jN 0]]],jN 0]
def a_opt_7:List AV:=[.agg [jN 2,.lst false [[.lst false [At 8 0 0 0 0 0 0 0,At 5 0 0 0 0 2 0 0],jN 1,jN 0,jN 1,jN 0],[.lst false [At 4 0 0 0 0 2 0 0,At 1 1 0 0 0 0 0 256,At 3 0 0 1 14 0 0 0],jN 2,jN 0,jN 2,jN 3],[.lst false [At 4 0 0 0 0 2 0 0,At 5 0 0 0 0 1 0 0,At 10 0 0 0 0 0 0 0,At 4 0 0 0 0 3 0 0,At 5 0 0 0 0 0 0 0,At 8 0 0 0 0 0 0 0,At 5 0 0 0 0 2 0 0],jN 1,jN 0,jN 1,jN 0],[.lst false [At 4 0 0 0 0 0 0 0,At 9 0 0 0 0 0 0 0],jN 3,jN 0,jN 0,jN 0]]],jN 3]
def v_opt_7:AV:=.tup [.agg [jN 2,.lst false [[.lst false [At 8 0 0 0 0 0 0 0,At 5 0 0 0 0 2 0 0],jN 1,jN 0,jN 1,jN 0],[.lst false [At 4 0 0 0 0 2 0 0,At 1 1 0 0 0 0 0 256,At 3 0 0 1 14 0 0 0],jN 2,jN 0,jN 2,jN 3],[.lst false [At 4 0 0 0 0 2 0 0,At 5 0 0 0 0 1 0 0,At 10 0 0 0 0 0 0 0,At 4 0 0 0 0 3 0 0,At 5 0 0 0 0 0 0 0,At 8 0 0 0 0 0 0 0,At 5 0 0 0 0 2 0 0],jN 1,jN 0,jN 1,jN 0],[.lst false [At 4 0 0 0 0 0 0 0,At 9 0 0 0 0 0 0 0],jN 3,jN 0,jN 0,jN 0]]],.agg [jN 3,.lst false [[.lst false [[.bool false],[.bool false]]],[.lst false [[.bool false],[.bool false]]],[.lst false [[.bool false],[.bool false]]],[.lst false [[.bool false],[.bool false]]]],.nil,jN 2,.lst false [[.lst false [At 8 0 0 0 0 0 0 0,At 5 0 0 0 0 2 0 0],jN 1,jN 0,jN 1,jN 0],[.lst false [At 4 0 0 0 0 2 0 0,At 1 1 0 0 0 0 0 256,At 3 0 0 1 14 0 0 0],jN 2,jN 0,jN 2,jN 3],[.lst false [At 4 0 0 0 0 2 0 0,At 5 0 0 0 0 1 0 0,At 10 0 0 0 0 0 0 0,At 4 0 0 0 0 3 0 0,At 5 0 0 0 0 0 0 0,At 8 0 0 0 0 0 0 0,At 5 0 0 0 0 2 0 0],jN 1,jN 0,jN 1,jN 0],[.lst false [At 4 0 0 0 0 0 0 0,At 9 0 0 0 0 0 0 0],jN 3,jN 0,jN 0,jN 0]]],jN 0]
def a_opt_8:List AV:=[.agg [jN 2,.lst false [[.lst false [At 8 0 0 0 0 0 0 0,At 5 0 0 0 0 2 0 0],jN 1,jN 0,jN 1,jN 0],[.lst false [At 4 0 0 0 0 2 0 0,At 1 1 0 0 0 0 0 256,At 3 0 0 1 14 0 0 0],jN 2,jN 0,jN 2,jN 3],[.lst false [At 4 0 0 0 0 2 0 0,At 5 0 0 0 0 1 0 0,At 10 0 0 0 0 0 0 0,At 4 0 0 0 0 3 0 0,At 5 0 0 0 0 0 0 0,At 8 0 0 0 0 0 0 0,At 5 0 0 0 0 2 0 0],jN 1,jN 0,jN 1,jN 0],[.lst false [At 4 0 0 0 0 0 0 0,At 9 0 0 0 0 0 0 0],jN 3,jN 0,jN 0,jN 0]]],jN 4]
def v_opt_8:AV:=.tup [.agg [jN 2,.lst false [[.lst true [At 8 0 0 0 0 0 0 0,At 5 0 0 0 0 2 0 0],jN 1,jN 0,jN 1,jN 0],[.lst true [At 4 0 0 0 0 2 0 0,At 1 1 0 0 0 0 0 256,At 3 0 0 1 14 0 0 0],jN 2,jN 0,jN 2,jN 3],[.lst true [At 4 0 0 0 0 2 0 0,At 5 0 0 0 0 1 0 0,At 10 0 0 0 0 0 0 0,At 4 0 0 0 0 3 0 0,At 5 0 0 0 0 0 0 0,At 8 0 0 0 0 0 0 0,At 5 0 0 0 0 2 0 0],jN 1,jN 0,jN 1,jN 0],[.lst true [At 4 0 0 0 0 0 0 0,At 9 0 0 0 0 0 0 0],jN 3,jN 0,jN 0,jN 0]]],.agg [jN 4,.nil,.lst false [[.lst false [[jN 0]]],[.lst false [[jN 1]]],[.lst false [[jN 2]]],[.lst false [[jN 3]]]],jN 2,.lst false [[.lst true [At 8 0 0 0 0 0 0 0,At 5 0 0 0 0 2 0 0],jN 1,jN 0,jN 1,jN 0],[.lst true [At 4 0 0 0 0 2 0 0,At 1 1 0 0 0 0 0 256,At 3 0 0 1 14 0 0 0],jN 2,jN 0,jN 2,jN 3],[.lst true [At 4 0 0 0 0 2 0 0,At 5 0 0 0 0 1 0 0,At 10 0 0 0 0 0 0 0,At 4 0 0 0 0 3 0 0,At 5 0 0 0 0 0 0 0,At 8 0 0 0 0 0 0 0,At 5 0 0 0 0 2 0 0],jN 1,jN 0,jN 1,jN 0],[.lst true [At 4 0 0 0 0 0 0 0,At 9 0 0 0 0 0 0 0],jN 3,jN 0,jN 0,jN 0]]],jN 0]
def a_opt:List AV:=[v_build,.lst false [[jN 1],[jN 2],[jN 3],[jN 4]]]
def v_opt:AV:=.tup [.agg [jN 4,.lst false [[jN 2,.lst false [[.lst true [At 4 0 0 0 0 0 0 0,At 4 1 0 0 0 1 0 0,At 3 0 0 1 4 0 0 0,At 5 0 0 0 0 3 0 0],jN 3,jN 0,jN 0,jN 0]]],[jN 2,.lst false [[.lst true [At 8 0 0 0 0 0 0 0,At 5 0 0 0 0 2 0 0],jN 1,jN 0,jN 1,jN 0],[.lst true [At 4 0 0 0 0 2 0 0,At 1 1 0 0 0 0 0 256,At 3 0 0 1 14 0 0 0],jN 2,jN 0,jN 2,jN 3],[.lst true [At 4 0 0 0 0 2 0 0,At 5 0 0 0 0 1 0 0,At 10 0 0 0 0 0 0 0,At 4 0 0 0 0 3 0 0,At 5 0 0 0 0 0 0 0,At 8 0 0 0 0 0 0 0,At 5 0 0 0 0 2 0 0],jN 1,jN 0,jN 1,jN 0],[.lst true [At 4 0 0 0 0 0 0 0,At 9 0 0 0 0 0 0 0],jN 3,jN 0,jN 0,jN 0]]]]],.lst false [[.lst false [[jN 1,.lst false [[.lst false [[.bool true],[.bool true]]],[.lst false [[.bool true],[.bool true]]]],.nil,jN 2,.lst false [[.lst false [At 4 0 0 0 0 0 0 0,At 4 1 0 0 0 1 0 0,At 3 0 0 1 4 0 0 0,At 5 0 0 0 0 3 0 0],jN 3,jN 0,jN 0,jN 0],[.lst false [At 1 0 0 0 0 0 0 0,At 5 0 0 0 0 3 0 0],jN 3,jN 0,jN 0,jN 0]]],[jN 2,.lst false [[.lst false [[.bool true],[.bool true]]],[.lst false [[.bool true],[.bool true]]]],.nil,jN 2,.lst false [[.lst false [At 4 0 0 0 0 0 0 0,At 4 1 0 0 0 1 0 0,At 3 0 0 1 4 0 0 0,At 5 0 0 0 0 3 0 0],jN 3,jN 0,jN 0,jN 0],[.lst false [At 1 0 0 0 0 0 0 0,At 5 0 0 0 0 3 0 0],jN 3,jN 0,jN 0,jN 0]]],[jN 3,.lst false [[.lst false [[.bool false],[.bool false]]],[.lst false [[.bool false],[.bool false]]]],.nil,jN 2,.lst false [[.lst false [At 4 0 0 0 0 0 0 0,At 4 1 0 0 0 1 0 0,At 3 0 0 1 4 0 0 0,At 5 0 0 0 0 3 0 0],jN 3,jN 0,jN 0,jN 0],[.lst false [At 1 0 0 0 0 0 0 0,At 5 0 0 0 0 3 0 0],jN 3,jN 0,jN 0,jN 0]]],[jN 4,.nil,.lst false [[.lst false [[jN 0]]]],jN 2,.lst false [[.lst true [At 4 0 0 0 0 0 0 0,At 4 1 0 0 0 1 0 0,At 3 0 0 1 4 0 0 0,At 5 0 0 0 0 3 0 0],jN 3,jN 0,jN 0,jN 0]]]]],[.lst false [[jN 1,.lst false [[.lst false [[.bool true],[.bool true]]],[.lst false [[.bool true],[.bool true]]],[.lst false [[.bool true],[.bool true]]],[.lst false [[.bool true],[.bool true]]]],.nil,jN 2,.lst false [[.lst false [At 8 0 0 0 0 0 0 0,At 5 0 0 0 0 2 0 0],jN 1,jN 0,jN 1,jN 0],[.lst false [At 4 0 0 0 0 2 0 0,At 1 1 0 0 0 0 0 256,At 3 0 0 1 14 0 0 0],jN 2,jN 0,jN 2,jN 3],[.lst false [At 4 0 0 0 0 2 0 0,At 5 0 0 0 0 1 0 0,At 10 0 0 0 0 0 0 0,At 4 0 0 0 0 3 0 0,At 5 0 0 0 0 0 0 0,At 8 0 0 0 0 0 0 0,At 5 0 0 0 0 2 0 0],jN 1,jN 0,jN 1,jN 0],[.lst false [At 4 0 0 0 0 0 0 0,At 9 0 0 0 0 0 0 0],jN 3,jN 0,jN 0,jN 0]]],[jN 2,.lst false [[.lst false [[.bool true],[.bool true]]],[.lst false [[.bool true],[.bool true]]],[.lst false [[.bool true],[.bool true]]],[.lst false [[.bool true],[.bool true]]]],.nil,jN 2,.lst false [[.lst false [At 8 0 0 0 0 0 0 0,At 5 0 0 0 0 2 0 0],jN 1,jN 0,jN 1,jN 0],[.lst false [At 4 0 0 0 0 2 0 0,At 1 1 0 0 0 0 0 256,At 3 0 0 1 14 0 0 0],jN 2,jN 0,jN 2,jN 3],[.lst false [At 4 0 0 0 0 2 0 0,At 5 0 0 0 0 1 0 0,At 10 0 0 0 0 0 0 0,At 4 0 0 0 0 3 0 0,At 5 0 0 0 0 0 0 0,At 8 0 0 0 0 0 0 0,At 5 0 0 0 0 2 0 0],jN 1,jN 0,jN 1,jN 0],[.lst false [At 4 0 0 0 0 0 0 0,At 9 0 0 0 0 0 0 0],jN 3,jN 0,jN 0,jN 0]]],[jN 3,.lst false [[.lst false [[.bool false],[.bool false]]],[.lst false [[.bool false],[.bool false]]],[.lst false [[.bool false],[.bool false]]],[.lst false [[.bool false],[.bool false]]]],.nil,jN 2,.lst false [[.lst false [At 8 0 0 0 0 0 0 0,At 5 0 0 0 0 2 0 0],jN 1,jN 0,jN 1,jN 0],[.lst false [At 4 0 0 0 0 2 0 0,At 1 1 0 0 0 0 0 256,At 3 0 0 1 14 0 0 0],jN 2,jN 0,jN 2,jN 3],[.lst false [At 4 0 0 0 0 2 0 0,At 5 0 0 0 0 1 0 0,At 10 0 0 0 0 0 0 0,At 4 0 0 0 0 3 0 0,At 5 0 0 0 0 0 0 0,At 8 0 0 0 0 0 0 0,At 5 0 0 0 0 2 0 0],jN 1,jN 0,jN 1,jN 0],[.lst false [At 4 0 0 0 0 0 0 0,At 9 0 0 0 0 0 0 0],jN 3,jN 0,jN 0,jN 0]]],[jN 4,.nil,.lst false [[.lst false [[jN 0]]],[.lst false [[jN 1]]],[.lst false [[jN 2]]],[.lst false [[jN 3]]]],jN 2,.lst false [[.lst true [At 8 0 0 0 0 0 0 0,At 5 0 0 0 0 2 0 0],jN 1,jN 0,jN 1,jN 0],[.lst true [At 4 0 0 0 0 2 0 0,At 1 1 0 0 0 0 0 256,At 3 0 0 1 14 0 0 0],jN 2,jN 0,jN 2,jN 3],[.lst true [At 4 0 0 0 0 2 0 0,At 5 0 0 0 0 1 0 0,At 10 0 0 0 0 0 0 0,At 4 0 0 0 0 3 0 0,At 5 0 0 0 0 0 0 0,At 8 0 0 0 0 0 0 0,At 5 0 0 0 0 2 0 0],jN 1,jN 0,jN 1,jN 0],[.lst true [At 4 0 0 0 0 0 0 0,At 9 0 0 0 0 0 0 0],jN 3,jN 0,jN 0,jN 0]]]]]],jN 0]
def a_live1:List AV:=[.agg (vD (PF 0 v_opt) 1 0)]
def v_live1:AV:=.agg [.lst false [[.lst false [[.bool false],[.bool false]]]],.lst false [[.lst false [[.bool false],[.bool false]]]]]
def a_live2:List AV:=[.agg (vD (PF 0 v_opt) 1 1)]
def v_live2:AV:=.agg [.lst false [[.lst false [[.bool false],[.bool false]]],[.lst false [[.bool false],[.bool false]]],[.lst false [[.bool false],[.bool false]]],[.lst false [[.bool false],[.bool false]]]],.lst false [[.lst false [[.bool false],[.bool false]]],[.lst false [[.bool false],[.bool false]]],[.lst false [[.bool false],[.bool false]]],[.lst false [[.bool false],[.bool false]]]]]
def a_alloc1:List AV:=[.agg (vD (PF 0 v_opt) 1 0),v_live1,jN 8]
def v_alloc1:AV:=.agg [.lst false [[jN 1],[jN 2]]]
def a_alloc2:List AV:=[.agg (vD (PF 0 v_opt) 1 1),v_live2,jN 8]
def v_alloc2:AV:=.agg [.lst false [[jN 1],[jN 2]]]
def IJ:AV:=.tup [.agg [.lst false [[wN 386924544],[wN 286261250],[wN 269484034],[wN 18874624],[wN 235995138],[wN 319815694],[wN 269484034],[wN 286261249],[wN 364904465],[wN 269484035],[wN 286261248],[wN 386924544],[wN 286261250],[wN 301989890],[wN 269484032],[wN 403701760],[wN 436207616],[wN 297795588],[wN 269484032],[wN 270532609],[wN 68222978],[wN 286261251],[wN 281018372],[wN 381681664]],jN 5],jN 0]
def a_steps1:List AV:=[PF 0 v_image,jN 7]
def v_steps1:AV:=jN 3456
def a_steps2:List AV:=[PF 0 IJ,jN 7]
def v_steps2:AV:=jN 1920
def a_start1:List AV:=[PF 0 v_image]
def v_start1:AV:=.agg [jN 0,wN 0,wN 0,wN 0,wN 0,wN 0,wN 0,wN 0,wN 0,wN 0,wN 0,wN 0,wN 0,wN 0,wN 0,wN 0,wN 0,.lst false [[wN 0],[wN 0],[wN 0],[wN 0],[wN 0],[wN 0],[wN 0],[wN 0]],jN 0,bS [],jN 0,jN 0]
def a_start2:List AV:=[PF 0 IJ]
def v_start2:AV:=.agg [jN 0,wN 0,wN 0,wN 0,wN 0,wN 0,wN 0,wN 0,wN 0,wN 0,wN 0,wN 0,wN 0,wN 0,wN 0,wN 0,wN 0,.lst false [[wN 0],[wN 0],[wN 0],[wN 0],[wN 0]],jN 0,bS [],jN 0,jN 0]
def a_go1:List AV:=[PF 0 v_image,bS [1,2,3],v_start1,jN 3456]
def v_go1:AV:=.agg [jN 32,wN 0,wN 6,wN 256,wN 0,wN 0,wN 0,wN 0,wN 0,wN 0,wN 0,wN 0,wN 0,wN 0,wN 0,wN 20,wN 1,.lst false [[wN 6],[wN 3],[wN 256],[wN 20],[wN 6],[wN 3],[wN 6],[wN 256]],jN 3,bS [6],jN 125,jN 1]
def a_go2:List AV:=[PF 0 IJ,bS [1,2,3],v_start2,jN 1920]
def v_go2:AV:=.agg [jN 16,wN 0,wN 6,wN 256,wN 0,wN 0,wN 0,wN 0,wN 0,wN 0,wN 0,wN 0,wN 0,wN 9,wN 0,wN 0,wN 0,.lst false [[wN 6],[wN 3],[wN 256],[wN 6],[wN 9]],jN 3,bS [6],jN 66,jN 1]
def a_exec1:List AV:=[PF 0 v_image,bS [1,2,3],jN 3456]
def v_exec1:AV:=.agg [jN 1,bS [6],jN 125]
def a_exec2:List AV:=[PF 0 IJ,bS [1,2,3],jN 1920]
def v_exec2:AV:=.agg [jN 1,bS [6],jN 66]
def d7:List AV:=[]
def bl:AV:=.bool true
theorem i6:APure Tryz.prog 14 a_mean (fun r=>r=v_mean):=Bz (l:=[]) AY 12 4000 Ay
theorem jn{l:List Kn}(h:A2 Tryz.prog l):A2 Tryz.prog (⟨14,a_mean,v_mean⟩::l):=Cr Ay rfl i6 h
theorem Ym:APure Tryz.prog 40 a_start1 (fun r=>r=v_start1):=Bz (l:=[]) AY 12 4000 Ay
theorem Zi{l:List Kn}(h:A2 Tryz.prog l):A2 Tryz.prog (⟨40,a_start1,v_start1⟩::l):=Cr Ay rfl Ym h
theorem Yl:APure Tryz.prog 40 a_start2 (fun r=>r=v_start2):=Bz (l:=[]) AY 12 4000 Ay
theorem Zh{l:List Kn}(h:A2 Tryz.prog l):A2 Tryz.prog (⟨40,a_start2,v_start2⟩::l):=Cr Ay rfl Yl h
theorem Yk:APure Tryz.prog 16 a_steps1 (fun r=>r=v_steps1):=Bz (l:=[]) AY 12 4000 Ay
theorem Zg{l:List Kn}(h:A2 Tryz.prog l):A2 Tryz.prog (⟨16,a_steps1,v_steps1⟩::l):=Cr Ay rfl Yk h
theorem Yj:APure Tryz.prog 16 a_steps2 (fun r=>r=v_steps2):=Bz (l:=[]) AY 12 4000 Ay
theorem Zf{l:List Kn}(h:A2 Tryz.prog l):A2 Tryz.prog (⟨16,a_steps2,v_steps2⟩::l):=Cr Ay rfl Yj h
theorem uf:APure Tryz.prog 39 a_go1 (fun r=>r=v_go1):=HX (N:=125) (kk:=1119) Am Ug K2 (OK (l:=[]) AY) 12 4000 (fun l=>by kernel_rfl)
theorem uH{l:List Kn}(h:A2 Tryz.prog l):A2 Tryz.prog (⟨39,a_go1,v_go1⟩::l):=Cr Ay rfl uf h
theorem ue:APure Tryz.prog 39 a_go2 (fun r=>r=v_go2):=HX (N:=66) (kk:=589) Am Ug K2 (OK (l:=[]) AY) 12 4000 (fun l=>by kernel_rfl)
theorem uG{l:List Kn}(h:A2 Tryz.prog l):A2 Tryz.prog (⟨39,a_go2,v_go2⟩::l):=Cr Ay rfl ue h
theorem uc:APure Tryz.prog 11 a_src (fun r=>r=v_src):=Bz (l:=[]) AY 12 4000 Ay
theorem uE{l:List Kn}(h:A2 Tryz.prog l):A2 Tryz.prog (⟨11,a_src,v_src⟩::l):=Cr Ay rfl uc h
theorem i8:APure Tryz.prog 26 a_core (fun r=>r=v_core):=Bz (l:=[]) AY 12 4000 Ay
theorem Zj{l:List Kn}(h:A2 Tryz.prog l):A2 Tryz.prog (⟨26,a_core,v_core⟩::l):=Cr Ay rfl i8 h
theorem ck:APure Tryz.prog 30 a_lower (fun r=>r=v_lower):=Bz (l:=[]) AY 12 4000 Ay
theorem c9{l:List Kn}(h:A2 Tryz.prog l):A2 Tryz.prog (⟨30,a_lower,v_lower⟩::l):=Cr Ay rfl ck h
theorem bU:APure Tryz.prog 60 a_sound (fun r=>r=v_sound):=Bz (l:=[]) AY 12 4000 Ay
theorem cR{l:List Kn}(h:A2 Tryz.prog l):A2 Tryz.prog (⟨60,a_sound,v_sound⟩::l):=Cr Ay rfl bU h
theorem cr:APure Tryz.prog 68 a_build (fun r=>r=v_build):=Bz (l:=[]) AY 12 4000 Ay
theorem dh{l:List Kn}(h:A2 Tryz.prog l):A2 Tryz.prog (⟨68,a_build,v_build⟩::l):=Cr Ay rfl cr h
end Go.Proofs.YtijlphdockhgjaaGreatDoor.Sv
