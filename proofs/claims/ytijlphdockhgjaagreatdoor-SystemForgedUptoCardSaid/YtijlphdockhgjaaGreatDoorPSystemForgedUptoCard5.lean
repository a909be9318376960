/-
  LAW 35: the passes as values: own work.
-/
import Derived.Test.YtijlphdockhgjaaGreatDoorPSystemForgedUptoCard4
import Derived.Test.YtijlphdockhgjaaGreatDoorPSystemForgedUptoCard3
import Derived.Test.YtijlphdockhgjaaGreatDoorPSystemForgedUptoCard2
import Derived.Recover
set_option linter.unusedVariables false
set_option linter.unusedSimpArgs false
set_option maxRecDepth 100000
set_option maxHeartbeats 2000000
namespace Go.Proofs.YtijlphdockhgjaaGreatDoor.Sv
open Go
def Z1(k:Int)(f:Nat):Value:=.agg #[.int .i64 k,.func (.func f) #[] #[]]
def Qw(k:Int):Value:=bif k==1 then .iface 228 (Z1 1 84)else bif k==2 then .iface 228 (Z1 2 85)else bif k==3 then .iface 228 (Z1 3 86)else bif k==4 then .iface 230 (.agg #[.int .i64 4])else .nilIface
theorem cQ{k:Int}(h1:k≠1)(h2:k≠2)(h3:k≠3)(h4:k≠4):EB k=false:=by
 rw[EB,decide_eq_false_iff_not];omega
theorem X9{k:Int}(h1:k≠1)(h2:k≠2)(h3:k≠3)(h4:k≠4):Qw k=.nilIface:=by
 have a1:(k==1)=false:=beq_eq_false_iff_ne.2 h1;have a2:(k==2)=false:=beq_eq_false_iff_ne.2 h2;have a3:(k==3)=false:=beq_eq_false_iff_ne.2 h3;have a4:(k==4)=false:=beq_eq_false_iff_ne.2 h4;simp[Qw,a1,a2,a3,a4]
theorem Mi{k:Int}(h:EB k=true):k=1\/k=2\/k=3\/k=4:=by
 have:=of_decide_eq_true h;omega
def OCallR(P:Program)(o:Oper)(e:Ar)(h:Aa)(R:AV->Aa->Prop):Prop:=
  ∀(H:Aq) (ι:AL) (a:Act) (w:World) (n:Nat) (Q:Exit->Act->World->Prop),Sim H ι ⟨n,e,h⟩ a w->
    o.wp P a w (fun a' w'=>∃v r h' H' ι',R r h'/\a'=a.put o.dst v/\Rel H' ι' r v/\HeapRel H' ι' h' w'/\Step H ι h w H' ι' h' w') Q
section
variable {P : Program} {o : Oper} {e : Ar} {h : Aa} {R : AV -> Aa -> Prop}
theorem QE{f:FuncId}{xs:List AV}{us:Act->Array Value}(hus:∀H ι a w n,Sim H ι ⟨n,e,h⟩ a w->RelAll H ι xs (us a))(hex:∀H ι a w n,Sim H ι ⟨n,e,h⟩ a w->(execOp a.eval o).run P w=.ok (.enter f (us a)) w)
 (hcall:ACall P f xs h R):OCallR P o e h R:=by
 intro H ι a w n Q hs;have hcalls:=hcall H ι w _ (hus H ι a w n hs) hs.heap;unfold Oper.wp;rw[hex H ι a w n hs];exact fu
theorem um{f:FuncId}{fn:Func}{x:Operand}{args:Array Operand}{tys:Array TypeId}{fs xs cs:List AV}(ho:o.op=.call {callee:=.value x,args:=args,argTypes:=tys})(hfn:look e x=some (.fn (.func f) fs cs))(hf:P.funcs[f]?=some fn)(hnm:(fn.name== "runtime.NumGoroutine")=false)(hb:fn.body.isSome=true)
 (hx:AQ e args.toList=some xs) (hcall:ACall P f (fs++xs++cs) h R):OCallR P o e h R:=by
 intro H ι a w n Q hs;have hvf:=Ai hs hfn;obtain⟨us,vs,hve,k1,k2,k3,k4⟩:=hvf.fn_inv;have hraa:=BW (BW ⟨k1,k3⟩ (BY hs hx)) ⟨k2,k4⟩;have hcalls:=hcall H ι w _ hraa hs.heap;have hexec:(execOp a.eval o).run P w=.ok (.enter f (us++args.map a.eval++vs)) w:=by
  simp only[execOp,ho,resolve,hve,Deferred.ofValue,invoke,Sem.run_bind,Sem.run_pure,Result.andThen_ok,Bv hf hnm hb]
 unfold Oper.wp;rw[hexec];exact fu
theorem uk{f:FuncId}{fn:Func}{x:Operand}{args:Array Operand}{tys:Array TypeId}{xs:List AV}(ho:o.op=.call {callee:=.value x,args:=args,argTypes:=tys})(hfn:look e x=some (.val (.func (.func f) #[] #[])))(hf:P.funcs[f]?=some fn)(hnm:(fn.name== "runtime.NumGoroutine")=false)(hb:fn.body.isSome=true)
 (hx:AQ e args.toList=some xs) (hcall:ACall P f xs h R):OCallR P o e h R:=
 QE (us:=fun a=>args.map a.eval) (fun H ι a w n hs=>BY hs hx) (fun H ι a w n hs=>by
  have hye:=((Ai hs hfn).val_inv).1;simp only[execOp,ho,resolve,hye,Deferred.ofValue,invoke,Sem.run_bind,Sem.run_pure,Result.andThen_ok,Array.append_empty,Array.empty_append,Bv hf hnm hb]) hcall
theorem ul{f:FuncId}{fn:Func}{recv:Operand}{name:String}{args:Array Operand}{tys:Array TypeId}{t:TypeId}{v:Value}{x0:AV}{xs:List AV}(ho:o.op=.call {callee:=.invoke recv name,args:=args,argTypes:=tys})
 (hr:look e recv=some (.val (.iface t v))) (hm:∀w,(method (P.types.size+Made.depth) t v name).run P w=.ok (f,v) w) (hv:∀H,Rel H AE x0 v)
 (hf:P.funcs[f]?=some fn) (hnm:(fn.name== "runtime.NumGoroutine")=false) (hb:fn.body.isSome=true)
 (hx:AQ e args.toList=some xs) (hcall:ACall P f (x0::xs) h R):OCallR P o e h R:=
 QE (us:=fun a=> #[v]++args.map a.eval) (fun H ι a w n hs=>by
  have h1:RelAll H ι [x0] #[v]:=⟨rfl,fun j x u h1 h2=>by
   cases j with
   |zero=>simp at h1 h2;subst h1;subst h2;exact(hv H).mono (KLe.refl _) (LLe.none _)
   |succ j=>simp at h1⟩
  exact BW h1 (BY hs hx)) (fun H ι a w n hs=>by
  have hre:=((Ai hs hr).val_inv).1;have h0:(#[Value.iface t v]++args.map a.eval)[0]?=some (.iface t v):=by
   rw[Array.getElem?_append_left Az];rfl
  have hex:(#[Value.iface t v]++args.map a.eval).extract 1 (#[Value.iface t v]++args.map a.eval).size=args.map a.eval:=by
   apply Array.ext';exact fE
  simp only[execOp,ho,resolve,hre,invoke,Sem.run_bind,Sem.run_pure,Result.andThen_ok,h0,hex,callMethod,run_program,hm w,Bv hf hnm hb]) hcall
theorem PN{ops:Array Oper}{K:Ac->Prop}{H H':Aq}{ι ι':AL}{h hn:Aa}{w w':World}(hpost:∀e a2 w2,Post H' ι' hn w' (Bk K fun _ _=>False) e a2 w2->Post H ι h w (Bk K fun _ _=>False) e a2 w2):
 ∀(l:List Oper) (a1:Act) (w1:World),wpList P ops (Post H' ι' hn w' (Bk K fun _ _=>False)) l a1 w1->wpList P ops (Post H ι h w (Bk K fun _ _=>False)) l a1 w1:=by
 intro l
 induction l with
 |nil=>exact fun a1 w1 hp=>hpost _ _ _ hp
 |cons o' l ih=>
  intro a1 w1 hp;exact WW
theorem AOps.inn{ops:Array Oper}{rest:List Oper}{n:Nat}{K:Ac->Prop}(d:Nat)(hd:o.dst=some d)(hb:Nat.blt d n=true)(hg:Av ops o e=some true)
 (ho:OCallR P o e h (fun r hn=>AOps P ops rest ⟨n,Ad e d r,hn⟩ K)):AOps P ops (o::rest) ⟨n,e,h⟩ K:=by
 intro H ι a w hs;unfold wpList;rw[AN hs hg];simp only[if_true];refine .inl (Oper.wp_mono (fun a' w' hx=>?_) (ho H ι a w n _ hs));obtain⟨v,r,hn,H',ι',hr,rfl,h1,h2,h3⟩:=hx;have hs':=hs.put (d:=o.dst) (r:=some r) h2 h3 (fun x ex=>by cases ex;exact h1) (HV hd hb);exact eE
end
section
variable {P : Program} {ops : Array Oper} {s : Ac} {E : List PanicEntry -> Ac -> Prop} {o : Oper} {rest : List Oper}
end
section
variable {P : Program} {T : Nat -> Option Ae} {ops : Array Oper} {n : Nat} {e : Ar} {h : Aa} {E : List PanicEntry -> Ac -> Prop} {o : Oper} {rest : List Oper}
end
section
variable {P : Program} {T : Nat -> Option Ae} {ops : Array Oper} {n : Nat} {e : Ar} {h : Aa} {E : List PanicEntry -> Ac -> Prop} {o : Oper} {rest : List Oper}
end
section
variable {P : Program} {ops : Array Oper} {n : Nat}
end
section
variable {P : Program} {n : Nat} {ops : Array Oper}
variable {o : Oper} {rest : List Oper} {e : Ar} {h : Aa} {acc : List (List Nat × List Nat)} {K : Ac -> Prop}
end
section
variable {P : Program} {n : Nat} {h : Aa}
end
section
variable {P : Program} {T : Nat -> Option Ae} {o : Oper} {e : Ar} {h : Aa}
end
section
variable {P : Program} {T : Nat -> Option Ae} {o : Oper} {e : Ar} {h : Aa}
end
section
variable {P : Program} {T : Nat -> Option Ae} {o : Oper} {e : Ar} {h : Aa}
end
def DfOk(H:Aq)(ι:AL):Option AV->List Deferred->Prop
  |none,l=>l=[]
  |some x,l=>∃f us vs,l=[{target:=.fn f vs,args:=us}]/\Rel H ι x (.func f us vs)
structure SimF(x:Option AV)(H:Aq)(ι:AL)(s:Ac)(a:Act)(w:World):Prop where
  sim:Sim H ι s {a with defers:=[]} w
  df:DfOk H ι x a.defers
theorem DfOk.mono{H H':Aq}{ι ι':AL}{x:Option AV}{l:List Deferred}(h:DfOk H ι x l)(hk:KLe H H')(hl:LLe ι ι'):DfOk H' ι' x l:=by
 cases x with
 |none=>exact h
 |some x=>
  obtain⟨f,us,vs,h1,h2⟩:=h;exact⟨f,us,vs,h1,h2.mono hk hl⟩
def PostF(H:Aq)(ι:AL)(h:Aa)(w:World)(Q:Exit->Ac->Option AV->Prop):Exit->Act->World->Prop:=fun e a' w'=>
  ∃s' x' H' ι',Q e s' x'/\SimF x' H' ι' s' a' w'/\Step H ι h w H' ι' s'.h w'
def AGoF(P:Program)(c:Code)(s:Ac)(x:Option AV)(Q:Exit->Ac->Option AV->Prop):Prop:=
  ∀H ι a w,SimF x H ι s a w->c.wp P (PostF H ι s.h w Q) a w
def AOpsF(P:Program)(ops:Array Oper)(l:List Oper)(s:Ac)(x:Option AV)(Q:Exit->Ac->Option AV->Prop):Prop:=
  ∀H ι a w,SimF x H ι s a w->wpList P ops (PostF H ι s.h w Q) l a w
def vh(K:Ac->Option AV->Prop)(Q:Exit->Ac->Option AV->Prop):Exit->Ac->Option AV->Prop
  | .normal,s,x=>K s x
  |e,s,x=>Q e s x
section
variable {P : Program} {Q : Exit -> Ac -> Option AV -> Prop} {s : Ac} {x : Option AV}
theorem PostF.step{H:Aq}{ι:AL}{h:Aa}{w:World}{H':Aq}{ι':AL}{h':Aa}{w':World}(hr:HeapRel H ι h w)(hr':HeapRel H' ι' h' w')(st:Step H ι h w H' ι' h' w'){e:Exit}{a:Act}{w'':World}(hp:PostF H' ι' h' w' Q e a w''):PostF H ι h w Q e a w'':=by
 obtain⟨s',x',H'',ι'',q,r,t⟩:=hp;exact⟨s',x',H'',ι'',q,r,st.trans hr hr' t⟩
theorem AGoF.seq{c d:Code}(h:AGoF P c s x (vh (fun s' x'=>AGoF P d s' x' Q) Q)):AGoF P (.seq c d) s x Q:=by
 intro H ι a w hs;refine wp_seq (wp_mono (h H ι a w hs) fun e a' w' hp=>?_)
 cases e with
 |normal=>
  obtain⟨s',x',H',ι',q,r,t⟩:=hp;exact wp_mono (q H' ι' a' w' r) fun e a'' w'' hp'=>PostF.step hs.sim.heap r.sim.heap t hp'
 |_=>exact hp
theorem AGoF.region{id:Nat}{ops:Array Oper}(h:AOpsF P ops ops.toList s x Q):AGoF P (.region id ops false) s x Q:=fun H ι a w hs=>wp_region_list (h H ι a w hs)
theorem AGoF.skip(h:Q .normal s x):AGoF P .skip s x Q:=fun H ι a w hs=>wp_skip ⟨s,x,H,ι,h,hs,Step.refl _ _ _ _⟩
theorem AGoF.ret(h:Q .ret s x):AGoF P .ret s x Q:=fun H ι a w hs=>wp_ret ⟨s,x,H,ι,h,hs,Step.refl _ _ _ _⟩
theorem AGoF.of{c:Code}(h:AGo P c s (fun e s'=>Q e s' none)):AGoF P c s none Q:=by
 intro H ι a w hs;have hd:a.defers=[]:=hs.df;have e:{a with defers:=[]}=a:=by cases a;simp only at hd;subst hd;rfl
 have h0:=hs.sim;rw[e]at h0;refine wp_mono (h H ι a w h0) fun e a' w' hp=>?_
 obtain⟨s',H',ι',q,r,t⟩:=hp;have e':{a' with defers:=[]}=a':=by
  have:=r.d
  cases a';simp only at this;subst this;rfl
 exact⟨s',none,H',ι',q,⟨by rw[e'];exact r,r.d⟩,t⟩
theorem SimF.put{H:Aq}{ι:AL}{a:Act}{w:World}(hs:SimF x H ι s a w){H':Aq}{ι':AL}{h':Aa}{w':World}{d:Option Nat}{r:Option AV}{v:Value}(h2:HeapRel H' ι' h' w')(h3:Step H ι s.h w H' ι' h' w')(h1:∀y,r=some y->Rel H' ι' y v)(hd:∀t,d=some t->t<s.n):SimF x H' ι' ⟨s.n,Cy s.env d r,h'⟩ (a.put d v) w':=by
 refine⟨?_,?_⟩
 . have:=hs.sim.put (d:=d) h2 h3 h1 hd;rw[DY]at this;exact this
 . have:=hs.df.mono h3.kle h3.lle
   cases d<;>exact this
theorem AOpsF.nil{ops:Array Oper}(h:Q .normal s x):AOpsF P ops [] s x Q:=fun H ι a w hs=>⟨s,x,H,ι,h,hs,Step.refl _ _ _ _⟩
theorem IC{ops:Array Oper}{H H':Aq}{ι ι':AL}{h h':Aa}{w w':World}(hr:HeapRel H ι h w)(hr':HeapRel H' ι' h' w')(st:Step H ι h w H' ι' h' w'):∀(l:List Oper) (a1:Act) (w1:World),wpList P ops (PostF H' ι' h' w' Q) l a1 w1->wpList P ops (PostF H ι h w Q) l a1 w1:=by
 have hpost:∀e a2 w2,PostF H' ι' h' w' Q e a2 w2->PostF H ι h w Q e a2 w2:=fun e a2 w2 hp=>PostF.step hr hr' st hp
 intro l
 induction l with
 |nil=>exact fun a1 w1 hp=>hpost _ _ _ hp
 |cons o' l ih=>
  intro a1 w1 hp;exact WW
theorem FA{ops:Array Oper}{o:Oper}{H:Aq}{ι:AL}{a:Act}{w:World}(hs:SimF x H ι s a w)(hg:Av ops o s.env=some true):Region.wanted o (yielded ops a.tmps)=true:=AN hs.sim hg
theorem AOpsF.step{ops:Array Oper}{o:Oper}{rest:List Oper}{R:List Nat}{W:List (Nat×AObj)}{r:Option AV}(hg:Av ops o s.env=some true)(ho:OLoc P o s.env s.h R W r)(hd:∀t,o.dst=some t->t<s.n)(h:AOpsF P ops rest ⟨s.n,Cy s.env o.dst r,AA s.h W⟩ x Q):
 AOpsF P ops (o::rest) s x Q:=by
 intro H ι a w hs;unfold wpList;rw[FA hs hg];simp only[if_true];refine .inl (EN (R:=fun v w'=>∃H' ι',(∀x,r=some x->Rel H' ι' x v)/\HeapRel H' ι' (AA s.h W) w'/\Step H ι s.h w H' ι' (AA s.h W) w')
  (Oper.wp_mono (fun a' w' hx=>?_) (ho H ι {a with defers:=[]} w s _ hs.sim (fun _ _=>rfl) (fun _ _=>rfl))) (fun v w' hx=>?_))
 . obtain⟨v,H',ι',h1,h2⟩:=hx;exact⟨v,h1,H',ι',h2⟩
 . obtain⟨H',ι',h1,h2,h3⟩:=hx;have hs':=hs.put h2 h3 h1 hd;exact IC hs.sim.heap h2 h3 _ _ _ (h H' ι' _ w' hs')
theorem AOpsF.d{ops:Array Oper}{o:Oper}{rest:List Oper}{y:Operand}{tys:Array TypeId}{f:Fn}{xs cs:List AV}(hg:Av ops o s.env=some true)(ho:o.op=.defer {callee:=.value y,args:= #[],argTypes:=tys})(hdst:o.dst=none)(hy:look s.env y=some (.fn f xs cs))(h:AOpsF P ops rest s (some (.fn f xs cs)) Q):
 AOpsF P ops (o::rest) s none Q:=by
 intro H ι a w hs;unfold wpList;rw[FA hs hg];simp only[if_true];have hv:Rel H ι (.fn f xs cs) (a.eval y):=Ai hs.sim hy;obtain⟨us,vs,hva,h1,h2,h3,h4⟩:=hv.fn_inv
 replace hva:a.eval y=.func f us vs:=hva
 have hexec:(execOp a.eval o).run P w=.ok (.defer {target:=.fn f vs,args:=us}) w:=by
  simp[execOp,ho,resolve,hva,Deferred.ofValue]
 refine .inl ?_;unfold Oper.wp;rw[hexec];show wpList P ops _ rest (({a with defers:={target:=.fn f vs,args:=us}::a.defers}:Act).put o.dst undef) w;rw[hdst];have hd:a.defers=[]:=hs.df;refine h H ι _ w ⟨?_,?_⟩
 . exact hs.sim
 . exact⟨f,us,vs,by show _::a.defers=_;rw[hd],.fn ι f xs cs us vs h1 h2 h3 h4⟩
end
section
variable {P : Program} {ops : Array Oper} {n : Nat} {e : Ar} {h : Aa} {x : Option AV} {Q : Exit -> Ac -> Option AV -> Prop} {o : Oper} {rest : List Oper} {R : List Nat} {W : List (Nat × AObj)} {r : AV}
end
section
variable {P : Program} {ops : Array Oper} {n : Nat} {e : Ar} {h : Aa} {x : Option AV} {Q : Exit -> Ac -> Option AV -> Prop}
theorem ke{H:Aq}{ι:AL}{a:Act}{w:World}{s:Ac}(hs:SimF x H ι s a w){Q0:Exit->Ac->Prop}{e:Exit}{a':Act}{w':World}(hp:PD a.defers (Post H ι s.h w Q0) e a' w')(hq:∀s',Q0 e s'->Q e s' x):PostF H ι s.h w Q e a' w':=by
 obtain⟨hD,s',H',ι',q,r,t⟩:=hp;exact⟨s',x,H',ι',hq s' q,⟨r,by rw[hD];exact hs.df.mono t.kle t.lle⟩,t⟩
end
def ACallD(P:Program)(f:FuncId)(args:List AV)(h:Aa)(u:FrameMode)(R:FrameMode->Aa->Prop):Prop:=
  ∀(H:Aq) (ι:AL) (w:World) (vs:Array Value),RelAll H ι args vs->HeapRel H ι h w->
    CallsD P f vs u w (fun e u' w'=>∃v h' H' ι',e=.returned v/\R u' h'/\HeapRel H' ι' h' w'/\Step H ι h w H' ι' h' w')
def vt(P:Program)(T:Nat->Option Ae)(fn:Func)(R:AV->Aa->Prop):Exit->Ac->Option AV->Prop
  | .normal,s,some (.fn (.func g) xs cs)| .ret,s,some (.fn (.func g) xs cs)=>(∃gn,P.funcs[g]?=some gn/\(gn.name== "runtime.NumGoroutine")=false/\gn.body.isSome=true)/\∃R0:Aa->Prop,ACallD P g (xs++cs) s.h .returning (fun u' h'=>u'=.returning/\R0 h')/\∀h',R0 h'->∃ys,CD T {s with h:=h'} fn.results.toList ys/\R (CQ ys) h'
  | .panic ch,s,some (.fn (.func g) xs cs)=>(∃gn,P.funcs[g]?=some gn/\(gn.name== "runtime.NumGoroutine")=false/\gn.body.isSome=true)/\∃R0:Aa->Prop,ACallD P g (xs++cs) s.h (.panicking ch) (fun u' h'=>settle u'=.returning/\R0 h')/\∀h',R0 h'->∃ys,CD T {s with h:=h'} fn.results.toList ys/\R (CQ ys) h'
  |_,_,_=>False
theorem Sim.heapTo{H:Aq}{ι:AL}{s:Ac}{a:Act}{w:World}(hs:Sim H ι s a w){H':Aq}{ι':AL}{h':Aa}{w':World}(h2:HeapRel H' ι' h' w')(h3:Step H ι s.h w H' ι' h' w'):Sim H' ι' {s with h:=h'} a w':=
 ⟨hs.n,hs.d,fun t x hx=>by obtain⟨v,h1,h4⟩:=hs.env t x hx;exact⟨v,h1,h4.mono h3.kle h3.lle⟩,h2⟩
theorem M1{P:Program}{T:Nat->Option Ae}(hT:Bc P T){f:FuncId}{fn:Func}{c:Code}{args:List AV}{h:Aa}{R:AV->Aa->Prop}(hf:P.funcs[f]?=some fn)(hb:fn.body=some c){n:Nat}(hn:args.length+(fn.ntmps-args.length)=n)
 (hg:AGoF P c ⟨n,C9 args,h⟩ none (vt P T fn R)):ACall P f args h R:=by
 intro H ι w vs ha hr;refine calls_of_wp_defers hf hb ?_;have hs:Sim H ι ⟨n,C9 args,h⟩ {tmps:=vs++Array.replicate (fn.ntmps-vs.size) undef,defers:=[]} w:=by
  exact WX
 refine wp_mono (hg H ι _ w ⟨hs,rfl⟩) fun e a' w' hp=>?_
 obtain⟨s',x',H',ι',q,r,t⟩:=hp;have main:∀(u:FrameMode) (g:FuncId) (xs cs:List AV) (R0:Aa->Prop) (S:FrameMode->Prop),x'=some (.fn (.func g) xs cs)->u≠ .run->(∀u',S u'->settle u'=.returning)->(∃gn,P.funcs[g]?=some gn/\(gn.name== "runtime.NumGoroutine")=false/\gn.body.isSome=true)->ACallD P g (xs++cs) s'.h u (fun u' h'=>S u'/\R0 h')->
  (∀h',R0 h'->∃ys,CD T {s' with h:=h'} fn.results.toList ys/\R (CQ ys) h')->
  Leaves P fn a'.tmps (fun e w'=>∃v r h' H' ι',e=.returned v/\R r h'/\Rel H' ι' r v/\HeapRel H' ι' h' w'/\Step H ι h w H' ι' h' w') a'.defers u w':=by
  intro u g xs cs R0 S hx hu hS hgn hcall hend;subst hx;obtain⟨gf,us,vs',hdf,hrel⟩:=r.df;obtain⟨us',vs'',he,h1,h2,h3,h4⟩:=hrel.fn_inv
  cases he
  rw[hdf];obtain⟨gn,g1,g2,g3⟩:=hgn;refine leaves_cons (f:=g) (args:=us++vs') hu (by simp[invoke,Bv g1 g2 g3]) ?_;refine(hcall H' ι' w' (us++vs') (BW ⟨h1,h3⟩ ⟨h2,h4⟩) r.sim.heap).mono ?_
  rintro e u' w'' ⟨v,h',H'',ι'',rfl,⟨k1,k2⟩,k3,k4⟩
  have hs2:=r.sim.heapTo k3 k4;obtain⟨ys,y1,y2⟩:=hend h' k2;obtain⟨v,e1,e2⟩:=Dm hT hs2 y1;show Leaves P fn a'.tmps _ [] (settle u') w'';rw[hS u' k1];exact⟨v,e2,v,_,h',H'',ι'',rfl,y2,e1,k3,t.trans hr r.sim.heap k4⟩
 cases e with
 |normal=>cases x' with
  |none=>exact q.elim
  |some x'=>cases x' with
   |fn g xs cs=>cases g with
    |func g=>
     exact fA
    |_=>exact q.elim
   |_=>exact q.elim
 |ret=>cases x' with
  |none=>exact q.elim
  |some x'=>cases x' with
   |fn g xs cs=>cases g with
    |func g=>
     exact fA
    |_=>exact q.elim
   |_=>exact q.elim
 |panic ch=>cases x' with
  |none=>exact q.elim
  |some x'=>cases x' with
   |fn g xs cs=>cases g with
    |func g=>
     obtain⟨q1,R0,q2,q3⟩:=q;exact main (.panicking ch) g xs cs R0 (fun u'=>settle u'=.returning) rfl Az (fun u' hu=>hu) q1 q2 q3
    |_=>exact q.elim
   |_=>exact q.elim
 |_=>cases x' with
  |none=>exact q.elim
  |some x'=>cases x' with
   |fn g xs cs=>cases g<;>exact q.elim
   |_=>exact q.elim
def UD(H:Aq)(ι:AL)(h:Aa)(w:World)(c₀:Frame)(cs:List Frame)(Q:Exit->Ac->FrameMode->Prop):Exit->Act->List Frame->World->Prop:=fun e a' cs' w'=>
  ∃s' u' H' ι',Q e s' u'/\cs'={c₀ with mode:=u'}::cs/\Sim H' ι' s' a' w'/\Step H ι h w H' ι' s'.h w'
def AGoS(P:Program)(c:Code)(s:Ac)(u:FrameMode)(Q:Exit->Ac->FrameMode->Prop):Prop:=
  ∀H ι a w c₀ cs,Sim H ι s a w->c₀.mode=u->c.wpS P (UD H ι s.h w c₀ cs Q) a (c₀::cs) w
def AOpsS(P:Program)(ops:Array Oper)(l:List Oper)(s:Ac)(u:FrameMode)(Q:Exit->Ac->FrameMode->Prop):Prop:=
  ∀k,(∀j,l[j]?=ops[k+j]?)->∀H0 ι0 h0 w0,HeapRel H0 ι0 h0 w0->∀H ι a w c₀ cs,Sim H ι s a w->Step H0 ι0 h0 w0 H ι s.h w->c₀.mode=u->wpOpsS P ops (UD H0 ι0 h0 w0 c₀ cs Q) (List.range' k l.length) a (c₀::cs) w
def vg(K:Ac->FrameMode->Prop)(Q:Exit->Ac->FrameMode->Prop):Exit->Ac->FrameMode->Prop
  | .normal,s,u=>K s u
  |e,s,u=>Q e s u
theorem IB{P:Program}{c:Code}{Q Q':Exit->Act->List Frame->World->Prop}{a:Act}{cs:List Frame}{w:World}(m:∀e a cs w,Q e a cs w->Q' e a cs w)(h:c.wpS P Q a cs w):c.wpS P Q' a cs w:=fun b k h1 h2=>by
 obtain⟨e,a',cs',w',q,r⟩:=h b k h1 h2;exact⟨e,a',cs',w',m _ _ _ _ q,r⟩
theorem NY{c₀:Frame}{u:FrameMode}(h:c₀.mode=u):c₀={c₀ with mode:=u}:=by subst h;rfl
section
variable {P : Program} {Q : Exit -> Ac -> FrameMode -> Prop} {s : Ac} {u : FrameMode}
theorem AGoS.seq{c d:Code}(h:AGoS P c s u (vg (fun s' u'=>AGoS P d s' u' Q) Q)):AGoS P (.seq c d) s u Q:=by
 intro H ι a w c₀ cs hs hu;refine wpS_seq (IB (fun e a' cs' w' hp=>?_) (h H ι a w c₀ cs hs hu));obtain⟨s',u',H',ι',q,rfl,r,t⟩:=hp
 cases e with
 |normal=>
  refine IB (fun e2 a2 cs2 w2 hp2=>?_) (q H' ι' a' w' {c₀ with mode:=u'} cs r rfl);obtain⟨s2,u2,H2,ι2,q2,rfl,r2,t2⟩:=hp2;exact⟨s2,u2,H2,ι2,q2,rfl,r2,t.trans hs.heap r.heap t2⟩
 |_=>exact⟨s',u',H',ι',q,rfl,r,t⟩
theorem AGoS.of{c:Code}(h:AGo P c s (fun e s'=>Q e s' u)):AGoS P c s u Q:=by
 intro H ι a w c₀ cs hs hu;refine wpS_of_wp (wp_mono (h H ι a w hs) fun e a' w' hp=>?_);obtain⟨s',H',ι',q,r,t⟩:=hp;exact⟨s',u,H',ι',q,by rw[<-NY hu],r,t⟩
theorem AGoS.region{id:Nat}{ops:Array Oper}(h:AOpsS P ops ops.toList s u Q):AGoS P (.region id ops false) s u Q:=by
 intro H ι a w c₀ cs hs hu;refine wpS_region ?_;rw[List.range_eq_range',<-Array.length_toList];exact h 0 Az H ι s.h w hs.heap H ι a w c₀ cs hs (Step.refl _ _ _ _) hu
theorem AOpsS.nil{ops:Array Oper}(h:Q .normal s u):AOpsS P ops [] s u Q:=by
 intro k hk H0 ι0 h0 w0 hr0 H ι a w c₀ cs hs hst hu;show UD H0 ι0 h0 w0 c₀ cs Q .normal a (c₀::cs) w;exact⟨s,u,H,ι,h,by rw[<-NY hu],hs,hst⟩
theorem Nq{ops:Array Oper}{o:Oper}{H:Aq}{ι:AL}{a:Act}{w:World}(hs:Sim H ι s a w)(hg:Av ops o s.env=some true):Region.wanted o (yielded ops a.tmps)=true:=AN hs hg
theorem AOpsS.step{ops:Array Oper}{o:Oper}{rest:List Oper}{R:List Nat}{W:List (Nat×AObj)}{r:Option AV}(hg:Av ops o s.env=some true)(ho:OLoc P o s.env s.h R W r)(hd:∀t,o.dst=some t->t<s.n)(h:AOpsS P ops rest ⟨s.n,Cy s.env o.dst r,AA s.h W⟩ u Q):
 AOpsS P ops (o::rest) s u Q:=by
 intro k hk H0 ι0 h0 w0 hr0 H ι a w c₀ cs hs hst hu;have hk0:ops[k]?=some o:=by simpa using(hk 0).symm
 have hk':∀j,rest[j]?=ops[k+1+j]?:=fun j=>by have:=hk (j+1);simpa[Nat.add_assoc,Nat.add_comm 1 j]using this
 rw[List.length_cons,List.range'_succ];simp only[wpOpsS,hk0];rw[Nq hs hg];simp only[if_true];have next:∀a' w',(∃v H' ι',a'=a.put o.dst v/\(∀x,r=some x->Rel H' ι' x v)/\HeapRel H' ι' (AA s.h W) w'/\Step H ι s.h w H' ι' (AA s.h W) w')->wpOpsS P ops (UD H0 ι0 h0 w0 c₀ cs Q) (List.range' (k+1) rest.length) a' (c₀::cs) w':=by
  rintro a' w' ⟨v,H',ι',rfl,h1,h2,h3⟩
  exact h (k+1) hk' H0 ι0 h0 w0 hr0 H' ι' _ w' c₀ cs (hs.put h2 h3 h1 hd) (hst.trans hr0 hs.heap h3) hu
 have hw:=ho H ι a w s (fun _ _ _=>False) hs (fun _ _=>rfl) (fun _ _=>rfl);unfold Oper.wp at hw;generalize(execOp a.eval o).run P w=res at hw|-
 cases res with
 |ok n w3=>
  cases n with
  |value v=>exact next _ _ hw
  |skip=>exact next _ _ hw
  |defer d=>exact next _ _ hw
  |enter f args=>
   refine Calls.mono (show Calls P f args w3 _ from hw) (fun e w4 he=>?_)
   cases e with
   |returned v=>exact next _ _ he
   |panicked ch=>exact he.elim
   |outgrown=>
    obtain⟨a3,w5,hp3⟩:=he;exact hp3.elim
  |row r args=>exact Rows.mono (show Rows P r args w3 _ from hw) (fun v w' hh=>next _ _ hh)
  |_=>exact hw.elim
 |halt y w3=>cases y<;>exact hw.elim
theorem Qo{o:Oper}{tys:Array TypeId}(ho:o.op=.call {callee:=.builtin .recover,args:= #[],argTypes:=tys})(a:Act)(w:World):(execOp a.eval o).run P w=.ok .recover w:=by
 simp[execOp,ho,resolve];rfl
theorem Tt(d:Nat){n:Nat}{e:Ar}{h:Aa}{ops:Array Oper}{o:Oper}{rest:List Oper}{tys:Array TypeId}(hr:AOpsS P ops rest ⟨n,Ad e d (.val .nilIface),h⟩ .returning Q)
 (ho:o.op=.call {callee:=.builtin .recover,args:= #[],argTypes:=tys}:=by exact rfl) (hd:o.dst=some d:=by exact rfl) (hb:Nat.blt d n=true:=by exact rfl) (hg:Av ops o e=some true:=by exact rfl):AOpsS P ops (o::rest) ⟨n,e,h⟩ .returning Q:=by
 intro k hk H0 ι0 h0 w0 hr0 H ι a w c₀ cs hs hst hu;have hk0:ops[k]?=some o:=by simpa using(hk 0).symm
 have hk':∀j,rest[j]?=ops[k+1+j]?:=fun j=>by have:=hk (j+1);simpa[Nat.add_assoc,Nat.add_comm 1 j]using this
 rw[List.length_cons,List.range'_succ];simp only[wpOpsS,hk0];rw[Nq hs hg];simp only[if_true,Qo ho,recoverD,hu];have hs':Sim H ι ⟨n,Cy e (some d) (some (.val .nilIface)),h⟩ (a.put (some d) .nilIface) w:=hs.put (d:=some d) (r:=some (.val .nilIface)) hs.heap (Step.refl _ _ _ _) (fun x hx=>by cases hx;exact .val _ _ rfl) (fun t ht=>by cases ht;exact HV hd hb _ hd);rw[hd];exact hr (k+1) hk' H0 ι0 h0 w0 hr0 H ι _ w c₀ cs hs' hst hu
def vr(T:Nat->Option Ae)(fn:Func)(R:FrameMode->Aa->Prop):Exit->Ac->FrameMode->Prop
  | .normal,s,u| .ret,s,u=>(∃xs,CD T s fn.results.toList xs)/\R u s.h
  |_,_,_=>False
theorem KV{T:Nat->Option Ae}{f:FuncId}{fn:Func}{c:Code}{args:List AV}{h:Aa}{R:FrameMode->Aa->Prop}(hT:Bc P T)(hf:P.funcs[f]?=some fn)(hb:fn.body=some c){n:Nat}(hn:args.length+(fn.ntmps-args.length)=n)
 (hg:AGoS P c ⟨n,C9 args,h⟩ u (vr T fn R)):ACallD P f args h u R:=by
 intro H ι w vs ha hr;have hs:Sim H ι ⟨n,C9 args,h⟩ {tmps:=vs++Array.replicate (fn.ntmps-vs.size) undef,defers:=[]} w:=by
  exact WX
 refine callsD_of_wpS hf hb fun c₀ cs hu=>IB (fun e a' cs' w' hp=>?_) (hg H ι _ w c₀ cs hs hu)
 obtain⟨s',u',H',ι',q,rfl,r,t⟩:=hp;have key:((∃xs,CD T s' fn.results.toList xs)/\R u' s'.h)->a'.defers=[]/\∃u2,({c₀ with mode:=u'}::cs)={c₀ with mode:=u2}::cs/\∃v,(results fn a'.tmps).run P w'=.ok v w'/\∃v' h' H' ι',Ending.returned v=.returned v'/\R u2 h'/\HeapRel H' ι' h' w'/\Step H ι h w H' ι' h' w':=fun⟨⟨xs,h1⟩,h2⟩=>by
  obtain⟨v,e1,e2⟩:=Dm hT r h1;exact⟨r.d,u',rfl,v,e2,v,_,H',ι',rfl,h2,r.heap,t⟩
 exact W4
end
section
variable {P : Program} {T : Nat -> Option Ae} {o : Oper} {e : Ar} {h : Aa}
end
section
variable {P : Program} {Q : Exit -> Ac -> Option AV -> Prop} {s s' : Ac} {x : Option AV} {c : Code}
theorem To{H:Aq}{ι:AL}{h h':Aa}{w:World}(hh:HSub h' h):Step H ι h w H ι h' w:=⟨Nat.le_refl _,rfl,rfl,fun _ _ _=>rfl,KLe.refl _,fun _ h=>.inl h,LLe.refl _,fun _ _=>rfl,fun _ _ h _=>.inl h,fun b hb=>by
 cases e:h' b with
 |none=>rfl
 |some o=>rw[hh b o e]at hb;cases hb⟩
end
section
variable {P : Program} {o : Oper} {e : Ar} {h : Aa}
theorem T5{t t':TypeId}{x:Operand}{v:Value}{ms:Array (String×TypeId)}{r:Bool}(hu:P.underlying t=some (.interface ms))(hr:v=.nilIface/\r=true\/(∃t1 u,v=.iface t1 u)/\r=false)(ho:o.op=.binOp .eql t x (.const .nilIface) t':=by exact rfl)(hx:look e x=some (.val v):=by exact rfl):QLoc P o e h [] (.bool r):=by
 intro H ι a w s hs g1 g2;have hx':look s.env x=some (.val v):=by rw[g1 x Bg,hx]
 have hv:a.eval x=v:=by
  have:=Ai hs hx';generalize a.eval x=va at this
  cases this;rfl
 have hn:a.eval (.const .nilIface)=.nilIface:=rfl;refine⟨.bool r,.bool _ _,?_⟩;rcases hr with⟨rfl,rfl⟩|⟨⟨t1,u,rfl⟩,rfl⟩
 . have he:(Op.equalIn 10000 t .nilIface .nilIface).run P w=.ok true w:=by
    rw[Op.equalIn];simp[Aj hu]
   simp only[execOp,ho,hv,hn,eqGuard,binOp,Op.equal,Op.maxDepth,Sem.run_bind,Result.andThen_ok,Sem.run_pure,he,Bool.not_true,Bool.false_eq_true,if_false,Bool.or_true,if_true]
 . have he:(Op.equalIn 10000 t (.iface t1 u) .nilIface).run P w=.ok false w:=by
    rw[Op.equalIn];simp[Aj hu]
   simp only[execOp,ho,hv,hn,eqGuard,binOp,Op.equal,Op.maxDepth,Sem.run_bind,Result.andThen_ok,Sem.run_pure,he,Bool.not_true,Bool.false_eq_true,if_false,if_true]
end
section
variable {P : Program} {T : Nat -> Option Ae} {o : Oper} {e : Ar} {h : Aa}
theorem VF(hT:Bc P T){t t':TypeId}{x y:Operand}{i i' j:Ae}{u u':Nat}{es2:List (List AV)}{q:AV}{R:List Nat}(b:Nat)
 (ho:o.op=.call {callee:=.builtin .append,args:= #[x,y],argTypes:= #[t,t']}) (hx:look e x=some .nil) (hy:look e y=some q) (hi:T t=some i) (hk:i.k=.slice u) (hj:T u=some j) (hi':T t'=some i') (hk':i'.k=.slice u')
 (hb:h b=some .free) (hz:j.zero.length=j.size) (hp:0<j.size) (hsrc:SrcOf h q R es2) (hu2:∀cs∈es2,cs.length=j.size) (hne:0<es2.length)
 (hby:es2.length*j.bytes<=140737488355328) (hml:es2.length<=maxLen):
 OLoc P o e h (b::R) [(b,.row false j.size es2)] (some (.ref b es2.length 0 es2.length)):=by
 refine Du hb Az hp fun H ι a w s hs g1 g2=>?_
 have hx':look s.env x=some .nil:=by rw[g1 x Fv,hx]
 have hy':look s.env y=some q:=by rw[g1 y Fv,hy]
 have hsrc':=hsrc.agree (h':=s.h) (fun c hc=>g2 c (by simp[hc]));obtain⟨info,d,e1,e2,e3,e4,e5,e6⟩:=Af (hT _ _ hi);obtain⟨infou,du,f1,f2,f3,f4,f5,f6⟩:=Af (hT _ _ hj);obtain⟨info',d',e1',e2',e3',e4',e5',e6'⟩:=Af (hT _ _ hi');have hd:=A0 (P:=P) (d:=d) (e3▸hk);subst hd;have hd':=A0 (P:=P) (d:=d') (e3'▸hk');subst hd';obtain⟨z,hz1,hz2⟩:=Cz f6 hz hp;have hzl:z.cells.size=j.size:=by rw[<-hz];simpa using(CC (H:=H) (ι:=AE) hz2).1.symm
 have hvx:=Ai hs hx';have hvy:=Ai hs hy';generalize hva:a.eval x=va at hvx;generalize hvb:a.eval y=vb at hvy;have hexec:∀(v:Value) (w':World),(Builtin.append_ #[t,t'] o.type #[va,vb]).run P w=.ok v w'->(execOp a.eval o).run P w=.ok (.value v) w':=fun v w' hrun=>by
  exact UJ
 obtain⟨news,hsrcw,hnews⟩:=JN hs.heap hsrc' hvy e2' hp hu2 w rfl;rw[<-f4]at hsrcw;have hnl:news.length=es2.length*j.size:=by rw[hsrcw.newsLen,f4]
 have h63:((0+es2.length:Nat):Int)<=9223372036854775807:=by
  have:=hml;simp only[maxLen]at this;omega
 obtain⟨base,hv,hold⟩:∃(base:Option Addr),va=.slice base 0 0/\(Builtin.firstCells infou.size 0 (.slice base 0 0)).run P w.drew=.ok ([]:List Value).toArray w.drew:=by
  have:=hvx.nil_inv;subst this;exact⟨none,rfl,by simp[Builtin.firstCells,loadCells,loadCellsFrom]⟩
 have hfit:Builtin.nextslicecap (0+es2.length) 0*infou.bytes<=281474976710656:=growslice_fits Ab (by rw[f5,Nat.zero_add];exact hby);have hrun:=run_append_grow_src (P:=P) w t t' o.type u infou z e2 f1 hz1 base 0 0 [] hold vb es2.length news hsrcw Ab h63 hfit;have hge:=grownCap_ge w (0+es2.length) 0 u;have hcm:grownCap w (0+es2.length) 0 u<=maxLen:=grownCap_le_maxLen w _ 0 u Ab;generalize hcc:grownCap w (0+es2.length) 0 u=nc at*;generalize hC:(([]:List Value)++news).toArray++Builtin.zeroCells z.cells (nc-(0+es2.length))=C at*;have hCs:C.size=nc*j.size:=by
  rw[<-hC,Array.size_append,size_zeroCells,hzl];simp only[List.size_toArray,List.nil_append,hnl,<-Nat.add_mul];congr 1;omega
 have hCg:∀k,k<news.length->C[k]?=news[k]?:=fun k hk=>by
  exact WZ
 refine⟨_,C,u,w.drew,rfl,rfl,rfl,?_,⟨fun i cs h=>hu2 cs (List.mem_of_getElem? h),fun i cs k y h1 h2=>?_⟩,hexec _ _ (hv▸hrun),?_⟩
 . rw[hCs];exact Nat.mul_le_mul_right _ Ab
 . obtain⟨v,k1,k2,k3⟩:=hnews i cs k y h1 h2;exact⟨v,by rw[hCg _ (List.getElem?_eq_some_iff.1 k1).1];exact k1,k2,k3⟩
 . have:=Rel.refL (H:=H) (Cv ι b ⟨w.heap.size,j.size,es2.length,C.size⟩) b es2.length 0 es2.length nc _ (AO _ _ _) rfl Ab Ab (by simp[hCs]) hcm;simpa using this
end
def DM(T:Nat->Option Ae)(t:Nat):Option Ae:=match T t with
  |some i=>match i.k with
    | .slice u=>T u
    |_=>none
  |none=>none
theorem Bp{T:Nat->Option Ae}{t:Nat}{j:Ae}(h:DM T t=some j):∃i u,T t=some i/\i.k=.slice u/\T u=some j:=by
 unfold DM at h;split at h
 . rename_i i hi;split at h
   . rename_i u hk;exact⟨i,u,hi,hk,h⟩
   . cases h
 . cases h
def Fy(h:Aa)(b:Nat):Bool:=match h b with
  |some .free=>true
  |_=>false
theorem Cs{h:Aa}{b:Nat}(e:Fy h b=true):h b=some .free:=by
 unfold Fy at e;split at e
 . assumption
 . cases e
def zeroOk(i:Ae):Bool:=Nat.beq i.zero.length i.size&&(Nat.blt 0 i.size&&i.zero.all AV.cell1)
theorem CI{i:Ae}(h:zeroOk i=true):i.zero.length=i.size/\0<i.size/\i.zero.all AV.cell1=true:=by
 unfold zeroOk at h;rw[Bool.and_eq_true,Bool.and_eq_true]at h;exact⟨Nat.eq_of_beq_eq_true h.1,by have:=h.2.1;simpa[Nat.blt_eq]using this,h.2.2⟩
def i3(P:Program)(T:Nat->Option Ae)(o:Op)(e:Ar)(h:Aa):Option (List Nat×AV):=
  match o with
  | .indexAddr t x y=>match look e x,look e y with
    |some (.lst ex es),some (.int k n)=>match DM T t,decide (0<=n),es[n.toNat]? with
      |some j,true,some cs=>match Nat.beq cs.length j.size with
        |true=>some ([],.loc cs)
        |false=>none
      |_,_,_=>none
    |some (.ref b m off len),some (.int k n)=>match DM T t,h b,decide (0<=n),decide (n<len)with
      |some j,some (.row p sz es),true,true=>match Nat.beq m es.length,Nat.beq sz j.size with
        |true,true=>some ([b],.ptr b m (off+n.toNat) 0)
        |_,_=>none
      |_,_,_,_=>none
    |some p,some (.int k n)=>match T t with
      |some i=>match i.k with
        | .array len u=>match T u,decide (0<=n),decide (n<len)with
          |some j,true,true=>match Ha p (n.toNat*j.size)with
            |some r=>some ([],r)
            |none=>none
          |_,_,_=>none
        |_=>none
      |none=>none
    |_,_=>none
  | .build t parts=>match A6 e parts.toList,T t with
    |some ps,some i=>match i.k with
      | .struct fs=>match zeroOk i,DF T fs ps,Hs T fs,CB fs ps i.zero with
        |true,true,true,some r=>some ([],.agg r)
        |_,_,_,_=>none
      |_=>none
    |_,_=>none
  | .makeFunc f first captured=>match AQ e first.toList,AQ e captured.toList with
    |some xs,some cs=>some ([],.fn f xs cs)
    |_,_=>none
  | .makeInterface t x=>match look e x,T t with
    |some y,some i=>match y.whole,i.k with
      |some u,.struct _=>some ([],.val (.iface t u))
      |_,_=>none
    |_,_=>none
  | .unOp .neg t x=>match look e x with
    |some (.int k n)=>some ([],.int k (k.wrap (0-n)))
    |_=>none
  | .slice t x none (some y) none=>match look e x,look e y with
    |some (.ref b n 0 len),some (.int k z)=>match DM T t,h b,decide (0<=z),decide (z.toNat<=len)with
      |some j,some (.row p sz es),true,true=>match Nat.beq n es.length with
        |true=>some ([b],.ref b n 0 z.toNat)
        |false=>none
      |_,_,_,_=>none
    |some (.lst ex es),some (.int k z)=>match DM T t,decide (0<=z),decide (z.toNat<=es.length)with
      |some j,true,true=>match es.all (fun cs=>Nat.beq cs.length j.size)with
        |true=>some ([],.lst (ex&&Nat.beq z.toNat es.length) ((es.take z.toNat).drop 0))
        |false=>none
      |_,_,_=>none
    |_,_=>none
  |_=>none
section
variable {P : Program} {T : Nat -> Option Ae} {o : Oper} {e : Ar} {h : Aa} {R : List Nat} {r : AV}
theorem Vw(hT:Bc P T)(hq:i3 P T o.op e h=some (R,r)):QLoc P o e h R r:=by
 unfold i3 at hq;split at hq
 . rename_i t x y ho;split at hq
   . rename_i ex es k n hx hy;split at hq
     . rename_i j cs hj h0 hn;split at hq
       . rename_i hs;simp only[Option.some.injEq,Prod.mk.injEq]at hq;obtain⟨rfl,rfl⟩:=hq;obtain⟨i,u,a1,a2,a3⟩:=Bp hj;exact AJ hT ho hx hy a1 a2 a3 (of_decide_eq_true h0) hn (Nat.eq_of_beq_eq_true hs)
       . cases hq
     . cases hq
   . rename_i b m off len k n hx hy;split at hq
     . rename_i j p sz es hj hb h0 hn;split at hq
       . rename_i h1 h2;simp only[Option.some.injEq,Prod.mk.injEq]at hq;obtain⟨rfl,rfl⟩:=hq;obtain⟨i,u,a1,a2,a3⟩:=Bp hj;exact An hT ho hx hy a1 a2 a3 hb (Nat.eq_of_beq_eq_true h1) (Nat.eq_of_beq_eq_true h2) (of_decide_eq_true h0) (of_decide_eq_true hn)
       . cases hq
     . cases hq
   . rename_i p k n _ _ hx hy;split at hq
     . rename_i i hi;split at hq
       . rename_i len u hk;split at hq
         . rename_i j hj h0 hn;split at hq
           . rename_i r' hr;simp only[Option.some.injEq,Prod.mk.injEq]at hq;obtain⟨rfl,rfl⟩:=hq;exact G3 hT ho hx hy hi hk hj (of_decide_eq_true h0) (of_decide_eq_true hn) hr
           . cases hq
         . cases hq
       . cases hq
     . cases hq
   . cases hq
 . rename_i t parts ho;split at hq
   . rename_i ps i hp hi;split at hq
     . rename_i fs hk;split at hq
       . rename_i r' hz hf ha hr;simp only[Option.some.injEq,Prod.mk.injEq]at hq;obtain⟨rfl,rfl⟩:=hq;obtain⟨z1,z2,z3⟩:=CI hz;exact I3 hT ho hp hi hk z1 z2 hf ha hr
       . cases hq
     . cases hq
   . cases hq
 . rename_i f first captured ho
   split at hq
   . rename_i xs cs hx hc;simp only[Option.some.injEq,Prod.mk.injEq]at hq;obtain⟨rfl,rfl⟩:=hq;exact Ig ho hx hc
   . cases hq
 . rename_i t x ho;split at hq
   . rename_i y i hx hi;split at hq
     . rename_i u fs hy hk;simp only[Option.some.injEq,Prod.mk.injEq]at hq;obtain⟨rfl,rfl⟩:=hq;exact I0 hT ho hx hy hi (by rw[hk];intro h;cases h)
     . cases hq
   . cases hq
 . rename_i t x ho;split at hq
   . rename_i k n hx;simp only[Option.some.injEq,Prod.mk.injEq]at hq;obtain⟨rfl,rfl⟩:=hq;exact t7 ho hx
   . cases hq
 . rename_i t x y ho;split at hq
   . rename_i b n len k z hx hy;split at hq
     . rename_i j p sz es hj hb h0 hz;split at hq
       . rename_i h1;simp only[Option.some.injEq,Prod.mk.injEq]at hq;obtain⟨rfl,rfl⟩:=hq;obtain⟨i,u,a1,a2,a3⟩:=Bp hj;exact Kr hT ho hx hy a1 a2 a3 hb (Nat.eq_of_beq_eq_true h1) (by have:=of_decide_eq_true h0;omega) (of_decide_eq_true hz)
       . cases hq
     . cases hq
   . rename_i ex es k z hx hy;split at hq
     . rename_i j hj h0 hz;split at hq
       . rename_i h1;simp only[Option.some.injEq,Prod.mk.injEq]at hq;obtain⟨rfl,rfl⟩:=hq;obtain⟨i,u,a1,a2,a3⟩:=Bp hj;exact Fi hT 0 z.toNat ho hx a1 a2 a3 rfl ⟨k,by rw[hy,Int.toNat_of_nonneg (of_decide_eq_true h0)]⟩ (Nat.zero_le _) (of_decide_eq_true hz) (fun cs hc=>Nat.eq_of_beq_eq_true (List.all_eq_true.1 h1 cs hc))
       . cases hq
     . cases hq
   . cases hq
 . cases hq
end
def XH(h:Aa):AV->Option (List Nat×List (List AV))
  | .lst ex es=>some ([],es)
  | .nil=>some ([],[])
  | .ref b n off len=>match h b with
    |some (.row p sz es)=>match Nat.beq n es.length with
      |true=>some ([b],(es.drop off).take len)
      |false=>none
    |_=>none
  |_=>none
theorem Sh{h:Aa}{q:AV}{R:List Nat}{es:List (List AV)}(e:XH h q=some (R,es)):SrcOf h q R es:=by
 unfold XH at e;split at e
 . simp only[Option.some.injEq,Prod.mk.injEq]at e;obtain⟨rfl,rfl⟩:=e;exact .lst _ _
 . simp only[Option.some.injEq,Prod.mk.injEq]at e;obtain⟨rfl,rfl⟩:=e;exact .nil
 . split at e
   . rename_i hb;split at e
     . rename_i h1;simp only[Option.some.injEq,Prod.mk.injEq]at e;obtain⟨rfl,rfl⟩:=e;exact .ref _ _ _ _ _ _ _ hb (Nat.eq_of_beq_eq_true h1)
     . cases e
   . cases e
 . cases e
def aC(n:Nat)(es:List (List AV)):Bool:=es.all fun cs=>Nat.beq cs.length n
theorem Hr{n:Nat}{es:List (List AV)}(h:aC n es=true):∀cs∈es,cs.length=n:=fun cs hc=>Nat.eq_of_beq_eq_true (List.all_eq_true.1 h cs hc)
def Py(p:Bool)(es:List (List AV)):Bool:= !p||es.all fun cs=>cs.all AV.isPure1
theorem JB{p:Bool}{es:List (List AV)}(h:Py p es=true):p=true->∀cs∈es,cs.all AV.isPure1=true:=fun hp cs hc=>by
 unfold Py at h;rw[hp,Bool.not_true,Bool.false_or]at h;exact List.all_eq_true.1 h cs hc
abbrev WH:=List Nat×List (Nat×AObj)×Option AV×Nat
def aB(T:Nat->Option Ae)(h:Aa)(k:Nat)(t t':TypeId)(p q:AV):Option WH:=
  match DM T t,DM T t',XH h q with
  |some j,some _,some (R,es2)=>match zeroOk j,aC j.size es2 with
    |true,true=>match p with
      | .nil=>match Fy h k,Nat.blt 0 es2.length,Nat.ble (es2.length*j.bytes) 140737488355328,Nat.ble es2.length maxLen with
        |true,true,true,true=>some (k::R,[(k,.row false j.size es2)],some (.ref k es2.length 0 es2.length),k+1)
        |_,_,_,_=>none
      | .ref b n 0 len=>match h b with
        |some (.row pu sz es)=>match Nat.beq n es.length,Nat.beq sz j.size,Py pu es2 with
          |true,true,true=>match Nat.beq len n with
            |true=>match Nat.ble ((es.length+es2.length)*j.bytes) 140737488355328,Nat.ble (es.length+es2.length) maxLen with
              |true,true=>some (b::R,[(b,.row pu sz (es++es2))],some (.ref b (n+es2.length) 0 (n+es2.length)),k)
              |_,_=>none
            |false=>match es2,Nat.ble len n,Nat.ble ((es.length+1)*j.bytes) 140737488355328,Nat.ble (es.length+1) maxLen with
              | [cs2],true,true,true=>some (b::R,[(b,.row pu sz (G5 es len cs2))],some (.ref b (G5 es len cs2).length 0 (len+1)),k)
              |_,_,_,_=>none
          |_,_,_=>none
        |_=>none
      |_=>none
    |_,_=>none
  |_,_,_=>none
section
variable {P : Program} {T : Nat -> Option Ae} {o : Oper} {e : Ar} {h : Aa}
theorem Th(hT:Bc P T){t t':TypeId}{x y:Operand}{p q:AV}{k k':Nat}{R:List Nat}{W:List (Nat×AObj)}{r:Option AV}(ho:o.op=.call {callee:=.builtin .append,args:= #[x,y],argTypes:= #[t,t']})(hx:look e x=some p)(hy:look e y=some q)
 (hv:aB T h k t t' p q=some (R,W,r,k')):OLoc P o e h R W r:=by
 unfold aB at hv;split at hv
 . rename_i j j' R0 es2 hj hj' hs;obtain⟨i,u,a1,a2,a3⟩:=Bp hj;obtain⟨i',u',b1,b2,b3⟩:=Bp hj';have hsrc:=Sh hs;split at hv
   . rename_i hz hl;obtain⟨z1,z2,z3⟩:=CI hz;split at hv
     . split at hv
       . rename_i c1 c2 c3 c4;simp only[Option.some.injEq,Prod.mk.injEq]at hv;obtain⟨rfl,rfl,rfl,rfl⟩:=hv;exact VF hT k ho hx hy a1 a2 a3 b1 b2 (Cs c1) z1 z2 hsrc (Hr hl) (by simpa[Nat.blt_eq]using c2) (Nat.le_of_ble_eq_true c3) (Nat.le_of_ble_eq_true c4)
       . cases hv
     . rename_i b n len;split at hv
       . rename_i pu sz es hb;split at hv
         . rename_i c1 c2 c3;split at hv
           . rename_i c4;have c4:=Nat.eq_of_beq_eq_true c4;subst c4;split at hv
             . rename_i c5 c6;simp only[Option.some.injEq,Prod.mk.injEq]at hv;obtain⟨rfl,rfl,rfl,rfl⟩:=hv;have c2':=Nat.eq_of_beq_eq_true c2;exact G8 hT ho hx hy a1 a2 a3 b1 b2 hb (Nat.eq_of_beq_eq_true c1) c2' z1 z2 hsrc (by rw[c2'];exact Hr hl) (JB c3) rfl (Nat.le_of_ble_eq_true c5) (Nat.le_of_ble_eq_true c6)
             . cases hv
           . split at hv
             . rename_i cs2 c5 c6 c7;simp only[Option.some.injEq,Prod.mk.injEq]at hv;obtain⟨rfl,rfl,rfl,rfl⟩:=hv;have c2':=Nat.eq_of_beq_eq_true c2;exact Yx hT ho hx hy a1 a2 a3 b1 b2 hb (Nat.eq_of_beq_eq_true c1) (Nat.le_of_ble_eq_true c5) c2' z1 z2 hsrc (by rw[c2'];exact Hr hl _ Az) (fun hp=>JB c3 hp _ Az) (Nat.le_of_ble_eq_true c6) (Nat.le_of_ble_eq_true c7)
             . cases hv
         . cases hv
       . cases hv
     . cases hv
   . cases hv
 . cases hv
end
def vJ(T:Nat->Option Ae)(dst:Option Nat)(o:Op)(e:Ar)(h:Aa)(k:Nat):Option WH:=
  match o with
  | .alloc t=>match T t,Fy h k with
    |some i,true=>match zeroOk i with
      |true=>some ([k],[(k,.row false i.size [i.zero])],some (.ptr k 1 0 0),k+1)
      |false=>none
    |_,_=>none
  | .box t x=>match look e x,Fy h k with
    |some p,true=>match Nat.blt 0 p.cells.length,p.cells.all AV.cell1 with
      |true,true=>some ([k],[(k,.row false p.cells.length [p.cells])],some (.ptr k 1 0 0),k+1)
      |_,_=>none
    |_,_=>none
  | .store t x y=>match dst,look e x,look e y,T t with
    |none,some (.ptr b m k0 off),some q,some i=>match h b with
      |some (.row p sz es)=>match es[k0]?,Nat.beq m es.length,Nat.beq q.cells.length i.size,Nat.ble (off+i.size) sz,q.cells.all AV.cell1,(!p||q.cells.all AV.isPure1)with
        |some cs,true,true,true,true,true=>some ([b],[(b,.row p sz (es.set k0 (Cm cs off q.cells)))],none,k)
        |_,_,_,_,_,_=>none
      |_=>none
    |_,_,_,_=>none
  | .buildSlice t len parts=>match A6 e parts.toList,DM T t,Fy h k with
    |some ps,some j,true=>match zeroOk j,decide (parts.toList.map (·.1)=List.range parts.toList.length),Nat.beq parts.toList.length len,En j.size ps,(AK ps).all (·.all AV.cell1),Nat.ble (len*j.size) 16777216 with
      |true,true,true,true,true,true=>some ([k],[(k,.row false j.size (AK ps))],some (.ref k len 0 len),k+1)
      |_,_,_,_,_,_=>none
    |_,_,_=>none
  | .makeSlice t x y=>match look e x,look e y,DM T t,Fy h k with
    |some (.int _ zi),some (.int _ zj),some j,true=>match zeroOk j,decide (0<=zi),decide (0<=zj),Nat.ble zi.toNat zj.toNat,Nat.ble (j.bytes*zj.toNat) 281474976710656,Nat.ble zj.toNat maxLen with
      |true,true,true,true,true,true=>some ([k],[(k,.row false j.size (List.replicate zi.toNat j.zero))],some (.ref k zi.toNat 0 zi.toNat),k+1)
      |_,_,_,_,_,_=>none
    |_,_,_,_=>none
  | .call ⟨.builtin .append,args,tys⟩=>match args.toList,tys.toList with
    | [x,y],[t,t']=>match look e x,look e y with
      |some p,some q=>aB T h k t t' p q
      |_,_=>none
    |_,_=>none
  |_=>none
section
variable {P : Program} {T : Nat -> Option Ae} {o : Oper} {e : Ar} {h : Aa}
theorem El{α:Type}{a:Array α}{x y:α}(h:a.toList=[x,y]):a= #[x,y]:=Array.ext' h
theorem Xe(hT:Bc P T){k k':Nat}{R:List Nat}{W:List (Nat×AObj)}{r:Option AV}(hv:vJ T o.dst o.op e h k=some (R,W,r,k')):OLoc P o e h R W r:=by
 unfold vJ at hv;split at hv
 . rename_i t ho;split at hv
   . rename_i i hi hf;split at hv
     . rename_i hz;simp only[Option.some.injEq,Prod.mk.injEq]at hv;obtain⟨rfl,rfl,rfl,rfl⟩:=hv;obtain⟨z1,z2,z3⟩:=CI hz;exact Fj hT k ho hi (Cs hf) z1 z2 z3
     . cases hv
   . cases hv
 . rename_i t x ho;split at hv
   . rename_i p hx hf;split at hv
     . rename_i c1 c2;simp only[Option.some.injEq,Prod.mk.injEq]at hv;obtain⟨rfl,rfl,rfl,rfl⟩:=hv;exact YA k ho hx (Cs hf) rfl (by simpa[Nat.blt_eq]using c1) c2
     . cases hv
   . cases hv
 . rename_i t x y ho;split at hv
   . rename_i b m k0 off q i hd hx hy hi;split at hv
     . rename_i p sz es hb;split at hv
       . rename_i cs c1 c2 c3 c4 c5 c6;simp only[Option.some.injEq,Prod.mk.injEq]at hv;obtain⟨rfl,rfl,rfl,rfl⟩:=hv;exact Be hT ho hd hx hy hi hb (Nat.eq_of_beq_eq_true c2) c1 (Nat.eq_of_beq_eq_true c3) (Nat.le_of_ble_eq_true c4) c5 (fun hp=>by rw[hp]at c6;simpa using c6)
       . cases hv
     . cases hv
   . cases hv
 . rename_i t len parts ho;split at hv
   . rename_i ps j hp hj hf;obtain⟨i,u,a1,a2,a3⟩:=Bp hj;split at hv
     . rename_i c1 c2 c3 c4 c5 c6;simp only[Option.some.injEq,Prod.mk.injEq]at hv;obtain⟨rfl,rfl,rfl,rfl⟩:=hv;obtain⟨z1,z2,z3⟩:=CI c1;exact QG hT k false ho hp a1 a2 a3 z1 z2 (of_decide_eq_true c2) (Nat.eq_of_beq_eq_true c3) c4 c5 Fu c6 (Cs hf)
     . cases hv
   . cases hv
 . rename_i t x y ho;split at hv
   . rename_i k1 zi k2 zj j hx hy hj hf;obtain⟨i,u,a1,a2,a3⟩:=Bp hj;split at hv
     . rename_i c1 c2 c3 c4 c5 c6;simp only[Option.some.injEq,Prod.mk.injEq]at hv;obtain⟨rfl,rfl,rfl,rfl⟩:=hv;obtain⟨z1,z2,z3⟩:=CI c1;exact B7 hT k false ho hx hy (Int.toNat_of_nonneg (of_decide_eq_true c2)).symm (Int.toNat_of_nonneg (of_decide_eq_true c3)).symm a1 a2 a3 (Cs hf) z1 z2 z3 (Nat.le_of_ble_eq_true c4) (Nat.le_of_ble_eq_true c5) (Nat.le_of_ble_eq_true c6)
     . cases hv
   . cases hv
 . rename_i args tys ho;split at hv
   . rename_i x y t t' ha ht;split at hv
     . rename_i p q hx hy;exact Th hT (ho.trans (by rw[El ha,El ht])) hx hy hv
     . cases hv
   . cases hv
 . cases hv
end
section
variable {P : Program} {T : Nat -> Option Ae} {o : Oper} {e : Ar} {h : Aa}
theorem Yw(hT:Bc P T){t:TypeId}{x:Operand}{i:Ae}{u u':Nat}(b:Nat)(ho:o.op=.range t x)(hx:look e x=some (.val (.map none)))(hi:T t=some i)(hk:i.k=.map u u')(hb:h b=some .free):OLoc P o e h [b] [(b,.iter0)] (some (.ptr b 0 0 0)):=by
 intro H ι a w s Q hs h1 h2;have hb':s.h b=some .free:=by rw[h2 b Az,hb]
 have hx':look s.env x=some (.val (.map none)):=by rw[h1 x Bg,hx]
 have hv:=((Ai hs hx').val_inv).1;obtain⟨info,d,e1,e2,e3,e4,e5,e6⟩:=Af (hT _ _ hi);have hd:=GQ (P:=P) (d:=d) (e3▸hk);subst hd;obtain⟨u1,u2⟩:=hs.heap.upd (o':=.iter0) (r':=⟨w.heap.size,0,0,1⟩) (w':=w.alloc (.mapIter none 0 #[] 0)) hb' rfl (.inl rfl) (fun _=>.inl (Nat.le_refl _)) (fun rb hlt _=>heap_alloc_old w _ hlt) Az rfl rfl
  ⟨rfl,rfl,by simp[Ent.solid],heap_alloc_new w _⟩
 have hrun:(execOp a.eval o).run P w=.ok (.value (.pointer (some ⟨w.heap.size,0,none⟩))) (w.alloc (.mapIter none 0 #[] 0)):=by
  simp[execOp,ho,Instr.range,hv,Aj e2]
 unfold Oper.wp;rw[hrun];refine⟨_,H,_,rfl,fun x ex=>?_,u1,u2⟩
 cases ex
 have:=Rel.ptrL (H:=H) (Cv ι b ⟨w.heap.size,0,0,1⟩) b 0 0 0 _ (AO _ _ _) rfl;simpa using this
theorem bL{x:Operand}{b:Nat}(ho:o.op=.next x false)(hx:look e x=some (.ptr b 0 0 0))(hb:h b=some .iter0):QLoc P o e h [b] (.tup [.bool false]):=by
 intro H ι a w s hs h1 h2;have hb':s.h b=some .iter0:=by rw[h2 b Az,hb]
 have hx':look s.env x=some (.ptr b 0 0 0):=by rw[h1 x Bg,hx]
 obtain⟨r,r1,⟨r2,r2n,r3,r4⟩,r5⟩:=hs.heap.obj b _ hb' rfl;have hv:a.eval x=.pointer (some ⟨r.rb,0,none⟩):=by
  have hv:=Ai hs hx';generalize a.eval x=v at hv
  cases hv with
  |ptrL _ _ _ _ _ r' e1 e2=>rw[r1]at e1;cases e1;simp
  |ptrS _ _ _ _ _ r' ad e1 e2=>
   rw[r1]at e1;cases e1;omega
 refine⟨.tuple #[.bool false],.tup _ _ _ rfl (fun j x v h1 h2=>?_),?_⟩
 . cases j with
   |zero=>simp at h1 h2;subst h1;subst h2;exact .bool _ _
   |succ j=>simp at h1
 . have hg:(getObj r.rb).run P w=.ok (.mapIter none 0 #[] 0) w:=by simp[getObj,Sem.run,r4]
   simp[execOp,ho,hv,Instr.next,hg]
end
def PW(K:IntKind):List (AV×AV)->Option Fb
  | []=>some []
  |(.int K' z,v)::r=>match decide (K'=K),PW K r with
    |true,some m=>some ((z,v)::m)
    |_,_=>none
  |_::_=>none
theorem Hy{K:IntKind}:∀{l:List (AV×AV)} {m:Fb},PW K l=some m->l=kvs K m
 | [],m,h=>by simp[PW]at h;subst h;rfl
 |(k,v)::r,m,h=>by
  cases k with
  |int K' z=>
   unfold PW at h;split at h
   . rename_i m' h1 h2;simp only[Option.some.injEq]at h;subst h;have:=of_decide_eq_true h1;subst this;rw[Hy h2];rfl
   . cases h
  |_=>simp[PW]at h
def QV:TK->Option IntKind
  | .int K=>some K
  |_=>none
theorem Ip{k:TK}{K:IntKind}(h:QV k=some K):k=.int K:=by
 cases k<;>simp[QV]at h
 subst h;rfl
def NZ(T:Nat->Option Ae)(t:Nat):Option (IntKind×Nat):=match T t with
  |some i=>match i.k with
    | .map kt et=>match T kt with
      |some j=>match QV j.k with
        |some K=>some (K,et)
        |none=>none
      |none=>none
    |_=>none
  |none=>none
theorem Ij{T:Nat->Option Ae}{t:Nat}{K:IntKind}{et:Nat}(h:NZ T t=some (K,et)):∃i j kt,T t=some i/\i.k=.map kt et/\T kt=some j/\j.k=.int K:=by
 unfold NZ at h;split at h
 . rename_i i hi;split at h
   . rename_i kt et' hk;split at h
     . rename_i j hj;split at h
       . rename_i K' hK;simp only[Option.some.injEq,Prod.mk.injEq]at h;obtain⟨rfl,rfl⟩:=h;exact⟨i,j,kt,hi,hk,hj,Ip hK⟩
       . cases h
     . cases h
   . cases h
 . cases h
def Pi(T:Nat->Option Ae)(t:Nat):Bool:=match T t with
  |some i=>match i.k with
    | .map _ _=>true
    |_=>false
  |none=>false
theorem Ph{T:Nat->Option Ae}{t:Nat}(h:Pi T t=true):∃i k u,T t=some i/\i.k=.map k u:=by
 unfold Pi at h;split at h
 . rename_i i hi;split at h
   . rename_i k u hk;exact⟨i,k,u,hi,hk⟩
   . cases h
 . cases h
def Oz(P:Program)(et:Nat):Option AV:=match(P.info? et).bind (·.zero)with
  |some zv=>Ho zv
  |none=>none
theorem Kl{P:Program}{et:Nat}{z0:AV}(h:Oz P et=some z0):∃zv,(P.info? et).bind (·.zero)=some zv/\Ho zv=some z0:=by
 unfold Oz at h;split at h
 . rename_i zv hz;exact⟨zv,hz,h⟩
 . cases h
def iZ(P:Program)(T:Nat->Option Ae)(o:Op)(e:Ar)(h:Aa):Option (List Nat×AV):=
  match o with
  | .next x false=>match look e x with
    |some (.ptr b 0 0 0)=>match h b with
      |some .iter0=>some ([b],.tup [.bool false])
      |_=>none
    |_=>none
  | .lookup t x y true=>match look e x,look e y,NZ T t with
    |some (.map b),some (.int K z),some (K',et)=>match h b,Oz P et,decide (K'=K)with
      |some (.map l),some z0,true=>match PW K l with
        |some m=>some ([b],.tup [(VU z m).getD z0,.bool (VU z m).isSome])
        |none=>none
      |_,_,_=>none
    |_,_,_=>none
  | .binOp .eql t x y _=>match look e x,look e y,T t with
    |some (.bool a),some (.bool b),some i=>match i.k with
      | .bool=>some ([],.bool (a==b))
      |_=>none
    |some (.agg xs),some (.agg ys),some i=>match i.k,K7 P t,eqCells xs ys with
      | .struct fs,true,some r=>match Cq T fs xs,Cq T fs ys with
        |true,true=>some ([],.bool r)
        |_,_=>none
      |_,_,_=>none
    |_,_,_=>none
  | .binOp .neq t x y _=>match look e x,look e y,T t with
    |some (.bool a),some (.bool b),some i=>match i.k with
      | .bool=>some ([],.bool (a !=b))
      |_=>none
    |some (.agg xs),some (.agg ys),some i=>match i.k,K7 P t,eqCells xs ys with
      | .struct fs,true,some r=>match Cq T fs xs,Cq T fs ys with
        |true,true=>some ([],.bool (!r))
        |_,_=>none
      |_,_,_=>none
    |_,_,_=>none
  |_=>none
section
variable {P : Program} {T : Nat -> Option Ae} {o : Oper} {e : Ar} {h : Aa} {R : List Nat} {r : AV}
theorem Vv(hT:Bc P T)(hq:iZ P T o.op e h=some (R,r)):QLoc P o e h R r:=by
 unfold iZ at hq;split at hq
 . rename_i x ho;split at hq
   . rename_i b hx;split at hq
     . rename_i hb;simp only[Option.some.injEq,Prod.mk.injEq]at hq;obtain⟨rfl,rfl⟩:=hq;exact bL ho hx hb
     . cases hq
   . cases hq
 . rename_i t x y ho;split at hq
   . rename_i b K z K' et hx hy ht;split at hq
     . rename_i l z0 hb hz hK;split at hq
       . rename_i m hm;simp only[Option.some.injEq,Prod.mk.injEq]at hq;obtain⟨rfl,rfl⟩:=hq;have hK:=of_decide_eq_true hK;subst hK;obtain⟨i,j,kt,a1,a2,a3,a4⟩:=Ij ht;obtain⟨zv,z1,z2⟩:=Kl hz;exact Sr hT ho hx hy (by rw[hb,Hy hm]) a1 a2 a3 a4 z1 z2
       . cases hq
     . cases hq
   . cases hq
 . rename_i t x y t' ho;split at hq
   . rename_i a b i hx hy hi;split at hq
     . rename_i hk;simp only[Option.some.injEq,Prod.mk.injEq]at hq;obtain⟨rfl,rfl⟩:=hq;exact Qq hT false ho hx hy hi hk
     . cases hq
   . rename_i xs ys i hx hy hi;split at hq
     . rename_i fs r' hk hp hr;split at hq
       . rename_i h1 h2;simp only[Option.some.injEq,Prod.mk.injEq]at hq;obtain⟨rfl,rfl⟩:=hq;exact DX hT false ho hx hy hp hi hk h1 h2 hr
       . cases hq
     . cases hq
   . cases hq
 . rename_i t x y t' ho;split at hq
   . rename_i a b i hx hy hi;split at hq
     . rename_i hk;simp only[Option.some.injEq,Prod.mk.injEq]at hq;obtain⟨rfl,rfl⟩:=hq;exact Qq hT true ho hx hy hi hk
     . cases hq
   . rename_i xs ys i hx hy hi;split at hq
     . rename_i fs r' hk hp hr;split at hq
       . rename_i h1 h2;simp only[Option.some.injEq,Prod.mk.injEq]at hq;obtain⟨rfl,rfl⟩:=hq;exact DX hT true ho hx hy hp hi hk h1 h2 hr
       . cases hq
     . cases hq
   . cases hq
 . cases hq
end
def hZ(T:Nat->Option Ae)(dst:Option Nat)(o:Op)(e:Ar)(h:Aa)(k:Nat):Option WH:=
  match o with
  | .range t x=>match look e x,Fy h k,Pi T t with
    |some (.val (.map none)),true,true=>some ([k],[(k,.iter0)],some (.ptr k 0 0 0),k+1)
    |_,_,_=>none
  | .makeMap t none=>match NZ T t,Fy h k with
    |some (K,_),true=>some ([k],[(k,.map (kvs K []))],some (.map k),k+1)
    |_,_=>none
  | .mapUpdate t x y u=>match dst,look e x,look e y,look e u,NZ T t with
    |none,some (.map b),some (.int K z),some q,some (K',_)=>match h b,q.isPure,decide (K'=K)with
      |some (.map l),true,true=>match PW K l with
        |some m=>some ([b],[(b,.map (kvs K (M8 z q m)))],none,k)
        |none=>none
      |_,_,_=>none
    |_,_,_,_,_=>none
  | .call ⟨.builtin .delete,args,tys⟩=>match dst,args.toList,tys.toList with
    |none,[x,y],[t,_]=>match look e x,look e y,NZ T t with
      |some (.map b),some (.int K z),some (K',_)=>match h b,decide (K'=K)with
        |some (.map l),true=>match PW K l with
          |some m=>some ([b],[(b,.map (kvs K (M9 z m)))],none,k)
          |none=>none
        |_,_=>none
      |_,_,_=>none
    |_,_,_=>none
  |_=>none
section
variable {P : Program} {T : Nat -> Option Ae} {o : Oper} {e : Ar} {h : Aa}
theorem UU(hT:Bc P T){k k':Nat}{R:List Nat}{W:List (Nat×AObj)}{r:Option AV}(hv:hZ T o.dst o.op e h k=some (R,W,r,k')):OLoc P o e h R W r:=by
 unfold hZ at hv;split at hv
 . rename_i t x ho;split at hv
   . rename_i hx hf hm;simp only[Option.some.injEq,Prod.mk.injEq]at hv;obtain⟨rfl,rfl,rfl,rfl⟩:=hv;obtain⟨i,kk,u,a1,a2⟩:=Ph hm;exact Yw hT k ho hx a1 a2 (Cs hf)
   . cases hv
 . rename_i t ho;split at hv
   . rename_i K et hm hf;simp only[Option.some.injEq,Prod.mk.injEq]at hv;obtain⟨rfl,rfl,rfl,rfl⟩:=hv;exact JX K k ho (Cs hf)
   . cases hv
 . rename_i t x y u ho;split at hv
   . rename_i b K z q K' et hd hx hy hu hm;split at hv
     . rename_i l hb hp hK;split at hv
       . rename_i m hl;simp only[Option.some.injEq,Prod.mk.injEq]at hv;obtain⟨rfl,rfl,rfl,rfl⟩:=hv;have hK:=of_decide_eq_true hK;subst hK;obtain⟨i,j,kt,a1,a2,a3,a4⟩:=Ij hm;exact QF hT ho hd hx hy hu hp (by rw[hb,Hy hl]) a1 a2 a3 a4
       . cases hv
     . cases hv
   . cases hv
 . rename_i args tys ho;split at hv
   . rename_i x y t tk hd ha ht;split at hv
     . rename_i b K z K' et hx hy hm;split at hv
       . rename_i l hb hK;split at hv
         . rename_i m hl;simp only[Option.some.injEq,Prod.mk.injEq]at hv;obtain⟨rfl,rfl,rfl,rfl⟩:=hv;have hK:=of_decide_eq_true hK;subst hK;obtain⟨i,j,kt,a1,a2,a3,a4⟩:=Ij hm;exact Yy hT (ho.trans (by rw[El ha,El ht])) hd hx hy (by rw[hb,Hy hl]) a1 a2 a3 a4
         . cases hv
       . cases hv
     . cases hv
   . cases hv
 . cases hv
end
def GE(K:IntKind):List AV->Option (List Int)
  | []=>some []
  | .int K' z::r=>match decide (K'=K),GE K r with
    |true,some l=>some (z::l)
    |_,_=>none
  |_::_=>none
theorem CN{K:IntKind}:∀{l:List AV} {z:List Int},GE K l=some z->l=Ao K z
 | [],z,h=>by simp[GE]at h;subst h;rfl
 |x::r,z,h=>by
  cases x with
  |int K' n=>
   unfold GE at h;split at h
   . rename_i l h1 h2;simp only[Option.some.injEq]at h;subst h;have:=of_decide_eq_true h1;subst this;rw[CN h2];rfl
   . cases h
  |_=>simp[GE]at h
def Lo(K:IntKind)(n:Nat):List (AV×AV)->Option GD
  | []=>some []
  |(.agg ks,v)::r=>match GE K ks,Lo K n r with
    |some z,some m=>match Nat.beq z.length n with
      |true=>some ((z,v)::m)
      |false=>none
    |_,_=>none
  |_::_=>none
theorem H7{K:IntKind}{n:Nat}:∀{l:List (AV×AV)} {m:GD},Lo K n l=some m->l=BI K m/\∀p∈m,p.1.length=n
 | [],m,h=>by simp[Lo]at h;subst h;exact⟨rfl,fun p hp=>by cases hp⟩
 |(k,v)::r,m,h=>by
  cases k with
  |agg ks=>
   unfold Lo at h;split at h
   . rename_i z m' h1 h2;split at h
     . rename_i h3;simp only[Option.some.injEq]at h;subst h;obtain⟨a1,a2⟩:=H7 h2;refine⟨by rw[a1,CN h1];rfl,fun p hp=>?_⟩;rcases List.mem_cons.1 hp with rfl|hp
       . exact Nat.eq_of_beq_eq_true h3
       . exact a2 p hp
     . cases h
   . cases h
  |_=>simp[Lo]at h
def Ou(P:Program)(T:Nat->Option Ae)(t:Nat):Option (Nat×IntKind):=match T t with
  |some i=>match i.k with
    | .array n e0=>match T e0,Nat.beq (P.cellsOf e0) 1 with
      |some j,true=>match QV j.k with
        |some K=>some (n,K)
        |none=>none
      |_,_=>none
    |_=>none
  |none=>none
theorem Gz{P:Program}{T:Nat->Option Ae}{t n:Nat}{K:IntKind}(h:Ou P T t=some (n,K)):∃i e0 j,T t=some i/\i.k=.array n e0/\T e0=some j/\j.k=.int K/\P.cellsOf e0=1:=by
 unfold Ou at h;split at h
 . rename_i i hi;split at h
   . rename_i n' e0 hk;split at h
     . rename_i j hj hc;split at h
       . rename_i K' hK;simp only[Option.some.injEq,Prod.mk.injEq]at h;obtain⟨rfl,rfl⟩:=h;exact⟨i,e0,j,hi,hk,hj,Ip hK,Nat.eq_of_beq_eq_true hc⟩
       . cases h
     . cases h
   . cases h
 . cases h
def O7(P:Program)(T:Nat->Option Ae)(t:Nat):Option (Nat×IntKind×Nat):=match T t with
  |some i=>match i.k with
    | .map kt et=>match Ou P T kt with
      |some (n,K)=>some (n,K,et)
      |none=>none
    |_=>none
  |none=>none
theorem Ky{P:Program}{T:Nat->Option Ae}{t n et:Nat}{K:IntKind}(h:O7 P T t=some (n,K,et)):∃i kt,T t=some i/\i.k=.map kt et/\Ou P T kt=some (n,K):=by
 unfold O7 at h;split at h
 . rename_i i hi;split at h
   . rename_i kt et' hk;split at h
     . rename_i n' K' ha;simp only[Option.some.injEq,Prod.mk.injEq]at h;obtain⟨rfl,rfl,rfl⟩:=h;exact⟨i,kt,hi,hk,ha⟩
     . cases h
   . cases h
 . cases h
section
variable {P : Program} {T : Nat -> Option Ae} {o : Oper} {e : Ar} {h : Aa}
theorem Sq(hT:Bc P T){t:TypeId}{x y:Operand}{b n off len:Nat}{i j:Ae}{u:Nat}{k:IntKind}(ho:o.op=.slice t x (some y) none none)(hx:look e x=some (.ref b n off len))(hy:look e y=some (.int k (len:Int)))(ht:T t=some i)(hk:i.k=.slice u)(hj:T u=some j)
 {p:Bool} {sz:Nat} {es:List (List AV)} (hb:h b=some (.row p sz es)) (hn:n=es.length) (h0:0<es.length):QLoc P o e h [b] (.lst false []):=by
 intro H ι a w s hs g1 g2;have hx':look s.env x=some (.ref b n off len):=by rw[g1 x Bg,hx]
 have hy':look s.env y=some (.int k (len:Int)):=by rw[g1 y Bg,hy]
 have hb':s.h b=some (.row p sz es):=by rw[g2 b Az,hb]
 obtain⟨info,d,e1,e2,e3,e4,e5,e6⟩:=Af (hT _ _ ht);obtain⟨info',d',e1',e2',e3',e4',e5',e6'⟩:=Af (hT _ _ hj);have hd:=A0 (P:=P) (d:=d) (e3▸hk);subst hd;have hvx:=Ai hs hx';have hvy:=(Ai hs hy').int_inv;generalize hva:a.eval x=va at hvx;obtain⟨r,r1,⟨o1,o2,o3,o4,o5,o6⟩,_⟩:=hs.heap.obj b _ hb' rfl;have hcs:r.csz≠0:=by
  have:0<es.length*sz:=Nat.mul_pos h0 o2;omega
 obtain⟨hle,cap,rfl,c1,c2,c3⟩:=Rel.ref_live hvx r1 (by rw[hn,o3]) hcs;refine⟨.slice (if cap-len=0 then(some ⟨r.rb,off*r.sz,none⟩)else(some ⟨r.rb,off*r.sz,none⟩:Option Addr).map (·.add (len*j.size))) (len-len) (cap-len),?_,?_⟩
 . rw[Nat.sub_self];exact .lst0 _ _ _ _ Fu Ab (fun hh=>by split at hh<;>cases hh) trivial
 . simp only[execOp,ho,hva,hvy,Instr.sliceAt,Instr.slice,Option.map_none,Option.map_some,Sem.run_bind,Aj e2,Result.andThen_ok,EE e1',e4',Sem.run_pure];have hce:(cap=len)=(cap-len=0):=propext Ab;simp[Instr.sliceBounds,Instr.sliceBound,asIntOf,c1,hce]
theorem St(hT:Bc P T){t u:TypeId}{x:Operand}{l:List UInt8}{i j k:Ae}{v:Nat}{b n:Nat}{p:Bool}(ho:o.op=.convert t u x)(hx:look e x=some (.ref b n 0 n))(hb:h b=some (.row p 1 (AH l)))(hn:n=l.length)(h0:0<l.length)
 (hi:T t=some i) (hik:i.k=.slice v) (hv:T v=some k) (hk:k.k=.int .u8) (hj:T u=some j) (hjk:j.k=.string):QLoc P o e h [b] (.str ⟨l.toArray⟩):=by
 intro H ι a w s hs g1 g2;have hx':look s.env x=some (.ref b n 0 n):=by rw[g1 x Bg,hx]
 have hb':s.h b=some (.row p 1 (AH l)):=by rw[g2 b Az,hb]
 obtain⟨info,d,e1,e2,e3,e4,e5,e6⟩:=Af (hT _ _ hi);obtain⟨info',d',e1',e2',e3',e4',e5',e6'⟩:=Af (hT _ _ hj);obtain⟨info'',d'',e1'',e2'',e3'',e4'',e5'',e6''⟩:=Af (hT _ _ hv);have hd:=A0 (P:=P) (d:=d) (e3▸hik);subst hd;have hd:=CZ (P:=P) (d:=d') (e3'▸hjk);subst hd;have hd:=Ex (P:=P) (d:=d'') (e3''▸hk);subst hd;have hvx:=Ai hs hx';generalize hva:a.eval x=va at hvx;obtain⟨r,r1,⟨o1,o2,o3,o4,o5,o6⟩,_⟩:=hs.heap.obj b _ hb' rfl;have hlen:(AH l).length=l.length:=by simp[AH]
 have hcs:r.csz≠0:=by omega
 obtain⟨hle,cap,rfl,c1,c2,c3⟩:=Rel.ref_live hvx r1 Ab hcs;obtain⟨c,TT,d1,d2,d3,d4⟩:=o6 hcs;refine⟨_,.str _ _,?_⟩;simp only[execOp,ho,hva,Sem.run_bind];have key:(Go.convert t u (.slice (some ⟨r.rb,0*r.sz,none⟩) n cap)).run P w=.ok (.string ⟨l.toArray⟩) w:=by
  rw[run_convert_bytes_string w t u v (some ⟨r.rb,0*r.sz,none⟩) n cap e2 e2'' e2'];rw[run_bytesToString w _ _ cap (l.map (fun b:UInt8=>((b.toNat:Nat):Int))) ?_,Qu];have hld:=run_loadCells_list (P:=P) (w:=w) ⟨r.rb,0*r.sz,none⟩ (l.map (fun b:UInt8=>Value.int .u8 b.toNat)) (fun j y hj=>by
   rw[List.getElem?_map]at hj
   cases hlj:l[j]? with
   |none=>rw[hlj]at hj;cases hj
   |some m=>
    rw[hlj]at hj
    cases hj
    have hbc:(AH l)[j]?=some [AV.int .u8 m.toNat]:=by simp[AH,hlj]
    obtain⟨v',q1,q2,q3⟩:=d4 j _ 0 _ hbc rfl;rw[Eb,d1.cell,Nat.zero_mul,Nat.zero_add];rw[q2.int_inv,Nat.mul_one,Nat.add_zero]at q1;exact q1)
  rw[hn];simpa[List.map_map,Function.comp_def]using hld
 simp only[key,Result.andThen_ok,Sem.run_pure]
end
def IL:List (List AV)->Option (List UInt8)
  | []=>some []
  | [.int .u8 z]::r=>match decide (((UInt8.ofNat z.toNat).toNat:Int)=z),IL r with
    |true,some l=>some (UInt8.ofNat z.toNat::l)
    |_,_=>none
  |_::_=>none
theorem IK:∀{es:List (List AV)} {l:List UInt8},IL es=some l->es=AH l
 | [],l,h=>by simp[IL]at h;subst h;rfl
 |cs::r,l,h=>by
  unfold IL at h;split at h
  . rename_i he;cases he
  . rename_i z r' he
    cases he
    split at h
    . rename_i l' h1 h2;simp only[Option.some.injEq]at h;subst h;have h1:=of_decide_eq_true h1;have:=IK h2;rw[this];simp only[AH,List.map_cons,h1]
    . cases h
  . cases h
def iY(P:Program)(T:Nat->Option Ae)(o:Op)(e:Ar)(h:Aa):Option (List Nat×AV):=
  match o with
  | .lookup t x y true=>match look e x,look e y,O7 P T t with
    |some (.map b),some (.agg ks),some (n,K,et)=>match h b,Oz P et,GE K ks with
      |some (.map l),some z0,some z=>match Lo K n l,Nat.beq z.length n with
        |some m,true=>some ([b],.tup [(Ng z m).getD z0,.bool (Ng z m).isSome])
        |_,_=>none
      |_,_,_=>none
    |_,_,_=>none
  | .build t parts=>match A6 e parts.toList,T t with
    |some ps,some i=>match i.k with
      | .array len u=>match T u with
        |some j=>match zeroOk i,DF T (Ov len j.size u) ps,CB (Ov len j.size u) ps i.zero with
          |true,true,some r=>some ([],.agg r)
          |_,_,_=>none
        |none=>none
      |_=>none
    |_,_=>none
  | .binOp .eql t x y _=>match look e x,look e y,Ou P T t with
    |some (.agg xs),some (.agg ys),some (n,K)=>match GE K xs,GE K ys,P.eqGuardType P.depth t with
      |some l1,some l2,false=>match Nat.beq l1.length n,Nat.beq l2.length n with
        |true,true=>some ([],.bool (decide (l1=l2)))
        |_,_=>none
      |_,_,_=>none
    |_,_,_=>none
  | .binOp .neq t x y _=>match look e x,look e y,Ou P T t with
    |some (.agg xs),some (.agg ys),some (n,K)=>match GE K xs,GE K ys,P.eqGuardType P.depth t with
      |some l1,some l2,false=>match Nat.beq l1.length n,Nat.beq l2.length n with
        |true,true=>some ([],.bool (!decide (l1=l2)))
        |_,_=>none
      |_,_,_=>none
    |_,_,_=>none
  | .slice t x (some y) none none=>match look e x,look e y,DM T t with
    |some (.ref b n off len),some (.int k z),some j=>match h b,decide (z=(len:Int))with
      |some (.row p sz es),true=>match Nat.beq n es.length,Nat.blt 0 es.length with
        |true,true=>some ([b],.lst false [])
        |_,_=>none
      |_,_=>none
    |some (.lst ex es),some (.int k z),some j=>match decide (0<=z),decide (z.toNat<=es.length),es.all (fun cs=>Nat.beq cs.length j.size)with
      |true,true,true=>some ([],.lst (ex&&Nat.beq es.length es.length) ((es.take es.length).drop z.toNat))
      |_,_,_=>none
    |_,_,_=>none
  | .slice t x none (some y) (some y')=>match look e x,look e y,look e y',DM T t with
    |some (.lst ex es),some (.int k z),some (.int k' z'),some j=>match decide (z=(es.length:Int)),decide (z'=(es.length:Int))with
      |true,true=>some ([],.lst true es)
      |_,_=>none
    |_,_,_,_=>none
  | .convert t u x=>match look e x,DM T t,T u with
    |some (.ref b n 0 m),some k,some j=>match h b,QV k.k,j.k with
      |some (.row p 1 es),some .u8,.string=>match IL es with
        |some l=>match Nat.beq n m,Nat.beq n l.length,Nat.blt 0 l.length with
          |true,true,true=>some ([b],.str ⟨l.toArray⟩)
          |_,_,_=>none
        |none=>none
      |_,_,_=>none
    |_,_,_=>none
  |_=>none
section
variable {P : Program} {T : Nat -> Option Ae} {o : Oper} {e : Ar} {h : Aa} {R : List Nat} {r : AV}
theorem Vu(hT:Bc P T)(hq:iY P T o.op e h=some (R,r)):QLoc P o e h R r:=by
 unfold iY at hq;split at hq
 . rename_i t x y ho;split at hq
   . rename_i b ks n K et hx hy ht;split at hq
     . rename_i l z0 z hb hz hks;split at hq
       . rename_i m hm hzn;simp only[Option.some.injEq,Prod.mk.injEq]at hq;obtain⟨rfl,rfl⟩:=hq;obtain⟨i,kt,a1,a2,a3⟩:=Ky ht;obtain⟨j,e0,j0,b1,b2,b3,b4,b5⟩:=Gz a3;obtain⟨m1,m2⟩:=H7 hm;obtain⟨zv,z1,z2⟩:=Kl hz;exact Ks hT ho hx (by rw[hy,CN hks]) (by rw[hb,m1]) a1 a2 b1 b2 b3 b4 b5 (Nat.eq_of_beq_eq_true hzn) m2 z1 z2
       . cases hq
     . cases hq
   . cases hq
 . rename_i t parts ho;split at hq
   . rename_i ps i hp hi;split at hq
     . rename_i len u hk;split at hq
       . rename_i j hj;split at hq
         . rename_i r' hz hf hr;simp only[Option.some.injEq,Prod.mk.injEq]at hq;obtain⟨rfl,rfl⟩:=hq;obtain⟨z1,z2,z3⟩:=CI hz;exact Ku hT ho hp hi hk hj z1 z2 hf hr
         . cases hq
       . cases hq
     . cases hq
   . cases hq
 . rename_i t x y t' ho;split at hq
   . rename_i xs ys n K hx hy ha;split at hq
     . rename_i l1 l2 h1 h2 hg;split at hq
       . rename_i h3 h4;simp only[Option.some.injEq,Prod.mk.injEq]at hq;obtain⟨rfl,rfl⟩:=hq;obtain⟨j,e0,j0,b1,b2,b3,b4,b5⟩:=Gz ha;exact LQ hT false ho (by rw[hx,CN h1]) (by rw[hy,CN h2]) hg b1 b2 b3 b4 (Nat.eq_of_beq_eq_true h3) (Nat.eq_of_beq_eq_true h4) b5
       . cases hq
     . cases hq
   . cases hq
 . rename_i t x y t' ho;split at hq
   . rename_i xs ys n K hx hy ha;split at hq
     . rename_i l1 l2 h1 h2 hg;split at hq
       . rename_i h3 h4;simp only[Option.some.injEq,Prod.mk.injEq]at hq;obtain⟨rfl,rfl⟩:=hq;obtain⟨j,e0,j0,b1,b2,b3,b4,b5⟩:=Gz ha;exact LQ hT true ho (by rw[hx,CN h1]) (by rw[hy,CN h2]) hg b1 b2 b3 b4 (Nat.eq_of_beq_eq_true h3) (Nat.eq_of_beq_eq_true h4) b5
       . cases hq
     . cases hq
   . cases hq
 . rename_i t x y ho;split at hq
   . rename_i b n off len k z j hx hy hj;split at hq
     . rename_i p sz es hb hz;split at hq
       . rename_i h1 h2;simp only[Option.some.injEq,Prod.mk.injEq]at hq;obtain⟨rfl,rfl⟩:=hq;obtain⟨i,u,a1,a2,a3⟩:=Bp hj;exact Sq hT ho hx (by rw[hy,of_decide_eq_true hz]) a1 a2 a3 hb (Nat.eq_of_beq_eq_true h1) (by simpa[Nat.blt_eq]using h2)
       . cases hq
     . cases hq
   . rename_i ex es k z j hx hy hj;split at hq
     . rename_i h0 hz h1;simp only[Option.some.injEq,Prod.mk.injEq]at hq;obtain⟨rfl,rfl⟩:=hq;obtain⟨i,u,a1,a2,a3⟩:=Bp hj;exact Fi hT z.toNat es.length ho hx a1 a2 a3 ⟨k,by rw[hy,Int.toNat_of_nonneg (of_decide_eq_true h0)]⟩ rfl (of_decide_eq_true hz) (Nat.le_refl _) (fun cs hc=>Nat.eq_of_beq_eq_true (List.all_eq_true.1 h1 cs hc))
     . cases hq
   . cases hq
 . rename_i t x y y' ho;split at hq
   . rename_i ex es k z k' z' j hx hy hy' hj;split at hq
     . rename_i h1 h2;simp only[Option.some.injEq,Prod.mk.injEq]at hq;obtain⟨rfl,rfl⟩:=hq;obtain⟨i,u,a1,a2,a3⟩:=Bp hj;exact XY hT ho hx (by rw[hy,of_decide_eq_true h1]) (by rw[hy',of_decide_eq_true h2]) a1 a2 a3
     . cases hq
   . cases hq
 . rename_i t u x ho;split at hq
   . rename_i b n m k j hx hk hj;split at hq
     . rename_i p es hb hku hjk;split at hq
       . rename_i l hl;split at hq
         . rename_i h1 h2 h3;simp only[Option.some.injEq,Prod.mk.injEq]at hq;obtain⟨rfl,rfl⟩:=hq;obtain⟨i,v,a1,a2,a3⟩:=Bp hk;have h1:=Nat.eq_of_beq_eq_true h1;subst h1;exact St hT ho hx (by rw[hb,IK hl]) (Nat.eq_of_beq_eq_true h2) (by simpa[Nat.blt_eq]using h3) a1 a2 a3 (Ip hku) hj hjk
         . cases hq
       . cases hq
     . cases hq
   . cases hq
 . cases hq
end
def g9(P:Program)(T:Nat->Option Ae)(dst:Option Nat)(o:Op)(e:Ar)(h:Aa)(k:Nat):Option WH:=
  match o with
  | .makeMap t none=>match Fy h k with
    |true=>some ([k],[(k,.map (kvs .i64 []))],some (.map k),k+1)
    |false=>none
  | .mapUpdate t x y u=>match dst,look e x,look e y,look e u,O7 P T t with
    |none,some (.map b),some (.agg ks),some q,some (n,K,_)=>match h b,q.isPure,GE K ks with
      |some (.map l),true,some z=>match Lo K n l,Nat.beq z.length n with
        |some m,true=>some ([b],[(b,.map (BI K (Kd z q m)))],none,k)
        |_,_=>none
      |_,_,_=>none
    |_,_,_,_,_=>none
  |_=>none
theorem UT{P:Program}{T:Nat->Option Ae}{o:Oper}{e:Ar}{h:Aa}(hT:Bc P T){k k':Nat}{R:List Nat}{W:List (Nat×AObj)}{r:Option AV}(hv:g9 P T o.dst o.op e h k=some (R,W,r,k')):OLoc P o e h R W r:=by
 unfold g9 at hv;split at hv
 . rename_i t ho;split at hv
   . rename_i hf;simp only[Option.some.injEq,Prod.mk.injEq]at hv;obtain⟨rfl,rfl,rfl,rfl⟩:=hv;exact JX .i64 k ho (Cs hf)
   . cases hv
 . rename_i t x y u ho;split at hv
   . rename_i b ks q n K et hd hx hy hu ht;split at hv
     . rename_i l z hb hp hks;split at hv
       . rename_i m hm hzn;simp only[Option.some.injEq,Prod.mk.injEq]at hv;obtain⟨rfl,rfl,rfl,rfl⟩:=hv;obtain⟨i,kt,a1,a2,a3⟩:=Ky ht;obtain⟨j,e0,j0,b1,b2,b3,b4,b5⟩:=Gz a3;obtain⟨m1,m2⟩:=H7 hm;exact I9 hT ho hd hx (by rw[hy,CN hks]) hu hp (by rw[hb,m1]) a1 a2 b1 b2 b3 b4 b5 (Nat.eq_of_beq_eq_true hzn) m2
       . cases hv
     . cases hv
   . cases hv
 . cases hv
def i4(P:Program)(T:Nat->Option Ae)(o:Op)(e:Ar)(h:Aa):Option (List Nat×AV):=match ua T o e h with
  |some r=>some r
  |none=>match i3 P T o e h with
    |some r=>some r
    |none=>match iZ P T o e h with
      |some r=>some r
      |none=>iY P T o e h
def ia(P:Program)(T:Nat->Option Ae)(dst:Option Nat)(o:Op)(e:Ar)(h:Aa)(k:Nat):Option WH:=match vJ T dst o e h k with
  |some r=>some r
  |none=>match hZ T dst o e h k with
    |some r=>some r
    |none=>g9 P T dst o e h k
section
variable {P : Program} {T : Nat -> Option Ae} {o : Oper} {e : Ar} {h : Aa} {R : List Nat} {r : AV}
theorem Vx(hT:Bc P T)(hq:i4 P T o.op e h=some (R,r)):QLoc P o e h R r:=by
 unfold i4 at hq;split at hq
 . rename_i r' h1;rw[Option.some.injEq]at hq;subst hq;exact LS hT h1
 . split at hq
   . rename_i r' h1;rw[Option.some.injEq]at hq;subst hq;exact Vw hT h1
   . split at hq
     . rename_i r' h1;rw[Option.some.injEq]at hq;subst hq;exact Vv hT h1
     . exact Vu hT hq
theorem Nn(hT:Bc P T){k k':Nat}{W:List (Nat×AObj)}{r:Option AV}(hv:ia P T o.dst o.op e h k=some (R,W,r,k')):OLoc P o e h R W r:=by
 unfold ia at hv;split at hv
 . rename_i r' h1;rw[Option.some.injEq]at hv;subst hv;exact Xe hT h1
 . split at hv
   . rename_i r' h1;rw[Option.some.injEq]at hv;subst hv;exact UU hT h1
   . exact UT hT hv
end
def L0:Value->Option AV
  | .int k n=>some (.int k n)
  | .bool b=>some (.bool b)
  | .string s=>some (.str s)
  | .func f a b=>some (.val (.func f a b))
  |_=>none
def LY:List Value->Option (List AV)
  | []=>some []
  |v::vs=>match L0 v,LY vs with
    |some x,some xs=>some (x::xs)
    |_,_=>none
def Uc:Value->Option AV
  | .agg cs=>match LY cs.toList with
    |some xs=>some (.agg xs)
    |none=>none
  |v=>L0 v
theorem LZ{v:Value}{x:AV}(h:L0 v=some x)(H:Aq):Rel H AE x v:=by
 cases v<;>simp[L0]at h<;>subst h
 . exact .bool _ _
 . exact .int _ _ _
 . exact .str _ _
 . exact .val _ _ rfl
theorem LX:∀{l:List Value} {xs:List AV},LY l=some xs->xs.length=l.length/\∀(j:Nat) (x:AV) (v:Value),xs[j]?=some x->l[j]?=some v->L0 v=some x
 | [],xs,h=>by simp[LY]at h;subst h;exact⟨rfl,fun j x v h=>by simp at h⟩
 |v::vs,xs,h=>by
  unfold LY at h;split at h
  . rename_i x ys h1 h2;simp at h;subst h;obtain⟨a1,a2⟩:=LX h2;refine⟨by simp[a1],fun j y u e1 e2=>?_⟩
    cases j with
    |zero=>simp at e1 e2;subst e1;subst e2;exact h1
    |succ j=>exact a2 j y u (by simpa using e1) (by simpa using e2)
  . cases h
theorem FQ{v:Value}{x:AV}(h:Uc v=some x)(H:Aq):Rel H AE x v:=by
 unfold Uc at h;split at h
 . rename_i cs;split at h
   . rename_i xs e;simp at h;subst h;obtain⟨a1,a2⟩:=LX e;exact .agg _ _ _ (by simpa using a1) (fun j x v e1 e2=>LZ (a2 j x v e1 (by simpa using e2)) H)
   . cases h
 . exact LZ h H
def calleeEv(mt:Nat->String->Option Nat)(o:Op)(e:Ar):Option (Nat×List AV):=
  match o with
  | .call ⟨.value x,args,_⟩=>match look e x,AQ e args.toList with
    |some (.fn (.func f) fs cs),some xs=>some (f,fs++xs++cs)
    |some (.val (.func (.func f) a b)),some xs=>match a.toList,b.toList with
      | [],[]=>some (f,xs)
      |_,_=>none
    |_,_=>none
  | .call ⟨.invoke recv name,args,_⟩=>match look e recv,AQ e args.toList with
    |some (.val (.iface t v)),some xs=>match mt t name,Uc v with
      |some f,some x0=>some (f,x0::xs)
      |_,_=>none
    |_,_=>none
  |_=>none
def G9(P:Program)(mt:Nat->String->Option Nat):Prop:=∀t name f v w,mt t name=some f->(method (P.types.size+Made.depth) t v name).run P w=.ok (f,v) w
def fnEv(P:Program)(f:Nat):Option (Func×Code):=match P.funcs[f]? with
  |some fn=>match fn.body,fn.name== "runtime.NumGoroutine" with
    |some c,false=>some (fn,c)
    |_,_=>none
  |none=>none
theorem C2{P:Program}{f:Nat}{fn:Func}{c:Code}(h:fnEv P f=some (fn,c)):P.funcs[f]?=some fn/\fn.body=some c/\(fn.name== "runtime.NumGoroutine")=false:=by
 unfold fnEv at h;split at h
 . rename_i fn' hf;split at h
   . rename_i c' hb hn;simp only[Option.some.injEq,Prod.mk.injEq]at h;obtain⟨rfl,rfl⟩:=h;exact⟨hf,hb,hn⟩
   . cases h
 . cases h
section
variable {P : Program} {T : Nat -> Option Ae} {o : Oper} {e : Ar} {h : Aa} {R : AV -> Aa -> Prop}
theorem Uy{α:Type}{a:Array α}(h:a.toList=[]):a= #[]:=Array.ext' h
theorem FC{mt:Nat->String->Option Nat}(hmt:G9 P mt){f:Nat}{xs:List AV}{fn:Func}(hc:calleeEv mt o.op e=some (f,xs))(hf:P.funcs[f]?=some fn)(hnm:(fn.name== "runtime.NumGoroutine")=false)(hb:fn.body.isSome=true)(hcall:ACall P f xs h R):OCallR P o e h R:=by
 unfold calleeEv at hc;split at hc
 . rename_i x args tys ho;split at hc
   . rename_i f' fs cs ys hx hl;simp only[Option.some.injEq,Prod.mk.injEq]at hc;obtain⟨rfl,rfl⟩:=hc;exact um ho hx hf hnm hb hl hcall
   . rename_i f' a b ys hx hl;split at hc
     . rename_i ha hb';simp only[Option.some.injEq,Prod.mk.injEq]at hc;obtain⟨rfl,rfl⟩:=hc;exact uk ho (by rw[hx,Uy ha,Uy hb']) hf hnm hb hl hcall
     . cases hc
   . cases hc
 . rename_i recv name args tys ho;split at hc
   . rename_i t v ys hx hl;split at hc
     . rename_i f' x0 hm hv;simp only[Option.some.injEq,Prod.mk.injEq]at hc;obtain⟨rfl,rfl⟩:=hc;exact ul ho hx (fun w=>hmt t name f' v w hm) (FQ hv) hf hnm hb hl hcall
     . cases hc
   . cases hc
 . cases hc
theorem WO{ops:Array Oper}{rest:List Oper}{n:Nat}{K:Ac->Prop}(hd:o.dst=none)(hg:Av ops o e=some true)
 (ho:OCallR P o e h (fun r hn=>AOps P ops rest ⟨n,e,hn⟩ K)):AOps P ops (o::rest) ⟨n,e,h⟩ K:=by
 intro H ι a w hs;unfold wpList;rw[AN hs hg];simp only[if_true];refine .inl (Oper.wp_mono (fun a' w' hx=>?_) (ho H ι a w n _ hs));obtain⟨v,r,hn,H',ι',hr,rfl,h1,h2,h3⟩:=hx;have hs':=hs.put (v:=v) (d:=o.dst) (r:=none) h2 h3 W8 (fun t e=>by rw[hd]at e;cases e);exact eE
theorem er{ops:Array Oper}{rest:List Oper}{n:Nat}{K:Ac->Prop}(hd:o.dst=none)(hg:Av ops o e=some false)(hr:AOps P ops rest ⟨n,e,h⟩ K):AOps P ops (o::rest) ⟨n,e,h⟩ K:=by
 have:=AOps.skip (P:=P) (ops:=ops) (s:=⟨n,e,h⟩) (K:=K) (o:=o) (rest:=rest) hg (fun t e=>by rw[hd]at e;cases e);rw[hd]at this;exact this hr
end
def S3(b m:Nat)(es:List (List AV)):AV->AV
  | .ref b' n off len=>bif Nat.beq b' b&&Nat.beq n m then .lst false ((es.drop off).take len)else .ref b' n off len
  |x=>x
def uS(b m:Nat)(es:List (List AV)):AV->AV
  | .agg cs=>.agg (cs.map (S3 b m es))
  |x=>S3 b m es x
def uR(b m:Nat)(es:List (List AV)):AV->AV
  | .agg cs=>.agg (cs.map (S3 b m es))
  | .tup cs=>.tup (cs.map (uS b m es))
  |x=>S3 b m es x
def jK(b m:Nat)(es:List (List AV)):AObj->AObj
  | .row false sz rs=>.row false sz (rs.map fun cs=>cs.map (S3 b m es))
  |o=>o
def Wf(b m:Nat)(es:List (List AV))(e:Ar):Ar:=fun t=>match e t with
  |some x=>some (uR b m es x)
  |none=>none
def Is(b m:Nat)(es:List (List AV))(h:Aa):Aa:=fun c=>bif Nat.beq c b then none else match h c with
  |some o=>some (jK b m es o)
  |none=>none
theorem Wg(b m:Nat)(es:List (List AV))(x:AV)(h:x.cell1=true):(S3 b m es x).cell1=true:=by
 cases x with
 |ref b' n off len=>
  show(bif Nat.beq b' b&&Nat.beq n m then AV.lst false ((es.drop off).take len)else .ref b' n off len).cell1=true
  cases Nat.beq b' b&&Nat.beq n m<;>rfl
 |_=>exact h
section
variable {H H' : Aq} {b m : Nat} {es : List (List AV)}
theorem Jj(u3:KLe H H'){ι:AL}(u4:∀(v:Value) (off len:Nat),Rel H ι (.ref b m off len) v->Rel H' ι (.lst false ((es.drop off).take len)) v){x:AV}{v:Value}(h:Rel H ι x v):Rel H' ι (S3 b m es x) v:=by
 cases x with
 |ref b' n off len=>
  show Rel H' ι (bif Nat.beq b' b&&Nat.beq n m then AV.lst false ((es.drop off).take len)else .ref b' n off len) v
  cases e:Nat.beq b' b&&Nat.beq n m with
  |false=>exact h.mono u3 (LLe.refl _)
  |true=>
   rw[Bool.and_eq_true]at e;have e1:=Nat.eq_of_beq_eq_true e.1;have e2:=Nat.eq_of_beq_eq_true e.2;subst e1;subst e2;exact u4 v off len h
 |_=>exact h.mono u3 (LLe.refl _)
theorem Q8(u3:KLe H H'){ι:AL}(u4:∀(v:Value) (off len:Nat),Rel H ι (.ref b m off len) v->Rel H' ι (.lst false ((es.drop off).take len)) v){x:AV}{v:Value}(h:Rel H ι x v):Rel H' ι (uS b m es x) v:=by
 cases x with
 |agg cs=>
  obtain⟨us,rfl,hl,hr⟩:=h.agg_inv;refine .agg _ _ us (by simpa using hl) fun j x v h1 h2=>?_
  rw[List.getElem?_map]at h1
  cases e:cs[j]? with
  |none=>rw[e]at h1;cases h1
  |some y=>rw[e]at h1;cases h1;exact Jj u3 u4 (hr j y v e h2)
 |_=>exact Jj u3 u4 h
theorem ZD(u3:KLe H H'){ι:AL}(u4:∀(v:Value) (off len:Nat),Rel H ι (.ref b m off len) v->Rel H' ι (.lst false ((es.drop off).take len)) v){x:AV}{v:Value}(h:Rel H ι x v):Rel H' ι (uR b m es x) v:=by
 cases x with
 |agg cs=>exact Q8 (x:=.agg cs) u3 u4 h
 |tup cs=>
  obtain⟨us,rfl,hl,hr⟩:=h.tup_inv;refine .tup _ _ us (by simpa using hl) fun j x v h1 h2=>?_
  rw[List.getElem?_map]at h1
  cases e:cs[j]? with
  |none=>rw[e]at h1;cases h1
  |some y=>rw[e]at h1;cases h1;exact Q8 u3 u4 (hr j y v e h2)
 |_=>exact Jj u3 u4 h
end
theorem HeapRel.tight{H:Aq}{ι:AL}{h:Aa}{w:World}{b sz:Nat}{es:List (List AV)}(hr:HeapRel H ι h w)(hb:h b=some (.row false sz es))(hp:∀cs∈es,cs.all AV.isPure1=true):HeapRel H ι (Al h b (.row true sz es)) w:=by
 have old:∀c o,Al h b (.row true sz es) c=some o->o.alive=true->∃o',h c=some o'/\o'.alive=true:=fun c o h1 h2=>by
  by_cases hc:c=b
  . subst hc;exact⟨_,hb,rfl⟩
  . rw[Ax _ _ hc]at h1;exact⟨o,h1,h2⟩
 refine⟨hr.know,fun c hc=>?_,fun c o h1 h2=>?_,fun c c' o o' r r' h1 h2 h3 h4 h5 h6 h7 h8 h9=>?_,hr.glob⟩
 . by_cases e:c=b
   . subst e;rw[Au]at hc;cases hc
   . rw[Ax _ _ e]at hc;exact hr.free c hc
 . by_cases e:c=b
   . subst e;rw[Au]at h1
     cases h1
     obtain⟨r,r1,⟨o1,o2,o3,o4,o5,o6⟩,r3⟩:=hr.obj c _ hb rfl;refine⟨r,r1,⟨o1,o2,o3,o4,o5,fun hs=>?_⟩,r3⟩;obtain⟨cc,T,c1,c2,c3,c4⟩:=o6 hs;refine⟨cc,T,c1,c2,c3,fun i cs j x e1 e2=>?_⟩;obtain⟨v,v1,v2,v3⟩:=c4 i cs j x e1 e2;exact⟨v,v1,B3 (List.all_eq_true.1 (hp cs (List.mem_of_getElem? e1)) x (List.mem_of_getElem? e2)) v2,v3⟩
   . rw[Ax _ _ e]at h1;exact hr.obj c o h1 h2
 . obtain⟨p1,q1,q2⟩:=old c o h1 h2;obtain⟨p2,q3,q4⟩:=old c' o' h3 h4;exact hr.inj c c' p1 p2 r r' q1 q2 q3 q4 h5 h6 h7 h8 h9
theorem WJ{n:Nat}{e:Ar}{h:Aa}{b sz:Nat}{es:List (List AV)}(hb:h b=some (.row false sz es))(hp:∀cs∈es,cs.all AV.isPure1=true):Ghost ⟨n,e,h⟩ ⟨n,Wf b es.length es e,Is b es.length es h⟩:=fun H ι a w hs=>by
 have hr:=hs.heap;have ht:=hr.tight hb hp;obtain⟨H',u1,u2,u3,u40⟩:=ht.freeze (Au h b _);have u4:=u40 ι;have hst:Step H ι h w H ι (Al h b (.row true sz es)) w:=⟨Nat.le_refl _,rfl,rfl,fun _ _ _=>rfl,KLe.refl _,fun _ h=>.inl h,LLe.refl _,fun _ _=>rfl,fun _ _ h _=>.inl h,fun c hc=>by
  by_cases hcb:c=b
  . subst hcb;rw[hb]at hc;cases hc
  . rw[Ax _ _ hcb];exact hc⟩
 have back:∀c o,Is b es.length es h c=some o->∃o',h c=some o'/\o=jK b es.length es o'/\c≠b:=fun c o hc=>by
  unfold Is at hc
  cases ec:Nat.beq c b with
  |true=>rw[ec]at hc;cases hc
  |false=>
   rw[ec]at hc;simp only[cond_false]at hc;split at hc
   . rename_i o' ho
     cases hc
     exact⟨o',ho,rfl,fun hh=>by subst hh;rw[Nat.beq_refl]at ec;cases ec⟩
   . cases hc
 have al:∀o,(jK b es.length es o).alive=o.alive:=fun o=>by
  cases o with
  |row p sz rs=>cases p<;>rfl
  |_=>rfl
 have hrm_eq:∀c,c≠b->hrm (Al h b (.row true sz es)) b c=h c:=fun c hc=>by rw[Hi _ hc,Ax _ _ hc]
 have hheap:HeapRel H' ι (Is b es.length es h) w:=by
  refine⟨u1.know,fun c hc=>?_,fun c o h1 h2=>?_,fun c c' o o' r r' h1 h2 h3 h4 h5 h6 h7 h8 h9=>?_,u1.glob⟩
  . obtain⟨o',g1,g2,g3⟩:=back c _ hc
    cases o' with
    |free=>exact hr.free c g1
    |row p sz rs=>cases p<;>cases g2
    |_=>cases g2
  . obtain⟨o',g1,rfl,g3⟩:=back c o h1;rw[al]at h2;obtain⟨r,r1,r2,r3⟩:=u1.obj c o' (by rw[hrm_eq c g3];exact g1) h2;refine⟨r,r1,?_,r3⟩
    cases o' with
    |free=>cases h2
    |map kvs=>exact r2
    |iter0=>exact r2
    |row p sz' rs=>
     cases p with
     |true=>exact r2
     |false=>
      obtain⟨o1,o2,o3,o4,o5,o6⟩:=r2;refine⟨o1,o2,by simpa using o3,by simpa using o4,fun i cs hi=>?_,fun hsol=>?_⟩
      . rw[List.getElem?_map]at hi;exact fy
      . obtain⟨cc,T,c1,c2,c3,c4⟩:=o6 hsol;refine⟨cc,T,c1,c2,?_,fun i cs j x e1 e2=>?_⟩
        . intro i cs hi;rw[List.getElem?_map]at hi;exact fy
        . rw[List.getElem?_map]at e1
          cases ei:rs[i]? with
          |none=>rw[ei]at e1;cases e1
          |some ds=>
           rw[ei]at e1;cases e1;rw[List.getElem?_map]at e2
           cases ej:ds[j]? with
           |none=>rw[ej]at e2;cases e2
           |some y=>
            rw[ej]at e2;cases e2;obtain⟨r0,s1,⟨t1,t2,t3,t4,t5,t6⟩,s3⟩:=hr.obj c _ g1 rfl;rw[r1]at s1;cases s1;obtain⟨cc',T',d1,d2,d3,d4⟩:=t6 hsol;obtain⟨fr,f1,_⟩:=c1;obtain⟨fr',f1',_⟩:=d1;rw[f1]at f1'
            cases f1'
            obtain⟨v,v1,v2,v3⟩:=d4 i ds j y ei ej;exact⟨v,v1,Jj u3 u4 v2,Wg _ _ _ _ v3⟩
  . obtain⟨p1,g1,rfl,g3⟩:=back c o h1;obtain⟨p2,g4,rfl,g6⟩:=back c' o' h3;rw[al]at h2 h4;exact hr.inj c c' p1 p2 r r' g1 h2 g4 h4 h5 h6 h7 h8 h9
 refine⟨H',ι,⟨hs.n,hs.d,fun u y hy=>?_,hheap⟩,?_⟩
 . simp only[Wf]at hy;split at hy
   . rename_i x hx
     cases hy
     obtain⟨v,h1,h2⟩:=hs.env u x hx;exact⟨v,h1,ZD u3 u4 h2⟩
   . cases hy
 . have h2:=hst.trans hr ht u2;exact⟨h2.size,h2.os,h2.out,h2.keep,h2.kle,h2.knew,h2.lle,h2.lframe,h2.newrb,fun c hc=>by
    show Is b es.length es h c=none;unfold Is
    cases Nat.beq c b with
    |true=>rfl
    |false=>simp only[cond_false];rw[show h c=none from hc]⟩
def XU(b:Nat):AV->Bool
  | .ref b' _ _ _=>Nat.beq b' b
  |_=>false
def tZ(b:Nat):AV->Bool
  | .agg cs=>cs.any (XU b)
  |x=>XU b x
def frzL(n k:Nat):List Nat->Ar->Aa->Ar×Aa
  | [],e,h=>(e,h)
  |b::l,e,h=>match h b with
    |some (.row false sz es)=>match es.all (fun cs=>cs.all AV.isPure1),(List.range n).any (fun t=>match e t with
        |some x=>tZ b x
        |none=>false)||(List.range k).any (fun c=>match h c with
        |some (.row _ _ rs)=>rs.any fun cs=>cs.any (XU b)
        |_=>false)with
      |true,true=>frzL n k l (Wf b es.length es e) (Is b es.length es h)
      |_,_=>frzL n k l e h
    |_=>frzL n k l e h
theorem D7{n k:Nat}:∀(l:List Nat) {e e':Ar} {h h':Aa},frzL n k l e h=(e',h')->Ghost ⟨n,e,h⟩ ⟨n,e',h'⟩
 | [],e,e',h,h',hx=>by
  cases hx
  exact Ghost.of_sub (Sub.mk' (ESub.refl _) (HSub.refl _))
 |b::l,e,e',h,h',hx=>by
  unfold frzL at hx;split at hx
  . rename_i sz es hb;split at hx
    . rename_i hp _;exact Ghost.trans (WJ hb fun cs hc=>List.all_eq_true.1 hp cs hc) (D7 l hx)
    . exact D7 l hx
  . exact D7 l hx
def XT:AV->List Nat
  | .ref b _ _ _=>[b]
  | .ptr b _ _ _=>[b]
  |_=>[]
def Ge:AV->List Nat
  | .agg cs=>cs.flatMap XT
  |x=>XT x
def DD(h:Aa):Nat->List Nat->List Nat
  |0,l=>l
  |d+1,l=>DD h d (l.flatMap fun b=>match h b with
    |some (.row _ _ rs)=>rs.flatMap fun cs=>cs.flatMap XT
    |_=>[])++l
abbrev vf:=List (Nat×List AV×AV)
abbrev gC:=Nat->List AV->Aa->Nat->vf->Option (AV×Aa×Nat×vf)
section
variable {P : Program} {T : Nat -> Option Ae} {mt : Nat -> String -> Option Nat} {ct : Nat -> Option (List AV -> Option AV)} {cl : gC} {ops : Array Oper} {n : Nat}
theorem OCallR.mono{o:Oper}{e:Ar}{h:Aa}{R R':AV->Aa->Prop}(hc:OCallR P o e h R)(hr:∀r h',R r h'->R' r h'):OCallR P o e h R':=fun H ι a w n Q hs=>
 Oper.wp_mono (fun a' w' ⟨v,r,h',H',ι',e1,e2⟩=>⟨v,r,h',H',ι',hr _ _ e1,e2⟩) (hc H ι a w n Q hs)
end
def AV.eqS:AV->AV->Bool
  | .bool a,.bool b=>a==b
  | .int k a,.int k' b=>decide (k=k')&&decide (a=b)
  | .nil,.nil=>true
  | .nilp,.nilp=>true
  | .ref b n o l,.ref b' n' o' l'=>Nat.beq b b'&&(Nat.beq n n'&&(Nat.beq o o'&&Nat.beq l l'))
  | .ptr b n o l,.ptr b' n' o' l'=>Nat.beq b b'&&(Nat.beq n n'&&(Nat.beq o o'&&Nat.beq l l'))
  | .map b,.map b'=>Nat.beq b b'
  |_,_=>false
theorem ZL{x y:AV}(h:x.eqS y=true):x=y:=by
 unfold AV.eqS at h;split at h
 . rw[beq_iff_eq]at h;rw[h]
 . rw[Bool.and_eq_true,decide_eq_true_eq,decide_eq_true_eq]at h;rw[h.1,h.2]
 . rfl
 . rfl
 . rw[Bool.and_eq_true,Bool.and_eq_true,Bool.and_eq_true]at h;exact fp
 . rw[Bool.and_eq_true,Bool.and_eq_true,Bool.and_eq_true]at h;exact fp
 . rw[Nat.eq_of_beq_eq_true h]
 . cases h
section
variable {P : Program} {o : Oper} {e : Ar} {h : Aa}
end
section
variable {P : Program} {T : Nat -> Option Ae} {mt : Nat -> String -> Option Nat} {ct : Nat -> Option (List AV -> Option AV)} {cl : gC} {ops : Array Oper} {n : Nat}
end
def resEv(T:Nat->Option Ae)(e:Ar)(h:Aa):List ResultVar->Option (List AV)
  | []=>some []
  | .tmp t::rs=>match e t,resEv T e h rs with
    |some x,some xs=>some (x::xs)
    |_,_=>none
  | .cell a t::rs=>match e a,T t with
    |some p,some i=>match NT h p with
      |some (_,cs)=>match D3 i cs,resEv T e h rs with
        |some x,some xs=>some (x::xs)
        |_,_=>none
      |none=>none
    |_,_=>none
theorem BP{T:Nat->Option Ae}{n:Nat}{e:Ar}{h:Aa}:∀{rs:List ResultVar} {xs:List AV},resEv T e h rs=some xs->CD T ⟨n,e,h⟩ rs xs
 | [],xs,hx=>by simp[resEv]at hx;subst hx;trivial
 | .tmp t::rs,xs,hx=>by
  unfold resEv at hx;split at hx
  . rename_i x ys h1 h2;simp only[Option.some.injEq]at hx;subst hx;exact⟨h1,BP h2⟩
  . cases hx
 | .cell a t::rs,xs,hx=>by
  unfold resEv at hx;split at hx
  . rename_i p i h1 h2;split at hx
    . rename_i R cs h3;split at hx
      . rename_i x ys h4 h5;simp only[Option.some.injEq]at hx;subst hx;exact⟨⟨p,i,R,cs,h1,h2,LV h3,h4⟩,BP h5⟩
      . cases hx
    . cases hx
  . cases hx
def endsOk:Exit->Bool
  | .normal| .ret=>true
  |_=>false
def CX(x:Exit)(s:Ac):Exit->Ac->Prop:=fun x1 s1=>x1=x/\s1=s
section
variable {P : Program} {T : Nat -> Option Ae} {mt : Nat -> String -> Option Nat} {ct : Nat -> Option (List AV -> Option AV)} {fz : Nat -> Nat -> Option Nat}
theorem Ee{x:Exit}{s s1:Ac}{x1:Exit}{K:Ac->Prop}{Q:Exit->Ac->Prop}(h:CX x s x1 s1)(hn:x=.normal->K s)(ho:x≠ .normal->Q x s):Bk K Q x1 s1:=by
 obtain⟨rfl,rfl⟩:=h
 cases x1 with
 |normal=>exact hn rfl
 |_=>exact ho Fu
end
theorem Nm{P:Program}{c:Code}{x:Exit}{s s1 s2:Ac}(h:AGo P c s (CX x s1))(hg:Ghost s1 s2):AGo P c s (CX x s2):=fun H ι a w hs=>
 wp_mono (h H ι a w hs) fun e a' w' hp=>by
  obtain⟨s',H',ι',⟨rfl,rfl⟩,h1,h2⟩:=hp;obtain⟨H2,ι2,h3,h4⟩:=hg H' ι' a' w' h1;exact⟨s2,H2,ι2,⟨rfl,rfl⟩,h3,h2.trans hs.heap h1.heap h4⟩
def Fh(e:Ar):List ResultVar->List Nat
  | []=>[]
  | .tmp t::rs=>(match e t with|some x=>Ge x|none=>[])++Fh e rs
  | .cell t _::rs=>(match e t with|some x=>Ge x|none=>[])++Fh e rs
inductive Pth where
  |z
  |a (p:Pth)
  |b (p:Pth)
  |c (p:Pth)
  |d (p:Pth)
noncomputable def ub(n:Nat)(p:Pth):Pth:=Nat.rec (motive:=fun _=>Pth) (.a p) (fun n _=>Nat.rec (motive:=fun _=>Pth) (.b p) (fun n _=>Nat.rec (motive:=fun _=>Pth) (.c p) (fun _ _=>.d p) n) n) n
noncomputable def xL(ih:Nat->Pth)(n:Nat):Pth:=Nat.rec (motive:=fun _=>Pth) .z (fun m _=>ub (Nat.mod m 4) (ih (Nat.div m 4))) n
noncomputable def X7(d:Nat):Nat->Pth:=Nat.rec (motive:=fun _=>Nat->Pth) (fun _=>.z) (fun _ ih=>xL ih) d
noncomputable def Fx(n:Nat):Pth:=X7 n n
def Pth.num:Pth->Nat
  | .z=>0
  | .a p=>4*p.num+1
  | .b p=>4*p.num+2
  | .c p=>4*p.num+3
  | .d p=>4*p.num+4
theorem Qv:∀(d n:Nat),n<=d->(X7 d n).num=n
 |0,n,h=>by
  have:n=0:=Nat.le_zero.1 h;subst this;rfl
 |d+1,0,_=>rfl
 |d+1,m+1,h=>by
  have ih:=Qv d (m/4) Ab;have e:X7 (d+1) (m+1)=ub (m%4) (X7 d (m/4)):=rfl;rw[e];have h4:m%4<4:=Nat.mod_lt _ Ab;have hm:=Nat.div_add_mod m 4;generalize m%4=r at h4 hm;generalize X7 d (m/4)=p at ih;rcases r with _|_|_|_|r
  . show 4*p.num+1=m+1;omega
  . show 4*p.num+2=m+1;omega
  . show 4*p.num+3=m+1;omega
  . show 4*p.num+4=m+1;omega
  . omega
theorem T7(n:Nat):(Fx n).num=n:=Qv n n (Nat.le_refl _)
theorem OT{n m:Nat}(h:n≠m):Fx n≠Fx m:=fun e=>h (by rw[<-T7 n,e,T7])
inductive Qt(α:Type) where
  |lf
  |nd (v:Option α) (a b c d:Qt α)
section
variable {α : Type}
noncomputable def Qt.val(t:Qt α):Option α:=Qt.rec (motive:=fun _=>Option α) none (fun v _ _ _ _ _ _ _ _=>v) t
noncomputable def Qt.ka(t:Qt α):Qt α:=Qt.rec (motive:=fun _=>Qt α) .lf (fun _ a _ _ _ _ _ _ _=>a) t
noncomputable def Qt.kb(t:Qt α):Qt α:=Qt.rec (motive:=fun _=>Qt α) .lf (fun _ _ b _ _ _ _ _ _=>b) t
noncomputable def Qt.kc(t:Qt α):Qt α:=Qt.rec (motive:=fun _=>Qt α) .lf (fun _ _ _ c _ _ _ _ _=>c) t
noncomputable def Qt.kd(t:Qt α):Qt α:=Qt.rec (motive:=fun _=>Qt α) .lf (fun _ _ _ _ d _ _ _ _=>d) t
noncomputable def Qt.at(p:Pth):Qt α->Option α:=Pth.rec (motive:=fun _=>Qt α->Option α) Qt.val (fun _ ih t=>ih t.ka) (fun _ ih t=>ih t.kb) (fun _ ih t=>ih t.kc) (fun _ ih t=>ih t.kd) p
noncomputable def qz(a:α)(t:Qt α):Qt α:=Qt.rec (motive:=fun _=>Qt α) (.nd (some a) .lf .lf .lf .lf) (fun _ p q r s _ _ _ _=>.nd (some a) p q r s) t
noncomputable def qa(f:Qt α->Qt α)(t:Qt α):Qt α:=Qt.rec (motive:=fun _=>Qt α) (.nd none (f .lf) .lf .lf .lf) (fun v p q r s _ _ _ _=>.nd v (f p) q r s) t
noncomputable def qb(f:Qt α->Qt α)(t:Qt α):Qt α:=Qt.rec (motive:=fun _=>Qt α) (.nd none .lf (f .lf) .lf .lf) (fun v p q r s _ _ _ _=>.nd v p (f q) r s) t
noncomputable def qc(f:Qt α->Qt α)(t:Qt α):Qt α:=Qt.rec (motive:=fun _=>Qt α) (.nd none .lf .lf (f .lf) .lf) (fun v p q r s _ _ _ _=>.nd v p q (f r) s) t
noncomputable def qd(f:Qt α->Qt α)(t:Qt α):Qt α:=Qt.rec (motive:=fun _=>Qt α) (.nd none .lf .lf .lf (f .lf)) (fun v p q r s _ _ _ _=>.nd v p q r (f s)) t
noncomputable def Qt.set(a:α)(p:Pth):Qt α->Qt α:=Pth.rec (motive:=fun _=>Qt α->Qt α) (qz a) (fun _ ih=>qa ih) (fun _ ih=>qb ih) (fun _ ih=>qc ih) (fun _ ih=>qd ih) p
theorem F5:∀(p:Pth),(Qt.lf:Qt α).at p=none
 | .z=>rfl
 | .a p=>F5 p
 | .b p=>F5 p
 | .c p=>F5 p
 | .d p=>F5 p
theorem BL(x:α):∀(p:Pth) (t:Qt α),(Qt.set x p t).at p=some x
 | .z,t=>by cases t<;>rfl
 | .a p,t=>by cases t<;>exact BL x p _
 | .b p,t=>by cases t<;>exact BL x p _
 | .c p,t=>by cases t<;>exact BL x p _
 | .d p,t=>by cases t<;>exact BL x p _
theorem Ce(x:α):∀(p q:Pth) (t:Qt α),p≠q->(Qt.set x p t).at q=t.at q
 | .z,q,t,h=>by cases q<;>cases t<;>first|exact absurd rfl h|rfl
 | .a p,q,t,h=>by
  cases q with
  |a q=>cases t<;>exact Ce x p q _ (fun e=>h (by rw[e]))
  |_=>cases t<;>rfl
 | .b p,q,t,h=>by
  cases q with
  |b q=>cases t<;>exact Ce x p q _ (fun e=>h (by rw[e]))
  |_=>cases t<;>rfl
 | .c p,q,t,h=>by
  cases q with
  |c q=>cases t<;>exact Ce x p q _ (fun e=>h (by rw[e]))
  |_=>cases t<;>rfl
 | .d p,q,t,h=>by
  cases q with
  |d q=>cases t<;>exact Ce x p q _ (fun e=>h (by rw[e]))
  |_=>cases t<;>rfl
end
abbrev TE:=Qt AV
abbrev TH:=Qt AObj
noncomputable def eF(E:TE):Ar:=fun t=>Qt.at (Fx t) E
theorem MH{E:TE}{d:Nat}{v:AV}:eF (Qt.set v (Fx d) E)=Ad (eF E) d v:=by
 funext t
 by_cases h:t=d
 . subst h;rw[BX];exact BL _ _ _
 . rw[C3 _ _ h];exact Ce _ _ _ _ (OT (Ne.symm h))
noncomputable def hF(H:TH)(k m:Nat):Aa:=fun b=>bif Nat.blt b k then Qt.at (Fx b) H else bif Nat.blt b m then some .free else none
theorem Cp{H:TH}{k m b:Nat}(h:b<k):hF H k m b=Qt.at (Fx b) H:=by
 unfold hF;rw[show Nat.blt b k=true from Nat.blt_eq.mpr h];rfl
theorem BM{H:TH}{k m b:Nat}(h:k<=b)(h2:b<m):hF H k m b=some .free:=by
 unfold hF;rw[show Nat.blt b k=false from Bool.eq_false_iff.2 fun hc=>Nat.not_lt.2 h (Nat.blt_eq.mp hc),show Nat.blt b m=true from Nat.blt_eq.mpr h2];rfl
theorem CG{H:TH}{k m b:Nat}(h:k<=b)(h2:m<=b):hF H k m b=none:=by
 unfold hF;rw[show Nat.blt b k=false from Bool.eq_false_iff.2 fun hc=>Nat.not_lt.2 h (Nat.blt_eq.mp hc),show Nat.blt b m=false from Bool.eq_false_iff.2 fun hc=>Nat.not_lt.2 h2 (Nat.blt_eq.mp hc)];rfl
theorem Pl{H:TH}{k m:Nat}{o:AObj}(h:k<m):hF (Qt.set o (Fx k) H) (k+1) m=Al (hF H k m) k o:=by
 funext b
 by_cases hb:b=k
 . subst hb;rw[Au,Cp (Nat.lt_succ_self _)];exact BL _ _ _
 . rw[Ax _ _ hb]
   by_cases hlt:b<k
   . rw[Cp Ab,Cp hlt];exact Ce _ _ _ _ (OT (Ne.symm hb))
   . by_cases hm:b<m
     . rw[BM Ab hm,BM Ab hm]
     . rw[CG Ab Ab,CG Ab Ab]
theorem Mq{H:TH}{k m b:Nat}{o:AObj}(h:b<k):hF (Qt.set o (Fx b) H) k m=Al (hF H k m) b o:=by
 funext x
 by_cases hb:x=b
 . subst hb;rw[Au,Cp h];exact BL _ _ _
 . rw[Ax _ _ hb]
   by_cases hlt:x<k
   . rw[Cp hlt,Cp hlt];exact Ce _ _ _ _ (OT (Ne.symm hb))
   . by_cases hm:x<m
     . rw[BM Ab hm,BM Ab hm]
     . rw[CG Ab Ab,CG Ab Ab]
noncomputable def JA(xs:List AV):Nat->TE->TE:=List.rec (motive:=fun _=>Nat->TE->TE) (fun _ t=>t) (fun x _ ih i t=>ih (Nat.succ i) (Qt.set x (Fx i) t)) xs
theorem Rq:∀{xs:List AV} {i:Nat} {t:TE} (x:Nat),eF (JA xs i t) x=if i<=x/\x<i+xs.length then xs[x-i]? else eF t x
 | [],i,t,x=>by
  rw[if_neg (by simp<;>omega)];rfl
 |y::xs,i,t,x=>by
  show eF (JA xs (i+1) (Qt.set y (Fx i) t)) x=_;rw[Rq x,MH,List.length_cons]
  by_cases hx:x=i
  . subst hx;rw[if_neg Ab,if_pos Ab,BX]
    simp
  . rw[C3 _ _ hx]
    by_cases h2:i+1<=x/\x<i+1+xs.length
    . rw[if_pos h2,if_pos Ab];have:x-i=(x-(i+1))+1:=by omega
      rw[this,List.getElem?_cons_succ]
    . rw[if_neg h2,if_neg Ab]
theorem F4{xs:List AV}:eF (JA xs 0 .lf)=C9 xs:=by
 funext x;rw[Rq x];unfold C9;split
 . simp
 . rename_i hn;rw[List.getElem?_eq_none Ab];exact F5 _
def Nb(h:Aa)(κ:Nat->Bool):Aa:=fun b=>bif κ b then h b else none
def Q1(h h':Aa)(κ:Nat->Bool):Aa:=fun b=>bif κ b then h' b else h b
theorem EQ{h:Aa}{κ:Nat->Bool}{b:Nat}(e:κ b=true):Nb h κ b=h b:=by simp only[Nb,e,cond_true]
theorem E4{h:Aa}{κ:Nat->Bool}{b:Nat}(e:¬κ b=true):Nb h κ b=none:=by
 have:κ b=false:=by cases c:κ b with|false=>rfl|true=>exact absurd c e
 simp only[Nb,this,cond_false]
theorem Do{h h':Aa}{κ:Nat->Bool}{b:Nat}(e:κ b=true):Q1 h h' κ b=h' b:=by simp only[Q1,e,cond_true]
theorem CU{h h':Aa}{κ:Nat->Bool}{b:Nat}(e:¬κ b=true):Q1 h h' κ b=h b:=by
 have:κ b=false:=by cases c:κ b with|false=>rfl|true=>exact absurd c e
 simp only[Q1,this,cond_false]
theorem Q3(h:Aa)(κ:Nat->Bool):HSub (Nb h κ) h:=fun b o e=>by
 by_cases hb:κ b=true
 . rw[EQ hb]at e;exact e
 . rw[E4 hb]at e;cases e
theorem Zq{H:Aq}{ι:AL}{h:Aa}{w:World}{κ:Nat->Bool}{H':Aq}{ι':AL}{h':Aa}{w':World}(hr:HeapRel H ι h w)
 (hr':HeapRel H' ι' h' w') (hst:Step H ι (Nb h κ) w H' ι' h' w'):
 HeapRel H' ι' (Q1 h h' κ) w'/\Step H ι h w H' ι' (Q1 h h' κ) w':=by
 have same:∀b,¬κ b=true->ι' b=ι b:=fun b hb=>hst.lframe b (E4 hb)
 have own:∀rb,Ft (Nb h κ) ι rb->Ft h ι rb:=by
  rintro rb ⟨b,o,r,h1,h2,h3,h4,h5⟩
  exact⟨b,o,r,Q3 h κ b o h1,h2,h3,h4,h5⟩
 have apart:∀b o r,¬κ b=true->h b=some o->o.alive=true->ι b=some r->r.solid->¬Ft (Nb h κ) ι r.rb:=by
  rintro b o r hb h1 h2 h3 h4 ⟨b',o',r',g1,g2,g3,g4,g5⟩
  by_cases hb':κ b'=true
  . exact hr.inj b b' o o' r r' h1 h2 ((EQ (h:=h) hb').symm.trans g1) g2 h3 g3 h4 g4 (fun e=>hb (e▸hb')) g5.symm
  . rw[E4 hb']at g1;cases g1
 have blk:∀b o r,¬κ b=true->h b=some o->o.alive=true->ι b=some r->r.solid->w'.heap[r.rb]?=w.heap[r.rb]?:=fun b o r hb h1 h2 h3 h4=>
  hst.keep r.rb (hr.lt ⟨b,o,r,h1,h2,h3,h4,rfl⟩) (apart b o r hb h1 h2 h3 h4)
 have noK:∀b o r,¬κ b=true->h b=some o->o.alive=true->ι b=some r->r.solid->H r.rb=none->H' r.rb=none:=fun b o r hb h1 h2 h3 h4 h5=>by
  exact kB
 -- a row of the call's, afterwards: not one of those that it didn't see
 have apart':∀b b' o o' r r',¬κ b=true->κ b'=true->h b=some o->o.alive=true->ι b=some r->r.solid->h' b'=some o'->o'.alive=true->ι' b'=some r'->r'.solid->r.rb≠r'.rb:=fun b b' o o' r r' hb hb' h1 h2 h3 h4 q1 q2 g1 g2 e=>by
  have hnn:h b'≠none:=fun hn=>by
   rw[hst.dom b' (by rw[EQ hb'];exact hn)]at q1;cases q1
  have alive':∀r0,ι b'=some r0->r0.solid->r0.rb=r'.rb->False:=fun r0 e0 es e1=>by
   cases k1:h b' with
   |none=>exact hnn k1
   |some o0=>
    exact kx
  rcases hst.newrb b' r' g1 g2 with k|k|⟨r0,k1,k2,k3⟩
  . exact alive' r' k g2 rfl
  . have:=hr.lt ⟨b,o,r,h1,h2,h3,h4,rfl⟩;omega
  . exact alive' r0 k1 k2 k3
 refine⟨⟨hr'.know,fun b hb=>?_,fun b o h1 h2=>?_,fun b b' o o' r r' h1 h2 h3 h4 h5 h6 s1 s2 hne=>?_,hr'.glob⟩,⟨hst.size,hst.os,hst.out,fun rb hlt hno=>hst.keep rb hlt (fun h=>hno (own rb h)),hst.kle,fun b hb=>?_,hst.lle,fun b e=>?_,hst.newrb,fun b e=>?_⟩⟩
 . by_cases hbL:κ b=true
   . rw[Do hbL]at hb;exact hr'.free b hb
   . rw[CU hbL]at hb;rw[same b hbL];exact hr.free b hb
 . by_cases hbL:κ b=true
   . rw[Do hbL]at h1;exact hr'.obj b o h1 h2
   . rw[CU hbL]at h1;obtain⟨r,r1,r2,r3⟩:=hr.obj b o h1 h2;exact⟨r,by rw[same b hbL];exact r1,r2.mono hst.kle hst.lle (fun hs=>blk b o r hbL h1 h2 r1 hs),fun hs=>noK b o r hbL h1 h2 r1 hs (r3 hs)⟩
 . by_cases hb:κ b=true<;>by_cases hb':κ b'=true
   . rw[Do hb]at h1;rw[Do hb']at h3;exact hr'.inj b b' o o' r r' h1 h2 h3 h4 h5 h6 s1 s2 hne
   . rw[Do hb]at h1;rw[CU hb']at h3;rw[same b' hb']at h6;exact fun e=>apart' b' b o' o r' r hb' hb h3 h4 h6 s2 h1 h2 h5 s1 e.symm
   . rw[CU hb]at h1;rw[Do hb']at h3;rw[same b hb]at h5;exact apart' b b' o o' r r' hb hb' h1 h2 h5 s1 h3 h4 h6 s2
   . rw[CU hb]at h1;rw[CU hb']at h3;rw[same b hb]at h5;rw[same b' hb']at h6;exact hr.inj b b' o o' r r' h1 h2 h3 h4 h5 h6 s1 s2 hne
 . rcases hst.knew b hb with g|g|g
   . exact .inl g
   . exact .inr (.inl g)
   . exact .inr (.inr (own b g))
 . exact hst.lframe b (by by_cases hb:κ b=true<;>first|rw[EQ hb];exact e|exact E4 hb)
 . by_cases hb:κ b=true
   . rw[Do hb];exact hst.dom b (by rw[EQ hb];exact e)
   . rw[CU hb];exact e
theorem Tv{P:Program}{f:FuncId}{xs:List AV}{h hc h':Aa}{r:AV}(κ:Nat->Bool)(hk:Nb h κ=hc)(hcall:ACall P f xs hc (fun r1 h1=>r1=r/\h1=h')):ACall P f xs h (fun r1 h1=>r1=r/\h1=Q1 h h' κ):=fun H ι w vs hra hr=>
 (hcall H ι w vs hra (hr.sub (hk▸Q3 h κ))).mono fun e w' hh=>by
  obtain⟨v,r1,h1,H',ι',e1,⟨rfl,rfl⟩,k1,k2,k3⟩:=hh;obtain⟨u1,u2⟩:=Zq (κ:=κ) hr k2 (hk.symm▸k3);exact⟨v,r1,_,H',ι',e1,⟨rfl,rfl⟩,k1,u1,u2⟩
def Upd.no:Upd (Option AObj) where
  f:=fun h=>h
  wr:=fun _=>false
  out:=fun _ _ _=>rfl
  inn:=fun _ _ _ h=>by cases h
structure XRec where
  e:Ar
  h:Aa
  run:Bool
  rd:Nat->Prop
  up:Upd (Option AObj)
  r:Option AV
def XRec.apartX(a b:XRec):Prop:=(∀x,a.up.wr x=true->¬b.rd x/\b.up.wr x=false)/\∀x,b.up.wr x=true->¬a.rd x
def OX(P:Program)(o:Oper)(e:Ar)(h:Aa)(rd:Nat->Prop)(up:Upd (Option AObj))(r:Option AV):Prop:=
  ∀(H:Aq) (ι:AL) (a:Act) (w:World) (s:Ac) (Q:Exit->Act->World->Prop),Sim H ι s a w->
    (∀x∈o.op.operands,look s.env x=look e x)->(∀b,rd b->s.h b=h b)->
    o.wp P a w (fun a' w'=>∃v H' ι',a'=a.put o.dst v/\(∀x,r=some x->Rel H' ι' x v)/\HeapRel H' ι' (up.f s.h) w'/\Step H ι s.h w H' ι' (up.f s.h) w') Q
def XRec.ok(P:Program)(ops:Array Oper)(n:Nat)(o:Oper)(c:XRec):Prop:=
  Av ops o c.e=some c.run/\(∀t,o.dst=some t->t<n)/\(c.run=true->OX P o c.e c.h c.rd c.up c.r)/\(c.run=false->c.up=Upd.no/\(c.r=none\/c.r=some (.tup [])))
def XChain(P:Program)(ops:Array Oper)(n:Nat):List Oper->Ar->Aa->List XRec->Ar->Aa->Prop
  | [],e,h,[],e',h'=>e'=e/\h'=h
  |o::l,e,h,c::cs,e',h'=>c.e=e/\c.h=h/\c.ok P ops n o/\XChain P ops n l (Cy e o.dst c.r) (c.up.f h) cs e' h'
  |_,_,_,_,_,_=>False
def ep(ops:Array Oper)(cs:List XRec):Prop:=∀j oj cj,ops[j]?=some oj->cs[j]?=some cj->(∀e∈oj.after,Region.binds .any e=true->e.on<j)/\
  ∀i oi ci,i<j->ops[i]?=some oi->cs[i]?=some ci->HN ops 24 oj i=true\/(oi.apart ops oj=true/\ci.apartX cj)
section
variable {P : Program} {ops : Array Oper} {n : Nat}
theorem XChain.length:∀{l:List Oper} {e:Ar} {h:Aa} {cs:List XRec} {e':Ar} {h':Aa},XChain P ops n l e h cs e' h'->cs.length=l.length
 | [],_,_,[],_,_,_=>rfl
 |_::_,_,_,_::_,_,_,hc=>by simp[hc.2.2.2.length]
 | [],_,_,_::_,_,_,hc=>hc.elim
 |_::_,_,_,[],_,_,hc=>hc.elim
def Bo:List Oper->List XRec->List (Upd (Option AV))
  |o::l,c::cs=>Dj o.dst c.r::Bo l cs
  |_,_=>[]
def A9:List XRec->List (Upd (Option AObj))
  |c::cs=>c.up::A9 cs
  | []=>[]
theorem Jo:∀{l:List Oper} {cs:List XRec} {i:Nat} {u:Upd (Option AV)},(Bo l cs)[i]?=some u->∃o c,l[i]?=some o/\cs[i]?=some c/\u=Dj o.dst c.r
 | [],_,i,u,h=>by simp[Bo]at h
 |_::_,[],i,u,h=>by simp[Bo]at h
 |o::l,c::cs,0,u,h=>by simp[Bo]at h;exact⟨o,c,rfl,rfl,h.symm⟩
 |o::l,c::cs,i+1,u,h=>by simp only[Bo,List.getElem?_cons_succ]at h|-;exact Jo h
theorem KM:∀{l:List Oper} {cs:List XRec} {i:Nat} {o:Oper} {c:XRec},l[i]?=some o->cs[i]?=some c->(Bo l cs)[i]?=some (Dj o.dst c.r)
 | [],_,i,o,c,h,_=>by simp at h
 |_::_,[],i,o,c,_,h=>by simp at h
 |o::l,c::cs,0,_,_,h,h'=>by simp at h h';subst h;subst h';rfl
 |o::l,c::cs,i+1,_,_,h,h'=>by simp only[Bo,List.getElem?_cons_succ]at h h'|-;exact KM h h'
theorem Fz:∀{cs:List XRec} {i:Nat} {u:Upd (Option AObj)},(A9 cs)[i]?=some u->∃c,cs[i]?=some c/\u=c.up
 | [],i,u,h=>by simp[A9]at h
 |c::cs,0,u,h=>by simp[A9]at h;exact⟨c,rfl,h.symm⟩
 |c::cs,i+1,u,h=>by simp only[A9,List.getElem?_cons_succ]at h|-;exact Fz h
theorem Jg:∀{cs:List XRec} {i:Nat} {c:XRec},cs[i]?=some c->(A9 cs)[i]?=some (c.up)
 | [],i,c,h=>by simp at h
 |c::cs,0,_,h=>by simp at h;subst h;rfl
 |c::cs,i+1,_,h=>by simp only[A9,List.getElem?_cons_succ]at h|-;exact Jg h
theorem XChain.at_:∀{l:List Oper} {e:Ar} {h:Aa} {cs:List XRec} {e':Ar} {h':Aa} (k:Nat),XChain P ops n l e h cs e' h'->∀{j:Nat} {o:Oper} {c:XRec},l[j]?=some o->cs[j]?=some c->
 c.ok P ops n o/\c.e=AP (fun i=>decide (i<k+j)) (Bo l cs) k e/\c.h=AP (fun i=>decide (i<k+j)) (A9 cs) k h
 | [],_,_,_,_,_,_,_,j,o,c,h,_=>by simp at h
 |_::_,_,_,[],_,_,_,hc,_,_,_,_,_=>hc.elim
 |o::l,e,h,c::cs,e',h',k,hc,0,_,_,h1,h2=>by
  exact ku
 |o::l,e,h,c::cs,e',h',k,hc,j+1,o',c',h1,h2=>by
  have ih:=hc.2.2.2.at_ (k+1) (j:=j) (o:=o') (c:=c') Ld Lf;have hk:k+1+j=k+(j+1):=by omega
  rw[hk]at ih;refine⟨ih.1,?_,?_⟩
  . rw[ih.2.1];show _=AP _ (Bo l cs) (k+1) (if decide (k<k+(j+1))=true then(Dj o.dst c.r).f e else e);rw[if_pos Az];rfl
  . rw[ih.2.2];show _=AP _ (A9 cs) (k+1) (if decide (k<k+(j+1))=true then(c.up).f h else h);rw[if_pos Az]
theorem XChain.end_:∀{l:List Oper} {e:Ar} {h:Aa} {cs:List XRec} {e':Ar} {h':Aa} (k:Nat) (L:Nat->Bool),(∀i,i<cs.length->L (k+i)=true)->XChain P ops n l e h cs e' h'->e'=AP L (Bo l cs) k e/\h'=AP L (A9 cs) k h
 | [],_,_,[],_,_,k,L,_,hc=>hc
 | [],_,_,_::_,_,_,_,_,_,hc=>hc.elim
 |_::_,_,_,[],_,_,_,_,_,hc=>hc.elim
 |o::l,e,h,c::cs,e',h',k,L,hL,hc=>by
  have ih:=hc.2.2.2.end_ (k+1) L lv;have h0:=hL 0 Az;rw[Nat.add_zero]at h0;refine⟨?_,?_⟩
  . rw[ih.1];show _=AP L (Bo l cs) (k+1) (if L k=true then(Dj o.dst c.r).f e else e);rw[if_pos h0];rfl
  . rw[ih.2];show _=AP L (A9 cs) (k+1) (if L k=true then(c.up).f h else h);rw[if_pos h0]
theorem MS{cs:List XRec}{e0 e':Ar}{h0 h':Aa}{K:Ac->Prop}{D:List Deferred}(hchain:XChain P ops n ops.toList e0 h0 cs e' h')(hchk:ep ops cs)(hK:K ⟨n,e',h'⟩)
 {H0:Aq} {ι0:AL} {w0:World} (hr0:HeapRel H0 ι0 h0 w0):
 ∀(fuel:Nat) (L:Array Bool) (H:Aq) (ι:AL) (a:Act) (w:World),Ht ops L->JK L<=fuel->a.defers=D->
  Sim H ι ⟨n,AP (fun i=>L.getD i false) (Bo ops.toList cs) 0 e0,AP (fun i=>L.getD i false) (A9 cs) 0 h0⟩ {a with defers:=[]} w->
  Step H0 ι0 h0 w0 H ι (AP (fun i=>L.getD i false) (A9 cs) 0 h0) w->
  wpAny P .any ops (PD D (Post H0 ι0 h0 w0 (Bk K fun _ _=>False))) fuel L a w:=by
 have hlen:cs.length=ops.size:=by rw[hchain.length];simp
 have hget:∀{i:Nat},i<ops.size->∃o c,ops[i]?=some o/\ops.toList[i]?=some o/\cs[i]?=some c:=fun {i} hi=>by
  refine⟨ops[i],cs[i]'(Ab),by simp[hi],by simp[hi],by simp[hlen,hi]⟩
 -- the end
 have hdone:∀(L:Array Bool) (H:Aq) (ι:AL) (a:Act) (w:World),Ht ops L->(∀i,i<ops.size->L.getD i false=true)->a.defers=D->
  Sim H ι ⟨n,AP (fun i=>L.getD i false) (Bo ops.toList cs) 0 e0,AP (fun i=>L.getD i false) (A9 cs) 0 h0⟩ {a with defers:=[]} w->
  Step H0 ι0 h0 w0 H ι (AP (fun i=>L.getD i false) (A9 cs) 0 h0) w->PD D (Post H0 ι0 h0 w0 (Bk K fun _ _=>False)) .normal a w:=fun L H ι a w hcl hall hD hs hst=>by
  exact kp
 -- if none may come up all have come up
 have hready:∀(L:Array Bool),Ht ops L->Region.ready .any ops L=[]->∀i,i<ops.size->L.getD i false=true:=fun L hcl hre i=>by
  induction i using Nat.strongRecOn with
  |_ i ih=>
   intro hi
   cases hb:L.getD i false with
   |true=>rfl
   |false=>
    exfalso;obtain⟨o,c,g1,g2,g3⟩:=hget hi;have:i∈Region.ready .any ops L:=by
     rw[mem_ready];refine⟨by rw[Cx (by rw[hcl.1];exact hi)];exact hb,o,g1,fun e he hbd=>?_⟩;have hlt:=(hchk i o c g1 g3).1 e he hbd;exact ih e.on hlt Ab
    rw[hre]at this
    cases this
 intro fuel
 induction fuel with
 |zero=>
  intro L H ι a w hcl hf hD hs hst;exact kM
 |succ fuel ih=>
  intro L H ι a w hcl hf hD hs hst;refine⟨fun hre=>hdone L H ι a w hcl (hready L hcl hre) hD hs hst,fun j hj=>?_⟩;obtain⟨k1,o,k2,k3⟩:=mem_ready.1 hj;have hlt:j<ops.size:=(Array.getElem?_eq_some_iff.1 k2).1;have hLj:L.getD j false=false:=by rw[<-Cx RM];exact k1
  obtain⟨o',c,g1,g2,g3⟩:=hget hlt;rw[k2]at g1;cases g1;obtain⟨c1,c2,c3⟩:=hchain.at_ 0 g2 g3;simp only[Nat.zero_add]at c2 c3;obtain⟨ok1,ok2,ok3,ok4⟩:=c1
  -- who shares something with j has come up just if it stands ahead
  have hord:∀i oi ci,i≠j->ops[i]?=some oi->cs[i]?=some ci->(oi.apart ops o=true/\ci.apartX c->False)->(o.apart ops oi=true/\c.apartX ci->False)->L.getD i false=decide (i<j):=fun i oi ci hne h1 h2 hna hna'=>by
   rcases Nat.lt_or_gt_of_ne hne with hij|hij
   . have:=(hchk j o c k2 g3).2 i oi ci hij h1 h2;exact kv
   . have:=(hchk i oi ci h1 h2).2 j o c hij k2 g3;exact kP
  have hcls:Ht ops (L.setIfInBounds j true):=by
   exact kL
  have htodo:JK (L.setIfInBounds j true)<=fuel:=by
   have:=PZ RM hLj;omega
  have hLL:(fun i=>(L.setIfInBounds j true).getD i false)=fun i=>(i==j||L.getD i false):=funext fun i=>Ms RM
  have hwrE:∀{i:Nat} {u:Upd (Option AV)},(Bo ops.toList cs)[i]?=some u->∃oi ci,ops[i]?=some oi/\cs[i]?=some ci/\u=Dj oi.dst ci.r:=fun h=>by
   obtain⟨oi,ci,q1,q2,q3⟩:=Jo h;exact⟨oi,ci,by simpa using q1,q2,q3⟩
  -- the state behind it
  have hE:AP (fun i=>(L.setIfInBounds j true).getD i false) (Bo ops.toList cs) 0 e0=Cy (AP (fun i=>L.getD i false) (Bo ops.toList cs) 0 e0) o.dst c.r:=by
   rw[hLL];refine HK (KM g2 g3) (fun i=>rfl) (fun x hx i v hi hv hw=>?_);exact kQ
  have hHp:AP (fun i=>(L.setIfInBounds j true).getD i false) (A9 cs) 0 h0=c.up.f (AP (fun i=>L.getD i false) (A9 cs) 0 h0):=by
   rw[hLL];refine HK (Jg g3) (fun i=>rfl) (fun x hx i v hi hv hw=>?_);obtain⟨ci,q2,rfl⟩:=Fz hv;have hil:i<ops.size:=by rw[<-hlen];exact(List.getElem?_eq_some_iff.1 q2).1
   obtain⟨oi,_,q1,_,_⟩:=hget hil;have hno:∀(s1 s2:XRec),s1.up.wr x=true->s2.up.wr x=true->s1.apartX s2->False:=fun s1 s2 h1 h2 hap=>by
    have:=(hap.1 x h1).2;rw[h2]at this
    cases this
   exact fR
  -- what it looks at is as in the order of the text
  have hlook:∀t∈o.looksAt ops,AP (fun i=>L.getD i false) (Bo ops.toList cs) 0 e0 t=c.e t:=fun t ht=>by
   exact kN
  have hslots:∀b,c.rd b->AP (fun i=>L.getD i false) (A9 cs) 0 h0 b=c.h b:=fun b hb=>by
   rw[c3];refine Et rfl fun i u hu hw=>?_
   obtain⟨ci,q2,rfl⟩:=Fz hu;have hil:i<ops.size:=by rw[<-hlen];exact(List.getElem?_eq_some_iff.1 q2).1
   obtain⟨oi,_,q1,_,_⟩:=hget hil;rw[Nat.zero_add]
   by_cases hij:i=j
   . subst hij;rw[hLj];simp
   . exact hord i oi ci hij q1 q2 (fun hap=>(hap.2.1 b hw).1 hb) (fun hap=>hap.2.2 b hw hb)
  have hguard:Av ops o (AP (fun i=>L.getD i false) (Bo ops.toList cs) 0 e0)=some c.run:=by
   exact kH
  have hopnd:∀x∈o.op.operands,look (AP (fun i=>L.getD i false) (Bo ops.toList cs) 0 e0) x=look c.e x:=fun x hx=>by
   exact fF
  have hrL:=hs.heap;unfold wpOp;rw[k2];simp only;rw[AN hs hguard]
  cases hrun:c.run with
  |true=>
   simp only[if_true];refine .inl (EN (R:=fun v w'=>∃H' ι',(∀x,c.r=some x->Rel H' ι' x v)/\HeapRel H' ι' (c.up.f (AP (fun i=>L.getD i false) (A9 cs) 0 h0)) w'/\Step H ι (AP (fun i=>L.getD i false) (A9 cs) 0 h0) w H' ι' (c.up.f (AP (fun i=>L.getD i false) (A9 cs) 0 h0)) w') (Oper.wp_mono (fun a' w' hx=>?_) ((ok3 hrun) H ι {a with defers:=[]} w _ _ hs hopnd hslots)) (fun v w' hx=>?_))
   . obtain⟨v,H',ι',h1,h2⟩:=hx;exact⟨v,h1,H',ι',h2⟩
   exact kr
  |false=>
   exact kX
theorem WQ{id:Nat}{Q:Exit->Ac->Prop}{e:Ar}{h:Aa}{cs:List XRec}{e':Ar}{h':Aa}(hm:P.follows .mixedOrders=true)(h1:XChain P ops n ops.toList e h cs e' h')(h2:ep ops cs)(h3:Q .normal ⟨n,e',h'⟩):AGo P (.region id ops true) ⟨n,e,h⟩ Q:=by
 intro H ι a w hs;have hs0:Sim H ι ⟨n,e,h⟩ {a with defers:=[]} w:=by rw[hs.d0];exact hs
 refine wp_region_any hm (Dg (Q:=PD a.defers (Post H ι h w (Bk (fun s'=>Q .normal s') fun _ _=>False))) (fun ex a2 w2 hp=>?_) _ _ _ _ ?_)
 . obtain⟨hD,s',H',ι',q,r,t⟩:=hp;have e2:{a2 with defers:=[]}=a2:=by
    have:=hD.trans hs.d
    cases a2;simp only at this;subst this;rfl
   rw[e2]at r
   cases ex with
   |normal=>exact⟨s',H',ι',q,r,t⟩
   |_=>exact q.elim
 have hgrow:∀rb,rb<w.heap.size->({w with drawn:=w.drawn+1}:World).heap[rb]?=w.heap[rb]?:=fun _ _=>rfl
 have hr':HeapRel H ι h {w with drawn:=w.drawn+1}:=hs0.heap.grow hgrow;have hst:Step H ι h w H ι h {w with drawn:=w.drawn+1}:=Step.grow hgrow (Nat.le_refl _) rfl rfl;have hm0:∀{V:Type} (l:List (Upd V)) (g:Nat->V),AP (fun i=>(Array.replicate ops.size false).getD i false) l 0 g=g:=fun l g=>funext fun x=>CS fun i u _ _=>B2 _ _
 exact MS (D:=a.defers) (K:=fun s'=>Q .normal s') h1 h2 h3 hs0.heap ops.size (Array.replicate ops.size false) H ι a {w with drawn:=w.drawn+1}
  ⟨by simp,fun i hi=>by rw[B2]at hi;cases hi⟩ (by unfold JK;simp) rfl (by rw[hm0,hm0];exact⟨hs0.n,hs0.d,hs0.env,hr'⟩) (by rw[hm0];exact hst)
end
inductive LR where
  |no
  |val (R:List Nat) (r:AV)
  |new (R:List Nat) (o:AObj) (r:AV)
  |upd (R:List Nat) (b:Nat) (o:AObj) (r:Option AV)
abbrev LF:=TE->TH->Nat->LR
def LOk(P:Program)(o:Oper)(E:TE)(H:TH)(k:Nat):LR->Prop
  | .no=>True
  | .val R r=>∀m,QLoc P o (eF E) (hF H k m) R r
  | .new R ob r=>∀m,k<m->OLoc P o (eF E) (hF H k m) (k::R) [(k,ob)] (some r)
  | .upd R b ob r=>b<k/\∀m,OLoc P o (eF E) (hF H k m) (b::R) [(b,ob)] r
noncomputable def lkT(t:Nat)(E:TE):Option AV:=Qt.at (Fx t) E
noncomputable def zl(v:Value)(E:TE):Option AV:=EJ v
noncomputable def zm(g:Nat)(E:TE):Option AV:=(ZC g).map Pm
noncomputable def zn(f:FuncId)(E:TE):Option AV:=some (.fn (.func f) [] [])
noncomputable def lk(o:Operand):TE->Option AV:=Operand.rec (motive:=fun _=>TE->Option AV) lkT zl zm zn o
theorem A1(o:Operand)(E:TE):lk o E=look (eF E) o:=by cases o<;>rfl
noncomputable def rwAt(H:TH)(k b:Nat):Option AObj:=Bool.rec (motive:=fun _=>Option AObj) none (Qt.at (Fx b) H) (Nat.blt b k)
theorem Eg{H:TH}{k b:Nat}{o:AObj}(e:rwAt H k b=some o):b<k/\∀m,hF H k m b=some o:=by
 unfold rwAt at e
 cases c:Nat.blt b k with
 |false=>rw[c]at e;cases e
 |true=>
  rw[c]at e;have hlt:=Nat.blt_eq.mp c;exact⟨hlt,fun m=>by rw[Cp hlt];exact e⟩
noncomputable def vQ(r:AV):LR:=.val [] r
noncomputable def NU(o:Option AV):LR:=Option.rec (motive:=fun _=>LR) .no vQ o
noncomputable def Zv(x:Operand)(_:Oper)(E:TE)(_:TH)(_:Nat):LR:=NU (lk x E)
section
variable {P : Program} {o : Oper} {E : TE} {H : TH} {k : Nat}
theorem Ed{p:Option AV}(h:∀r,p=some r->∀m,QLoc P o (eF E) (hF H k m) [] r):LOk P o E H k (NU p):=by
 cases p with
 |none=>exact True.intro
 |some r=>exact h r rfl
theorem Q4{x:Operand}{o':Oper}(ho:o.op=.move x\/o.op=.assign x):LOk P o E H k (Zv x o' E H k):=by
 refine Ed fun r hr m=>If ho ?_
 rw[<-A1];exact hr
end
noncomputable def fieldOff(t f:Nat):Option Nat:=match TI t with
  |some i=>match i.k with
    | .struct fs=>match fs[f]? with
      |some (off,_)=>some off
      |none=>none
    |_=>none
  |none=>none
noncomputable def zH(p:AV):Nat->LR:=match p with
  | .loc cs=>fun off=>.val [] (.loc (cs.drop off))
  | .ptr b n i o=>fun off=>.val [] (.ptr b n i (Nat.add o off))
  |_=>fun _=>.no
noncomputable def zI(off:Nat)(p:Option AV):LR:=Option.rec (motive:=fun _=>Nat->LR) (fun _=>.no) zH p off
noncomputable def Ir(t:Nat)(x:Operand)(f:Nat)(_:Oper)(E:TE)(_:TH)(_:Nat):LR:=Option.rec (motive:=fun _=>Option AV->LR) (fun _=>.no) zI (fieldOff t f) (lk x E)
theorem Nf{t f off:Nat}(h:fieldOff t f=some off):∃i fs u,TI t=some i/\i.k=.struct fs/\fs[f]?=some (off,u):=by
 unfold fieldOff at h;split at h
 . rename_i i hi;split at h
   . rename_i fs hk;split at h
     . rename_i off' u hf
       cases h
       exact⟨i,fs,u,hi,hk,hf⟩
     . cases h
   . cases h
 . cases h
section
variable {P : Program} {o : Oper} {E : TE} {H : TH} {k : Nat} (hT : Bc P TI)
include hT
theorem Nd{t:Nat}{x:Operand}{f:Nat}{o':Oper}(ho:o.op=.fieldAddr t x f):LOk P o E H k (Ir t x f o' E H k):=by
 unfold Ir
 cases h1:fieldOff t f with
 |none=>exact True.intro
 |some off=>
  obtain⟨i,fs,u,a1,a2,a3⟩:=Nf h1;have hx:=A1 x E
  cases h2:lk x E with
  |none=>exact True.intro
  |some p=>
   rw[h2]at hx
   cases p with
   |loc cs=>exact fun m=>Er hT ho hx.symm a1 a2 a3 rfl
   |ptr b n i o=>exact fun m=>Er hT ho hx.symm a1 a2 a3 rfl
   |_=>exact True.intro
end
noncomputable def nthF{α:Type}(l:List α):Nat->Option α:=List.rec (motive:=fun _=>Nat->Option α) (fun _=>none) (fun a _ ih n=>Nat.rec (motive:=fun _=>Option α) (some a) (fun m _=>ih m) n) l
theorem EY{α:Type}:∀(l:List α) (n:Nat),nthF l n=l[n]?
 | [],n=>by simp;rfl
 |a::l,0=>rfl
 |a::l,n+1=>by rw[List.getElem?_cons_succ];exact EY l n
noncomputable def Oj{α:Type}(n:Nat):List α->List α:=Nat.rec (motive:=fun _=>List α->List α) (fun l=>l) (fun _ ih l=>List.rec (motive:=fun _=>List α) [] (fun _ t _=>ih t) l) n
theorem Gu{α:Type}:∀(n:Nat) (l:List α),Oj n l=l.drop n
 |0,l=>rfl
 |n+1,[]=>by simp;rfl
 |n+1,_::l=>by rw[List.drop_succ_cons];exact Gu n l
noncomputable def P3{α:Type}(n:Nat):List α->List α:=Nat.rec (motive:=fun _=>List α->List α) (fun _=>[]) (fun _ ih l=>List.rec (motive:=fun _=>List α) [] (fun a t _=>a::ih t) l) n
theorem F9{α:Type}:∀(n:Nat) (l:List α),P3 n l=l.take n
 |0,l=>by simp;rfl
 |n+1,[]=>by simp;rfl
 |n+1,a::l=>by rw[List.take_succ_cons,<-F9 n l];rfl
noncomputable def CT{α:Type}(l:List α):Nat:=List.rec (motive:=fun _=>Nat) 0 (fun _ _ n=>Nat.succ n) l
theorem A3{α:Type}:∀(l:List α),CT l=l.length
 | []=>rfl
 |_::l=>by rw[List.length_cons,<-A3 l];rfl
noncomputable def Wy{α:Type}(a b:List α):List α:=List.rec (motive:=fun _=>List α) b (fun x _ ih=>x::ih) a
theorem Ew{α:Type}:∀(a b:List α),Wy a b=a++b
 | [],_=>rfl
 |x::a,b=>by rw[List.cons_append,<-Ew a b];rfl
noncomputable def allF{α:Type}(p:α->Bool)(l:List α):Bool:=List.rec (motive:=fun _=>Bool) true (fun x _ ih=>Bool.rec (motive:=fun _=>Bool) false ih (p x)) l
theorem JC{α:Type}(p:α->Bool):∀(l:List α),allF p l=l.all p
 | []=>rfl
 |x::l=>by
  rw[List.all_cons,<-JC p l];show Bool.rec (motive:=fun _=>Bool) false (allF p l) (p x)=_
  cases p x<;>rfl
inductive TL where
  |bad
  |cell
  |agg (n:Nat)
noncomputable def bo(t:Nat):TL:=match TI t with
  |some i=>match i.k.isAgg with
    |true=>.agg i.size
    |false=>match i.k.isCell with
      |true=>.cell
      |false=>.bad
  |none=>.bad
noncomputable def zr(_:List Nat)(_:List AV):LR:=.no
noncomputable def zq(R:List Nat)(cs:List AV):LR:=List.rec (motive:=fun _=>LR) .no (fun c _ _=>.val R c) cs
noncomputable def vy(n:Nat)(R:List Nat)(cs:List AV):LR:=Bool.rec (motive:=fun _=>LR) .no (.val R (.agg (P3 n cs))) (Nat.ble n (CT cs))
noncomputable def kj(k:TL):List Nat->List AV->LR:=TL.rec (motive:=fun _=>List Nat->List AV->LR) zr zq vy k
noncomputable def xS(k:TL)(b o:Nat)(row:Option (List AV)):LR:=Option.rec (motive:=fun _=>LR) .no (fun cs=>kj k [b] (Oj o cs)) row
noncomputable def zt(ob:AObj)(b n i o:Nat)(k:TL):LR:=match ob with
  | .row _ _ es=>Bool.rec (motive:=fun _=>LR) .no (xS k b o (nthF es i)) (Nat.beq n (CT es))
  |_=>.no
noncomputable def zp(b n i o:Nat)(k:TL):LR:=.no
noncomputable def yI(ob:Option AObj):Nat->Nat->Nat->Nat->TL->LR:=Option.rec (motive:=fun _=>Nat->Nat->Nat->Nat->TL->LR) zp zt ob
noncomputable def zu(p:AV):TH->Nat->TL->LR:=match p with
  | .loc cs=>fun _ _ k=>kj k [] cs
  | .ptr b n i o=>fun H kk k=>yI (rwAt H kk b) b n i o k
  |_=>fun _ _ _=>.no
noncomputable def zo(p:Option AV):TH->Nat->TL->LR:=Option.rec (motive:=fun _=>TH->Nat->TL->LR) (fun _ _ _=>.no) zu p
noncomputable def Zx(t:Nat)(x:Operand)(_:Oper)(E:TE)(H:TH)(k:Nat):LR:=zo (lk x E) H k (bo t)
theorem PY{t:Nat}{R:List Nat}{cs:List AV}:kj (bo t) R cs=.no\/∃i r,TI t=some i/\D3 i cs=some r/\kj (bo t) R cs=.val R r:=by
 unfold bo;split
 . rename_i i hi;split
   . rename_i ha;show vy i.size R cs=_\/∃i' r,_/\_/\vy i.size R cs=_
     unfold vy
     cases c:Nat.ble i.size (CT cs)with
     |false=>exact .inl rfl
     |true=>exact .inr ⟨i,_,hi,by unfold D3;rw[ha,<-A3,c];rfl,by rw[F9]⟩
   . rename_i ha;split
     . rename_i hc
       cases cs with
       |nil=>exact .inl rfl
       |cons c cs=>exact .inr ⟨i,c,hi,by unfold D3;rw[ha,hc];rfl,rfl⟩
     . exact .inl rfl
 . exact .inl rfl
section
variable {P : Program} {o : Oper} {E : TE} {H : TH} {k : Nat} (hT : Bc P TI)
include hT
theorem Zw{t:Nat}{x:Operand}{o':Oper}(ho:o.op=.load t x):LOk P o E H k (Zx t x o' E H k):=by
 unfold Zx;have hx:=A1 x E
 cases h2:lk x E with
 |none=>exact True.intro
 |some p=>
  rw[h2]at hx
  cases p with
  |loc cs=>
   show LOk P o E H k (kj (bo t) [] cs);rcases PY (t:=t) (R:=[]) (cs:=cs)with h|⟨i,r,h3,h4,h5⟩
   . rw[h];exact True.intro
   . rw[h5];exact fun m=>Aw hT ho hx.symm h3 (.loc _) h4
  |ptr b n j off=>
   show LOk P o E H k (yI (rwAt H k b) b n j off (bo t))
   cases hb:rwAt H k b with
   |none=>exact True.intro
   |some ob=>
    obtain⟨b1,b2⟩:=Eg hb
    cases ob with
    |row pu sz es=>
     show LOk P o E H k (Bool.rec (motive:=fun _=>LR) .no (xS (bo t) b off (nthF es j)) (Nat.beq n (CT es)))
     cases c:Nat.beq n (CT es)with
     |false=>exact True.intro
     |true=>
      show LOk P o E H k (xS (bo t) b off (nthF es j))
      cases hn:nthF es j with
      |none=>exact True.intro
      |some cs=>
       show LOk P o E H k (kj (bo t) [b] (Oj off cs));rw[EY]at hn;rw[Gu];rcases PY (t:=t) (R:=[b]) (cs:=cs.drop off)with h|⟨i,r,h3,h4,h5⟩
       . rw[h];exact True.intro
       . rw[h5];exact fun m=>Aw hT ho hx.symm h3 (.ptr _ _ _ _ _ _ _ _ (b2 m) (by rw[<-A3];exact Nat.eq_of_beq_eq_true c) hn) h4
    |_=>exact True.intro
  |_=>exact True.intro
end
section
variable {P : Program} {o : Oper} {e : Ar} {h : Aa}
end
section
variable {P : Program} {T : Nat -> Option Ae} {o : Oper} {e : Ar} {h : Aa}
theorem t8{t t':TypeId}{x y:Operand}{k k':IntKind}{m n:Int}(ho:o.op=.call {callee:=.builtin .max,args:= #[x,y],argTypes:= #[t,t']})(hx:look e x=some (.int k m))(hy:look e y=some (.int k' n)):QLoc P o e h [] (.int k (max m n)):=by
 intro H ι a w s hs h1 h2;have hx':look s.env x=some (.int k m):=by rw[h1 x Fv,hx]
 have hy':look s.env y=some (.int k' n):=by rw[h1 y Fv,hy]
 have hvx:=(Ai hs hx').int_inv;have hvy:=(Ai hs hy').int_inv;refine⟨.int k (max m n),.int _ _ _,?_⟩;have e1:(if n>m then n else m)=max m n:=by
  rw[Int.max_def];split<;>split<;>omega
 have key:(Builtin.max_ #[t,t'] o.type #[.int k m,.int k' n]).run P w=.ok (.int k (max m n)) w:=by
  show(List.foldlM Builtin.max2 (Value.int k m) [Value.int k' n]).run P w=_;simp only[List.foldlM,Builtin.max2,Sem.run_bind,Sem.run_pure,Result.andThen_ok,e1]
 simp only[execOp,ho,resolve,invoke,builtin,Sem.run_bind,Sem.run_pure,Result.andThen_ok,List.map_toArray,List.map_cons,List.map_nil,hvx,hvy,key]
end
section
variable {P : Program}
end
section
variable {P : Program} {T : Nat -> Option Ae} {o : Oper} {e : Ar} {h : Aa}
end
section
variable {P : Program} {T : Nat -> Option Ae} {o : Oper} {e : Ar} {h : Aa}
theorem t9{t t':TypeId}{x y:Operand}{a b:ByteArray}(ho:o.op=.binOp .add t x y t')(hx:look e x=some (.str a))(hy:look e y=some (.str b))(hl:a.size+b.size<=maxLen):QLoc P o e h [] (.str (a++b)):=by
 intro H ι v w s hs h1 h2;have hx':look s.env x=some (.str a):=by rw[h1 x Bg,hx]
 have hy':look s.env y=some (.str b):=by rw[h1 y Bg,hy]
 have hvx:=(Ai hs hx').str_inv;have hvy:=(Ai hs hy').str_inv;refine⟨.string (a++b),.str _ _,?_⟩;have hg:(eqGuard .add t x y (.string a) (.string b)).run P w=.ok () w:=by unfold eqGuard;simp
 have hl2:¬(a++b).size>maxLen:=by rw[ByteArray.size_append];omega
 simp only[execOp,ho,Sem.run_bind,hvx,hvy,hg,Result.andThen_ok];simp[binOp,Op.stringOp,hl2];simp only[maxLen]at hl;omega
end
noncomputable def cD(b:Bool):Bool:=Bool.rec (motive:=fun _=>Bool) true false b
theorem L1(b:Bool):cD b= !b:=by cases b<;>rfl
noncomputable def and3(a b c:Bool):Bool:=Bool.rec (motive:=fun _=>Bool) false (Bool.rec (motive:=fun _=>Bool) false c b) a
theorem Bq{a b c:Bool}(h:and3 a b c=true):a=true/\b=true/\c=true:=by
 cases a<;>cases b<;>first|exact⟨rfl,rfl,h⟩|cases h
noncomputable def vB(b:Bool):LR:=.val [] (.bool b)
noncomputable def gB(op:BinOp)(k:IntKind)(a b:Int):LR:=NU (AM op (.int k a) (.int k b))
noncomputable def tQ(n:Nat)(k:IntKind)(old:LR):LR:=Bool.rec (motive:=fun _=>LR) old (.val [] (.int k (.ofNat n))) (Nat.blt n 128)
noncomputable def xO(k:IntKind)(a b:Nat):LR:=tQ (Nat.add a b) k (gB .add k (.ofNat a) (.ofNat b))
noncomputable def xN(k:IntKind)(a b:Nat):LR:=Bool.rec (motive:=fun _=>LR) (gB .sub k (.ofNat a) (.ofNat b)) (tQ (Nat.sub a b) k (gB .sub k (.ofNat a) (.ofNat b))) (Nat.ble b a)
noncomputable def zk(_:IntKind)(a b:Nat):LR:=vB (Nat.beq a b)
noncomputable def zd(_:IntKind)(a b:Nat):LR:=vB (cD (Nat.beq a b))
noncomputable def ze(_:IntKind)(a b:Nat):LR:=vB (Nat.blt a b)
noncomputable def zf(_:IntKind)(a b:Nat):LR:=vB (Nat.ble a b)
noncomputable def zg(_:IntKind)(a b:Nat):LR:=vB (Nat.blt b a)
noncomputable def zh(_:IntKind)(a b:Nat):LR:=vB (Nat.ble b a)
noncomputable def O4(op:BinOp)(k:IntKind)(a b:Nat):LR:=gB op k (.ofNat a) (.ofNat b)
noncomputable def yO(op:BinOp):IntKind->Nat->Nat->LR:=BinOp.rec (motive:=fun _=>IntKind->Nat->Nat->LR) xO xN (O4 .mul) (O4 .quo) (O4 .rem) (O4 .and) (O4 .or) (O4 .xor) (O4 .shl) (O4 .shr) (O4 .andNot) zk zd ze zf zg zh op
theorem Lh(k:IntKind)(n:Nat)(h:n<128):k.wrap (n:Int)=n:=by
 cases k<;>simp only[IntKind.wrap,IntKind.bits,IntKind.signed]<;>(simp;try omega)
theorem Qa{n:Nat}{k:IntKind}{old:LR}{R:LR->Prop}(h1:R old)(h2:n<128->R (.val [] (.int k (.ofNat n)))):R (tQ n k old):=by
 unfold tQ
 cases c:Nat.blt n 128 with
 |false=>exact h1
 |true=>exact h2 (Nat.blt_eq.mp c)
section
variable {P : Program} {o : Oper} {E : TE} {H : TH} {k : Nat}
theorem jW{op:BinOp}{t t':TypeId}{x y:Operand}{kk:IntKind}{a b:Nat}(ho:o.op=.binOp op t x y t')(hx:look (eF E) x=some (.int kk (.ofNat a)))(hy:look (eF E) y=some (.int kk (.ofNat b))):LOk P o E H k (yO op kk a b):=by
 have key:∀r,AM op (.int kk (.ofNat a)) (.int kk (.ofNat b))=some r->∀m,QLoc P o (eF E) (hF H k m) [] r:=fun r hr m=>BB ho hx hy hr
 have hold:LOk P o E H k (gB op kk (.ofNat a) (.ofNat b)):=Ed key
 cases op with
 |add=>exact Qa hold fun hn=>key _ (by
  have:=Lh kk (a+b) hn;simp only[AM,isShift,Bf,cond_false,if_pos];rw[show((Int.ofNat a+Int.ofNat b:Int))=((a+b:Nat):Int)from by simp,this];rfl)
 |sub=>
  show LOk P o E H k (Bool.rec (motive:=fun _=>LR) _ (tQ (Nat.sub a b) kk _) (Nat.ble b a))
  cases c:Nat.ble b a with
  |false=>exact hold
  |true=>
   have hle:=Nat.le_of_ble_eq_true c;exact Qa hold fun hn=>key _ (by
    have:=Lh kk (a-b) hn;simp only[AM,isShift,Bf,cond_false,if_pos];rw[show((Int.ofNat a-Int.ofNat b:Int))=((a-b:Nat):Int)from by simp;omega,this];rfl)
 |eql=>exact key _ (by
  simp only[AM,isShift,Bf,cond_false,if_pos,Option.some.injEq,AV.bool.injEq];rw[Bool.eq_iff_iff,beq_iff_eq,Nat.beq_eq];simp<;>omega)
 |neq=>exact key _ (by
  simp only[AM,isShift,Bf,cond_false,if_pos,Option.some.injEq,AV.bool.injEq,L1];rw[Bool.eq_iff_iff,bne_iff_ne,Bool.not_eq_true',<-Bool.not_eq_true,Nat.beq_eq];simp<;>omega)
 |lss=>exact key _ (by
  simp only[AM,isShift,Bf,cond_false,if_pos,Option.some.injEq,AV.bool.injEq];rw[Bool.eq_iff_iff,decide_eq_true_eq,Nat.blt_eq]
  simp)
 |leq=>exact key _ (by
  simp only[AM,isShift,Bf,cond_false,if_pos,Option.some.injEq,AV.bool.injEq];rw[Bool.eq_iff_iff,decide_eq_true_eq,Nat.ble_eq]
  simp)
 |gtr=>exact key _ (by
  simp only[AM,isShift,Bf,cond_false,if_pos,Option.some.injEq,AV.bool.injEq];rw[Bool.eq_iff_iff,decide_eq_true_eq,Nat.blt_eq]
  simp)
 |geq=>exact key _ (by
  simp only[AM,isShift,Bf,cond_false,if_pos,Option.some.injEq,AV.bool.injEq];rw[Bool.eq_iff_iff,decide_eq_true_eq,Nat.ble_eq]
  simp)
 |_=>exact hold
end
noncomputable def zP(b:Int)(op:BinOp)(k:IntKind)(a:Nat):LR:=Int.rec (motive:=fun _=>LR) (fun b'=>yO op k a b') (fun n=>gB op k (.ofNat a) (.negSucc n)) b
noncomputable def yQ(a:Int)(op:BinOp)(k:IntKind)(b:Int):LR:=Int.rec (motive:=fun _=>LR) (fun a'=>zP b op k a') (fun n=>gB op k (.negSucc n) b) a
noncomputable def RB(k:IntKind):Nat:=IntKind.rec (motive:=fun _=>Nat) 0 1 2 3 4 5 6 7 k
theorem Uo{k k':IntKind}(h:Nat.beq (RB k) (RB k')=true):k=k':=by cases k<;>cases k'<;>first|rfl|cases h
noncomputable def sL(s:ByteArray):List Nat:=List.rec (motive:=fun _=>List Nat) [] (fun b _ ih=>b.toBitVec.toFin.1::ih) s.data.toList
noncomputable def dK(a:List Nat):List Nat->Bool:=List.rec (motive:=fun _=>List Nat->Bool) (fun b=>List.rec (motive:=fun _=>Bool) true (fun _ _ _=>false) b) (fun x _ ih b=>List.rec (motive:=fun _=>Bool) false (fun y ys _=>Bool.rec (motive:=fun _=>Bool) false (ih ys) (Nat.beq x y)) b) a
theorem MB:∀(a b:List Nat),dK a b=decide (a=b)
 | [],[]=>rfl
 | [],_::_=>rfl
 |_::_,[]=>rfl
 |x::a,y::b=>by
  show Bool.rec (motive:=fun _=>Bool) false (dK a b) (Nat.beq x y)=_
  cases c:Nat.beq x y with
  |false=>
   have:x≠y:=fun e=>by rw[e,Nat.beq_refl]at c;cases c
   simp[this]
  |true=>
   have:=Nat.eq_of_beq_eq_true c;subst this;simp[MB a b]
theorem OO(s:ByteArray):sL s=s.data.toList.map UInt8.toNat:=by
 unfold sL;generalize s.data.toList=l
 induction l with
 |nil=>rfl
 |cons b l ih=>rw[List.map_cons,<-ih];rfl
theorem Kp(s:ByteArray):∀(n i:Nat) (r:List UInt8),s.size-i=n->ByteArray.toList.loop s i r=r.reverse++s.data.toList.drop i
 |0,i,r,h=>by
  rw[ByteArray.toList.loop,if_neg Ab,List.drop_of_length_le (by have:s.data.toList.length=s.size:=rfl;omega),List.append_nil]
 |n+1,i,r,h=>by
  have hi:i<s.size:=by omega
  rw[ByteArray.toList.loop,if_pos hi,Kp s n (i+1) _ Ab,List.reverse_cons,List.append_assoc];have hl:i<s.data.toList.length:=hi;rw[List.drop_eq_getElem_cons hl];have e:s.get! i=s.data.toList[i]:=by
   show(s.data[i]!)=_;rw[getElem!_pos s.data i hi];rfl
  rw[e];rfl
theorem Fg(s:ByteArray):s.toList=s.data.toList:=by
 unfold ByteArray.toList;rw[Kp s _ 0 [] rfl];rfl
theorem Pr(a b:ByteArray):dK (sL a) (sL b)=(a.toList==b.toList):=by
 rw[MB,OO,OO,Fg,Fg,Bool.eq_iff_iff,decide_eq_true_eq,beq_iff_eq];exact⟨fun h=>List.map_inj_right (fun x y=>UInt8.toNat_inj.1)|>.1 h,fun h=>by rw[h]⟩
noncomputable def y8(a b:ByteArray):LR:=vB (dK (sL a) (sL b))
noncomputable def y7(a b:ByteArray):LR:=vB (cD (dK (sL a) (sL b)))
noncomputable def iz(a b:ByteArray):LR:=Bool.rec (motive:=fun _=>LR) .no (.val [] (.str ⟨⟨Wy a.data.toList b.data.toList⟩⟩)) (Nat.ble (Nat.add (CT a.data.toList) (CT b.data.toList)) 4096)
noncomputable def TR(_ _:ByteArray):LR:=.no
noncomputable def yN(op:BinOp):ByteArray->ByteArray->LR:=BinOp.rec (motive:=fun _=>ByteArray->ByteArray->LR) iz TR TR TR TR TR TR TR TR TR TR y8 y7 TR TR TR TR op
noncomputable def yP(b:Bool)(op:BinOp)(k k':IntKind)(x y:Int):LR:=Bool.rec (motive:=fun _=>LR) (NU (AM op (.int k x) (.int k' y))) (yQ x op k y) b
noncomputable def zM(y:AV):BinOp->IntKind->Int->LR:=match y with
  | .int k' b=>fun op k a=>yP (Nat.beq (RB k) (RB k')) op k k' a b
  |_=>fun _ _ _=>.no
noncomputable def zL(y:AV):BinOp->ByteArray->LR:=match y with
  | .str b=>fun op a=>yN op a b
  |_=>fun _ _=>.no
noncomputable def yR(x:AV):BinOp->AV->LR:=match x with
  | .int k a=>fun op y=>zM y op k a
  | .str a=>fun op y=>zL y op a
  |_=>fun _ _=>.no
noncomputable def zO(y:AV)(op:BinOp)(x:AV):LR:=yR x op y
noncomputable def zN(x:AV)(op:BinOp)(y:Option AV):LR:=Option.rec (motive:=fun _=>BinOp->AV->LR) (fun _ _=>.no) zO y op x
noncomputable def yS(x:Option AV):BinOp->Option AV->LR:=Option.rec (motive:=fun _=>BinOp->Option AV->LR) (fun _ _=>.no) zN x
section
variable {P : Program} {o : Oper} {E : TE} {H : TH} {k : Nat}
theorem jX{op:BinOp}{t t':TypeId}{x y:Operand}{kk:IntKind}{a b:Int}(ho:o.op=.binOp op t x y t')(hx:look (eF E) x=some (.int kk a))(hy:look (eF E) y=some (.int kk b)):LOk P o E H k (yQ a op kk b):=by
 have hold:LOk P o E H k (gB op kk a b):=Ed fun r hr m=>BB ho hx hy hr
 cases a with
 |ofNat a=>
  cases b with
  |ofNat b=>exact jW ho hx hy
  |negSucc b=>exact hold
 |negSucc a=>exact hold
theorem jY{op:BinOp}{t t':TypeId}{x y:Operand}(ho:o.op=.binOp op t x y t'):LOk P o E H k (yS (lk x E) op (lk y E)):=by
 have hx:=A1 x E;have hy:=A1 y E
 cases h1:lk x E with
 |none=>exact True.intro
 |some p=>
  cases h2:lk y E with
  |none=>exact True.intro
  |some q=>
   rw[h1]at hx;rw[h2]at hy;show LOk P o E H k (yR p op q)
   cases p with
   |int kk a=>
    cases q with
    |int k' b=>
     show LOk P o E H k (yP (Nat.beq (RB kk) (RB k')) op kk k' a b)
     cases c:Nat.beq (RB kk) (RB k')with
     |false=>exact Ed fun r hr m=>BB ho hx.symm hy.symm hr
     |true=>
      have:=Uo c;subst this;exact jX ho hx.symm hy.symm
    |_=>exact True.intro
   |str a=>
    cases q with
    |str b=>
     show LOk P o E H k (yN op a b)
     cases op with
     |eql=>exact fun m=>BB ho hx.symm hy.symm (by rw[Pr];rfl)
     |neq=>exact fun m=>BB ho hx.symm hy.symm (by rw[L1,Pr];rfl)
     |add=>
      show LOk P o E H k (iz a b);unfold iz
      cases c:Nat.ble (Nat.add (CT a.data.toList) (CT b.data.toList)) 4096 with
      |false=>exact True.intro
      |true=>
       have hc:=Nat.le_of_ble_eq_true c;rw[A3,A3]at hc;have e:(⟨⟨Wy a.data.toList b.data.toList⟩⟩:ByteArray)=a++b:=by
        rw[Ew];apply ByteArray.ext
        simp
       intro m;rw[e];exact t9 ho hx.symm hy.symm (by have:a.size+b.size<=4096:=hc;simp only[maxLen];omega)
     |_=>exact True.intro
    |_=>exact True.intro
   |_=>exact True.intro
end
noncomputable def zc(p:AV):LR:=match p with
  | .loc _=>.val [] p
  | .ptr _ _ _ _=>.val [] p
  |_=>.no
noncomputable def jC(x:Operand)(_:Oper)(E:TE)(_:TH)(_:Nat):LR:=Option.rec (motive:=fun _=>LR) .no zc (lk x E)
noncomputable def y9(b:Bool)(x y:Operand)(E:TE):LR:=NU (Bool.rec (motive:=fun _=>Option AV) (lk y E) (lk x E) b)
noncomputable def za(c:AV):Operand->Operand->TE->LR:=match c with
  | .bool b=>y9 b
  |_=>fun _ _ _=>.no
noncomputable def Zu(c x y:Operand)(_:Oper)(E:TE)(_:TH)(_:Nat):LR:=Option.rec (motive:=fun _=>Operand->Operand->TE->LR) (fun _ _ _=>.no) za (lk c E) x y E
noncomputable def zJ(p:AV):Nat->LR:=match p with
  | .tup vs=>fun k=>NU (nthF vs k)
  |_=>fun _=>.no
noncomputable def Mr(x:Operand)(k:Nat)(_:Oper)(E:TE)(_:TH)(_:Nat):LR:=Option.rec (motive:=fun _=>Nat->LR) (fun _=>.no) zJ (lk x E) k
noncomputable def zb(p:AV):LR:=match p with
  | .bool b=>vB (cD b)
  |_=>.no
noncomputable def TJ(_:Nat)(x:Operand)(_:Oper)(E:TE)(_:TH)(_:Nat):LR:=Option.rec (motive:=fun _=>LR) .no zb (lk x E)
section
variable {P : Program} {o : Oper} {E : TE} {H : TH} {k : Nat}
theorem dv{x:Operand}{o':Oper}(ho:o.op=.nilCheck x):LOk P o E H k (jC x o' E H k):=by
 unfold jC;have hx:=A1 x E
 cases h1:lk x E with
 |none=>exact True.intro
 |some p=>
  rw[h1]at hx
  cases p with
  |loc cs=>exact fun m=>Ie ho hx.symm rfl
  |ptr b n i o=>exact fun m=>Ie ho hx.symm rfl
  |_=>exact True.intro
theorem Zt{c x y:Operand}{o':Oper}(ho:o.op=.pick c x y):LOk P o E H k (Zu c x y o' E H k):=by
 unfold Zu;have hx:=A1 c E
 cases h1:lk c E with
 |none=>exact True.intro
 |some p=>
  rw[h1]at hx
  cases p with
  |bool b=>
   cases b with
   |true=>exact Ed fun r hr m=>G2 true ho hx.symm rfl (by rw[<-A1];exact hr)
   |false=>exact Ed fun r hr m=>Gf false ho hx.symm rfl (by rw[<-A1];exact hr)
  |_=>exact True.intro
theorem Q5{x:Operand}{j:Nat}{o':Oper}(ho:o.op=.extract x j):LOk P o E H k (Mr x j o' E H k):=by
 unfold Mr;have hx:=A1 x E
 cases h1:lk x E with
 |none=>exact True.intro
 |some p=>
  rw[h1]at hx
  cases p with
  |tup vs=>exact Ed fun r hr m=>HE ho hx.symm (by rw[<-EY];exact hr)
  |_=>exact True.intro
theorem Xv{t:Nat}{x:Operand}{o':Oper}(ho:o.op=.unOp .not t x):LOk P o E H k (TJ t x o' E H k):=by
 unfold TJ;have hx:=A1 x E
 cases h1:lk x E with
 |none=>exact True.intro
 |some p=>
  rw[h1]at hx
  cases p with
  |bool b=>exact fun m=>by rw[L1];exact IZ ho hx.symm
  |_=>exact True.intro
end
noncomputable def sameP(x y:AV):Option Bool:=match x,y with
  | .int k a,.int k' b=>Bool.rec (motive:=fun _=>Option Bool) none (some (decide (a=b))) (Nat.beq (RB k) (RB k'))
  | .str a,.str b=>some (dK (sL a) (sL b))
  | .bool a,.bool b=>some (a==b)
  |_,_=>none
def GI(k:TK)(x:AV):Bool:=match k,x with
  | .int _,.int _ _=>true
  | .string,.str _=>true
  | .bool,.bool _=>true
  |_,_=>false
theorem SQ{k:TK}{x:AV}(h:GI k x=true):(∃K kk n,k=.int K/\x=.int kk n)\/(k=.string/\∃s,x=.str s)\/(k=.bool/\∃b,x=.bool b):=by
 unfold GI at h;split at h
 . exact .inl ⟨_,_,_,rfl,rfl⟩
 . exact .inr (.inl ⟨rfl,_,rfl⟩)
 . exact .inr (.inr ⟨rfl,_,rfl⟩)
 . cases h
theorem In{P:Program}{d:TypeDesc}{x:AV}(h:GI (Ff P d) x=true):(∃K kk n,d=.int K/\x=.int kk n)\/(d=.string/\∃s,x=.str s)\/(d=.bool/\∃b,x=.bool b):=by
 rcases SQ h with⟨K,kk,n,h1,h2⟩|⟨h1,h2⟩|⟨h1,h2⟩
 . exact .inl ⟨K,kk,n,Ex (P:=P) h1,h2⟩
 . exact .inr (.inl ⟨CZ (P:=P) h1,h2⟩)
 . exact .inr (.inr ⟨KW (P:=P) h1,h2⟩)
theorem j5(a b:ByteArray):(a==b)=dK (sL a) (sL b):=by
 rw[Pr,Fg,Fg,Bool.eq_iff_iff,MapKept.bytes_beq,beq_iff_eq];exact⟨fun h=>by rw[h],fun h=>ByteArray.ext (Array.ext' h)⟩
theorem Sj{P:Program}{H:Aq}{ι ι':AL}{x y:AV}{u v:Value}{d:TypeDesc}{b:Bool}(hx:Rel H ι x u)(hy:Rel H ι' y v)(hk:GI (Ff P d) x=true)(h:sameP x y=some b):
 Instr.sameNow d u v=some b/\(b=true->Instr.sameBits 10000 v u=true):=by
 rcases In hk with⟨K,kk,n,rfl,rfl⟩|⟨rfl,s,rfl⟩|⟨rfl,c,rfl⟩
 . cases y with
   |int k' m=>
    have h:Bool.rec (motive:=fun _=>Option Bool) none (some (decide (n=m))) (Nat.beq (RB kk) (RB k'))=some b:=h
    cases e:Nat.beq (RB kk) (RB k')with
    |false=>rw[e]at h;cases h
    |true=>
     have:=Uo e;subst this;obtain rfl:=hx.int_inv;obtain rfl:=hy.int_inv;have e':Nat.beq (RB kk) (RB kk)=true:=Nat.beq_refl _;rw[e']at h
     cases h
     refine⟨by simp only[Instr.sameNow,if_pos];rfl,fun hb=>?_⟩;rw[of_decide_eq_true hb,Instr.sameBits]
     simp
   |_=>cases h
 . cases y with
   |str t=>
    obtain rfl:=hx.str_inv;obtain rfl:=hy.str_inv;have h:some (dK (sL s) (sL t))=some b:=h;rw[<-j5]at h
    cases h
    refine⟨rfl,fun hb=>?_⟩;rw[(MapKept.bytes_beq s t).1 hb,Instr.sameBits];exact(MapKept.bytes_beq t t).2 rfl
   |_=>cases h
 . cases y with
   |bool t=>
    obtain rfl:=hx.bool_inv;obtain rfl:=hy.bool_inv
    cases h
    refine⟨rfl,fun hb=>?_⟩;rw[beq_iff_eq.1 hb,Instr.sameBits]
    simp
   |_=>cases h
noncomputable def vu(o:Option (Option (Nat×AV))):Option (Option (Nat×AV)):=o.map fun r=>r.map fun p=>(Nat.succ p.1,p.2)
noncomputable def findP(z:AV)(m:List (AV×AV)):Option (Option (Nat×AV)):=List.rec (motive:=fun _=>Option (Option (Nat×AV))) (some none)
  (fun p _ ih=>Option.rec (motive:=fun _=>Option (Option (Nat×AV))) none (fun b=>Bool.rec (motive:=fun _=>Option (Option (Nat×AV))) (vu ih) (some (some (0,p.2))) b) (sameP z p.1)) m
theorem It{P:Program}{H:Aq}{ι:AL}{z:AV}{zv:Value}{d:TypeDesc}(hz:Rel H ι z zv)(hk:GI (Ff P d) z=true):∀{m:List (AV×AV)} {es:List MapEntry} {r:Option (Nat×AV)},m.length=es.length->
 (∀(j:Nat) (k v:AV),m[j]?=some (k,v)->∃e,es[j]?=some e/\Rel H AE k e.key/\Rel H AE v e.val)->findP z m=some r->∀i,∃r',Instr.findNow d zv es i=some r'/\
  ((r=none/\r'=none)\/∃j v e,r=some (j,v)/\r'=some (i+j,e.val)/\es[j]?=some e/\Rel H AE v e.val/\Instr.sameBits 10000 e.key zv=true)
 | [],[],r,_,_,h=>fun i=>by cases h;exact⟨none,rfl,.inl ⟨rfl,rfl⟩⟩
 | [],_::_,_,hl,_,_=>by cases hl
 |_::_,[],_,hl,_,_=>by cases hl
 |(k,v)::m,e::es,r,hl,hr,h=>fun i=>by
  obtain⟨e',g1,g2,g3⟩:=hr 0 k v rfl
  cases g1
  have h:Option.rec (motive:=fun _=>Option (Option (Nat×AV))) none (fun b=>Bool.rec (motive:=fun _=>Option (Option (Nat×AV))) (vu (findP z m)) (some (some (0,v))) b) (sameP z k)=some r:=h
  cases c:sameP z k with
  |none=>rw[c]at h;cases h
  |some b=>
   rw[c]at h;obtain⟨s1,s2⟩:=Sj (P:=P) hz g2 hk c
   cases b with
   |true=>
    cases h
    exact⟨some (i,e.val),by simp[Instr.findNow,s1],.inr ⟨0,v,e,rfl,rfl,rfl,g3,s2 rfl⟩⟩
   |false=>
    have h:vu (findP z m)=some r:=h;unfold vu at h
    cases cf:findP z m with
    |none=>rw[cf]at h;cases h
    |some r0=>
     rw[cf]at h;obtain⟨r',f1,f2⟩:=It hz hk (by simpa using hl) (fun j k u hj=>hr (j+1) k u (by simpa using hj)) cf (i+1);refine⟨r',by simp[Instr.findNow,s1,f1],?_⟩;rcases f2 with⟨rfl,rfl⟩|⟨j,u,en,rfl,rfl,k3,k4,k5⟩
     . cases h;exact .inl ⟨rfl,rfl⟩
     . cases h;exact .inr ⟨j+1,u,en,rfl,by congr 2;omega,by simpa using k3,k4,k5⟩
noncomputable def tT(z q:AV)(m:List (AV×AV))(r:Option (Nat×AV)):List (AV×AV):=match r with
  |none=>m++[(z,q)]
  |some (j,_)=>m.set j (z,q)
noncomputable def vx(x:AV):Bool:=match x with
  | .fn _ [] []=>true
  |x=>x.isPure
theorem jc{H:Aq}{ι ι':AL}{x:AV}{v:Value}(hp:vx x=true)(h:Rel H ι x v):Rel H ι' x v:=by
 unfold vx at hp;split at hp
 . obtain⟨us,vs,rfl,h1,h2,h3,h4⟩:=h.fn_inv;exact .fn _ _ _ _ _ _ h1 h2 (fun j x v e=>by simp at e) (fun j x v e=>by simp at e)
 . exact DE hp h
theorem Gb{P:Program}{w:World}{kt:TypeId}{d:TypeDesc}{z:AV}(hd:P.underlying kt=some d)(hk:GI (Ff P d) z=true)(em:Bool)(v:Value):(Instr.checkKey em 10000 kt v).run P w=.ok () w:=by
 rw[Instr.checkKey];rcases In hk with⟨K,kk,n,rfl,rfl⟩|⟨rfl,s,rfl⟩|⟨rfl,c,rfl⟩<;>simp[Aj hd]
theorem HA{P:Program}{w:World}{kt:TypeId}{d:TypeDesc}(hd:P.underlying kt=some d){v:Value}{es:List MapEntry}{r:Option (Nat×Value)}(h:Instr.findNow d v es 0=some r):(Instr.findKey kt v es).run P w=.ok r w:=by
 simp[Instr.findKey,Aj hd,h]
noncomputable def dz(ok:Bool)(z0:AV)(r:Option (Nat×AV)):AV:=match ok,r with
  |true,none=>.tup [z0,.bool false]
  |true,some (_,v)=>.tup [v,.bool true]
  |false,none=>z0
  |false,some (_,v)=>v
section
variable {P : Program} {T : Nat -> Option Ae} {o : Oper} {e : Ar} {h : Aa}
theorem Kz(hT:Bc P T){t kt et:TypeId}{x y:Operand}{ok:Bool}{z:AV}{m:List (AV×AV)}{i j:Ae}{zv:Value}{z0:AV}{r:Option (Nat×AV)}{H:Aq}{ι:AL}{a:Act}{w:World}{s:Ac}(ho:o.op=.lookup t x y ok)(hs:Sim H ι s a w)(hy':look s.env y=some z)
 (es:Array MapEntry) (hvx:a.eval x=.map none/\es= #[]\/∃rb clk,a.eval x=.map (some rb)/\w.heap[rb]?=some (.map es clk)) (r4:Hb H m es)
 (hi:T t=some i) (hk:i.k=.map kt et) (hj:T kt=some j) (hjk:GI j.k z=true) (hf:findP z m=some r) (hz:(P.info? et).bind (·.zero)=some zv) (hz0:EJ zv=some z0):∃v,Rel H ι (dz ok z0 r) v/\(execOp a.eval o).run P w=.ok (.value v) w:=by
 obtain⟨info,d,e1,e2,e3,e4,e5,e6⟩:=Af (hT _ _ hi);obtain⟨info',d',e1',e2',e3',e4',e5',e6'⟩:=Af (hT _ _ hj);have hd:=GQ (P:=P) (d:=d) (e3▸hk);subst hd;rw[e3']at hjk;have hvy:=Ai hs hy';obtain⟨rr,f1,f2⟩:=It (P:=P) hvy hjk (m:=m) (es:=es.toList) (by simpa using r4.1) (fun j k v hj=>by
  obtain⟨e,g1,g2⟩:=r4.2 j k v hj;exact⟨e,by simpa using g1,g2⟩) hf 0
 have hzero:(zeroValue et).run P w=.ok zv w:=by
  exact gR
 have hrun:(execOp a.eval o).run P w=.ok (.value (match ok,rr with
  |true,none=>.tuple #[zv,.bool false]
  |true,some (_,v)=>.tuple #[v,.bool true]
  |false,none=>zv
  |false,some (_,v)=>v)) w:=by
  rcases hvx with⟨hvx,rfl⟩|⟨rb,clk,hvx,r3⟩
  . rcases f2 with⟨rfl,rfl⟩|⟨p,v,en,rfl,rfl,g3,g4,g5⟩<;>cases ok<;>simp[execOp,ho,Instr.lookup,hvx,Aj e2,Gb e2' hjk,HA e2' f1,hzero]
  . rcases f2 with⟨rfl,rfl⟩|⟨p,v,en,rfl,rfl,g3,g4,g5⟩<;>cases ok<;>simp[execOp,ho,Instr.lookup,hvx,Aj e2,MapKept.run_getObj_map r3,Gb e2' hjk,HA e2' f1,hzero]
 refine⟨_,?_,hrun⟩;rcases f2 with⟨rfl,rfl⟩|⟨p,v,en,rfl,rfl,g3,g4,g5⟩
 . cases ok with
   |true=>
    refine .tup _ _ _ rfl fun q x u hq hu=>?_
    match q,hq,hu with
    |0,hq,hu=>simp at hq hu;subst hq;subst hu;exact Hm hz0
    |1,hq,hu=>simp at hq hu;subst hq;subst hu;exact .bool _ _
    |q+2,hq,hu=>simp at hq
   |false=>exact Hm hz0
 . cases ok with
   |true=>
    refine .tup _ _ _ rfl fun q x u hq hu=>?_
    match q,hq,hu with
    |0,hq,hu=>simp at hq hu;subst hq;subst hu;exact g4.mono (KLe.refl _) (LLe.none _)
    |1,hq,hu=>simp at hq hu;subst hq;subst hu;exact .bool _ _
    |q+2,hq,hu=>simp at hq
   |false=>exact g4.mono (KLe.refl _) (LLe.none _)
theorem Vr(hT:Bc P T){t kt et:TypeId}{x y:Operand}{ok:Bool}{b:Nat}{z:AV}{m:List (AV×AV)}{i j:Ae}{zv:Value}{z0:AV}{r:Option (Nat×AV)}(ho:o.op=.lookup t x y ok)(hx:look e x=some (.map b))(hy:look e y=some z)(hb:h b=some (.map m))
 (hi:T t=some i) (hk:i.k=.map kt et) (hj:T kt=some j) (hjk:GI j.k z=true) (hf:findP z m=some r) (hz:(P.info? et).bind (·.zero)=some zv) (hz0:EJ zv=some z0):QLoc P o e h [b] (dz ok z0 r):=by
 intro H ι a w s hs h1 h2;have hx':look s.env x=some (.map b):=by rw[h1 x Bg,hx]
 have hy':look s.env y=some z:=by rw[h1 y Bg,hy]
 have hb':s.h b=some (.map m):=by rw[h2 b Az,hb]
 obtain⟨q,hr,hr0,hvx⟩:=(Ai hs hx').map_inv;obtain⟨r',hl,⟨r1,r2,es,clk,r3,r4,r6⟩,r5⟩:=hs.heap.obj b _ hb' rfl;rw[hr]at hl;cases hl;exact Kz hT ho hs hy' es (.inr ⟨_,clk,hvx,r3⟩) r4 hi hk hj hjk hf hz hz0
theorem Vs(hT:Bc P T){t kt et:TypeId}{x y:Operand}{ok:Bool}{z:AV}{i j:Ae}{zv:Value}{z0:AV}{r:Option (Nat×AV)}(ho:o.op=.lookup t x y ok)(hx:look e x=some (.val (.map none)))(hy:look e y=some z)
 (hi:T t=some i) (hk:i.k=.map kt et) (hj:T kt=some j) (hjk:GI j.k z=true) (hf:findP z []=some r) (hz:(P.info? et).bind (·.zero)=some zv) (hz0:EJ zv=some z0):QLoc P o e h [] (dz ok z0 r):=by
 intro H ι a w s hs h1 h2;have hx':look s.env x=some (.val (.map none)):=by rw[h1 x Bg,hx]
 have hy':look s.env y=some z:=by rw[h1 y Bg,hy]
 have hvx:a.eval x=.map none:=by
  have:=Ai hs hx';generalize a.eval x=va at this
  cases this;rfl
 exact Kz hT ho hs hy' #[] (.inl ⟨hvx,rfl⟩) ⟨rfl,fun j k v hj=>by simp at hj⟩ hi hk hj hjk hf hz hz0
theorem Mb{H:Aq}{ι:AL}{s:Ac}{a:Act}{w:World}(hs:Sim H ι s a w){b:Nat}{m m':List (AV×AV)}{r:Ent}{es es':Array MapEntry}{clk clk':Nat}(hb:s.h b=some (.map m))(hr:ι b=some r)(r1:r.sz=0)(r2:r.solid)
 (r3:w.heap[r.rb]?=some (.map es clk)) (hm:Hb H m' es') (hbo:BornOk clk' (es'.toList.map (·.born))):
 HeapRel H ι (Al s.h b (.map m')) {w with heap:=w.heap.setIfInBounds r.rb (.map es' clk')}/\Step H ι s.h w H ι (Al s.h b (.map m')) {w with heap:=w.heap.setIfInBounds r.rb (.map es' clk')}:=by
 have hlt:r.rb<w.heap.size:=(Array.getElem?_eq_some_iff.1 r3).1;have:=hs.heap.upd (o':=.map m') (r':=r) (w':={w with heap:=w.heap.setIfInBounds r.rb (.map es' clk')}) hb rfl (.inr ⟨r,hr,rfl,.inl rfl⟩) (fun _=>.inr ⟨r,hr,rfl,r2,rfl⟩)
  (fun rb _ hne=>by
   have:rb≠r.rb:=hne r hr rfl r2;simp[Array.getElem?_setIfInBounds_ne (Ne.symm this)]) Az rfl rfl
  ⟨r1,r2,es',clk',by simp[hlt],hm,hbo⟩
 rwa[show Cv ι b r=ι from by
  funext c
  by_cases hc:c=b
  . subst hc;rw[AO,hr]
  . rw[B8 _ _ hc]]at this
theorem Sk{P:Program}{w:World}{u v:Value}(h:Instr.sameBits 10000 u v=true):(Instr.keyThatStays u v).run P w=.ok v w:=by
 unfold Instr.keyThatStays;rw[if_pos h];rfl
theorem O1(hT:Bc P T){t kt et:TypeId}{x y u:Operand}{b:Nat}{z q:AV}{m:List (AV×AV)}{i j:Ae}{r:Option (Nat×AV)}(ho:o.op=.mapUpdate t x y u\/o.op=.insert t x y u)(hd:o.dst=none)(hx:look e x=some (.map b))(hy:look e y=some z)(hu:look e u=some q)(hp:vx q=true)
 (hb:h b=some (.map m)) (hi:T t=some i) (hk:i.k=.map kt et) (hj:T kt=some j) (hjk:GI j.k z=true) (hf:findP z m=some r):OLoc P o e h [b] [(b,.map (tT z q m r))] none:=by
 intro H ι a w s Q hs h1 h2;have hx':look s.env x=some (.map b):=by rw[h1 x bd,hx]
 have hy':look s.env y=some z:=by rw[h1 y bd,hy]
 have hu':look s.env u=some q:=by rw[h1 u bd,hu]
 have hb':s.h b=some (.map m):=by rw[h2 b Az,hb]
 obtain⟨info,d,e1,e2,e3,e4,e5,e6⟩:=Af (hT _ _ hi);obtain⟨info',d',e1',e2',e3',e4',e5',e6'⟩:=Af (hT _ _ hj);have hd1:=GQ (P:=P) (d:=d) (e3▸hk);subst hd1;rw[e3']at hjk;have hvy:=Ai hs hy';have hvz:Rel H AE z (a.eval y):=by
  rcases In hjk with⟨K,kk,n,_,rfl⟩|⟨_,s',rfl⟩|⟨_,c,rfl⟩<;>exact DE rfl hvy
 obtain⟨rr,hr,hr0,hvx⟩:=(Ai hs hx').map_inv;obtain⟨r',hl,⟨r1,r2,es,clk,r3,r4,r6⟩,r5⟩:=hs.heap.obj b _ hb' rfl;rw[hr]at hl;cases hl;have hrv:=jc (ι':=AE) hp (Ai hs hu');obtain⟨rr',f1,f2⟩:=It (P:=P) hvy hjk (m:=m) (es:=es.toList) (by simpa using r4.1) (fun j k v hj=>by
  obtain⟨e,g1,g2⟩:=r4.2 j k v hj;exact⟨e,by simpa using g1,g2⟩) hf 0
 unfold Oper.wp;rcases f2 with⟨rfl,rfl⟩|⟨p,v,en,rfl,rfl,g3,g4,g5⟩
 . have hrun:(execOp a.eval o).run P w=.ok .skip {w with heap:=w.heap.setIfInBounds rr.rb (.map (es.push {key:=a.eval y,val:=a.eval u,born:=clk}) (clk+1))}:=by
    rcases ho with ho|ho<;>simp[execOp,ho,Instr.mapUpdate,hvx,Aj e2,MapKept.run_getObj_map r3,Gb e2' hjk,HA e2' f1,MapKept.run_setObj_map _ r3]
   rw[hrun];obtain⟨u1,u2⟩:=Mb hs (es':=es.push {key:=a.eval y,val:=a.eval u,born:=clk}) (clk':=clk+1) hb' hr r1 r2 r3 (m':=m++[(z,q)]) ⟨by simp[r4.1],fun j k v hj=>by
    by_cases hlt:j<m.length
    . rw[List.getElem?_append_left hlt]at hj;obtain⟨e,g1,g2⟩:=r4.2 j k v hj;have:j<es.size:=(Array.getElem?_eq_some_iff.1 g1).1;exact⟨e,by rw[Array.getElem?_push_lt this,<-g1,Array.getElem?_eq_getElem this],g2⟩
    . rw[List.getElem?_append_right Ab]at hj
      cases hq:j-m.length with
      |zero=>
       rw[hq]at hj;simp at hj;obtain⟨rfl,rfl⟩:=hj;have:j=es.size:=by have:=r4.1;omega
       subst this;exact⟨_,Array.getElem?_push_size,hvz,hrv⟩
      |succ c=>rw[hq]at hj;simp at hj⟩ g8
   exact UI
 . have g3':es[p]?=some en:=by simpa using g3
   have hrun:(execOp a.eval o).run P w=.ok .skip {w with heap:=w.heap.setIfInBounds rr.rb (.map (es.modify p fun e=>{e with key:=a.eval y,val:=a.eval u}) clk)}:=by
    rcases ho with ho|ho<;>simp[execOp,ho,Instr.mapUpdate,hvx,Aj e2,MapKept.run_getObj_map r3,Gb e2' hjk,HA e2' f1,MapKept.run_setObj_map _ r3,g3',Sk g5]
   rw[hrun];obtain⟨u1,u2⟩:=Mb hs (es':=es.modify p fun e=>{e with key:=a.eval y,val:=a.eval u}) (clk':=clk) hb' hr r1 r2 r3 (m':=m.set p (z,q)) ⟨by simp[r4.1],fun j k v' hj=>by
    rw[List.getElem?_set]at hj
    by_cases hpj:p=j
    . subst hpj;rw[if_pos rfl]at hj;split at hj
      . cases hj
        exact⟨{en with key:=a.eval y,val:=a.eval u},by rw[Array.getElem?_modify,if_pos rfl,g3'];rfl,hvz,hrv⟩
      . cases hj
    . rw[if_neg hpj]at hj;obtain⟨e,g1,g2⟩:=r4.2 j k v' hj;exact⟨e,by rw[Array.getElem?_modify,if_neg hpj];exact g1,g2⟩⟩ (by rw[Hp];exact r6)
   exact UI
end
noncomputable def QL(P:Program)(t:Nat)(z:AV):Option (Nat×AV):=match TI t with
  |some i=>match i.k with
    | .map kt et=>match TI kt with
      |some j=>match GI j.k z with
        |true=>match(P.info? et).bind (·.zero)with
          |some zv=>(EJ zv).map fun z0=>(et,z0)
          |none=>none
        |false=>none
      |none=>none
    |_=>none
  |none=>none
theorem Ik{P:Program}{t et:Nat}{z z0:AV}(h:QL P t z=some (et,z0)):∃i kt j zv,TI t=some i/\i.k=.map kt et/\TI kt=some j/\GI j.k z=true/\(P.info? et).bind (·.zero)=some zv/\EJ zv=some z0:=by
 unfold QL at h;split at h
 . rename_i i hi;split at h
   . rename_i kt et' hk;split at h
     . rename_i j hj;split at h
       . rename_i hkk;split at h
         . rename_i zv hz;simp only[Option.map_eq_some_iff,Prod.mk.injEq]at h;obtain⟨z1,h1,rfl,rfl⟩:=h;exact⟨i,kt,j,zv,hi,hk,hj,hkk,hz,h1⟩
         . cases h
       . cases h
     . cases h
   . cases h
 . cases h
noncomputable def O6(b:List Nat)(ok:Bool)(z0:AV)(r:Option (Option (Nat×AV))):LR:=match r with
  |some r=>.val b (dz ok z0 r)
  |none=>.no
noncomputable def O5(P:Program)(t:Nat)(x y:Operand)(ok:Bool)(E:TE)(H:TH)(k:Nat):LR:=match lk x E,lk y E with
  |some (.map b),some z=>match rwAt H k b,QL P t z with
    |some (.map m),some (_,z0)=>O6 [b] ok z0 (findP z m)
    |_,_=>.no
  |some (.val (.map none)),some z=>match QL P t z with
    |some (_,z0)=>O6 [] ok z0 (findP z [])
    |none=>.no
  |_,_=>.no
noncomputable def cJ(P:Program)(t:Nat)(x y u:Operand)(d:Option Nat)(E:TE)(H:TH)(k:Nat):LR:=match d,lk x E,lk y E,lk u E with
  |none,some (.map b),some z,some q=>match rwAt H k b,QL P t z,vx q with
    |some (.map m),some (_,_),true=>match findP z m with
      |some r=>.upd [] b (.map (tT z q m r)) none
      |none=>.no
    |_,_,_=>.no
  |_,_,_,_=>.no
section
variable {P : Program} {o : Oper} {E : TE} {H : TH} {k : Nat} (hT : Bc P TI)
include hT
theorem SD{t:Nat}{x y:Operand}{ok:Bool}(ho:o.op=.lookup t x y ok):LOk P o E H k (O5 P t x y ok E H k):=by
 unfold O5;split
 . rename_i b z hx hy;rw[A1]at hx hy;split
   . rename_i m et z0 hb hm;obtain⟨i,kt,j,zv,a1,a2,a3,a4,a5,a6⟩:=Ik hm;unfold O6;split
     . rename_i r hf;exact fun m'=>Vr hT ho hx hy ((Eg hb).2 m') a1 a2 a3 a4 hf a5 a6
     . exact True.intro
   . exact True.intro
 . rename_i z hx hy;rw[A1]at hx hy;split
   . rename_i et z0 hm;obtain⟨i,kt,j,zv,a1,a2,a3,a4,a5,a6⟩:=Ik hm;unfold O6;split
     . rename_i r hf;exact fun m'=>Vs hT ho hx hy a1 a2 a3 a4 hf a5 a6
     . exact True.intro
   . exact True.intro
 . exact True.intro
theorem Uf{t:Nat}{x y u:Operand}(ho:o.op=.mapUpdate t x y u\/o.op=.insert t x y u):LOk P o E H k (cJ P t x y u o.dst E H k):=by
 unfold cJ;split
 . rename_i b z q hd hx hy hu;rw[A1]at hx hy hu;split
   . rename_i m et z0 hb hm hq;obtain⟨i,kt,j,zv,a1,a2,a3,a4,a5,a6⟩:=Ik hm;split
     . rename_i r hf;exact⟨(Eg hb).1,fun m'=>O1 hT ho hd hx hy hu hq ((Eg hb).2 m') a1 a2 a3 a4 hf⟩
     . exact True.intro
   . exact True.intro
 . exact True.intro
end
noncomputable def YI(P:Program)(t:Nat)(x:Operand)(E:TE):LR:=match P.underlying t,lk x E with
  |some (.interface _),some (.val .nilIface)=>vB true
  |some (.interface _),some (.val (.iface _ _))=>vB false
  |_,_=>.no
theorem YH{P:Program}{o:Oper}{E:TE}{H:TH}{k:Nat}{t t':TypeId}{x:Operand}(ho:o.op=.binOp .eql t x (.const .nilIface) t'):LOk P o E H k (YI P t x E):=by
 unfold YI;split
 . rename_i ms hu hx;rw[A1]at hx;exact fun m=>T5 hu (.inl ⟨rfl,rfl⟩) ho hx
 . rename_i ms t1 u1 hu hx;rw[A1]at hx;exact fun m=>T5 hu (.inr ⟨⟨_,_,rfl⟩,rfl⟩) ho hx
 . exact True.intro
noncomputable def jf(args:List Operand)(tys:List Nat)(E:TE):LR:=match args,tys with
  | [x,y],[_,_]=>match lk x E,lk y E with
    |some (.int k m),some (.int _ n)=>.val [] (.int k (max m n))
    |_,_=>.no
  |_,_=>.no
theorem cK{P:Program}{o:Oper}{E:TE}{H:TH}{k:Nat}{args:Array Operand}{tys:Array TypeId}(ho:o.op=.call {callee:=.builtin .max,args:=args,argTypes:=tys}):LOk P o E H k (jf args.toList tys.toList E):=by
 unfold jf;split
 . rename_i x y t t' ha ht;rw[El ha,El ht]at ho;split
   . rename_i kk m k' n hx hy;rw[A1]at hx hy;exact fun m=>t8 ho hx hy
   . exact True.intro
 . exact True.intro
section
variable {P : Program} {T : Nat -> Option Ae} {o : Oper} {e : Ar} {h : Aa}
theorem cB(hT:Bc P T){t t':TypeId}{x y:Operand}{i i' j:Ae}{u u':Nat}{b n:Nat}{p:Bool}{sz:Nat}{es es2:List (List AV)}{q:AV}{R:List Nat}
 (ho:o.op=.call {callee:=.builtin .copy,args:= #[x,y],argTypes:= #[t,t']}) (hx:look e x=some (.ref b n 0 n)) (hy:look e y=some q) (hi:T t=some i) (hk:i.k=.slice u) (hj:T u=some j) (hi':T t'=some i') (hk':i'.k=.slice u')
 (hb:h b=some (.row p sz es)) (hn:n=es.length) (hsz:sz=j.size) (hsrc:SrcOf h q R es2) (hu2:∀cs∈es2,cs.length=sz) (hpure:p=true->∀cs∈es2,cs.all AV.isPure1=true) (hm:es2.length=n) (h0:0<n):
 OLoc P o e h (b::R) [(b,.row p sz es2)] (some (.int .i64 n)):=by
 intro H ι a w s Q hs g1 g2;have hx':look s.env x=some (.ref b n 0 n):=by rw[g1 x Fv,hx]
 have hy':look s.env y=some q:=by rw[g1 y Fv,hy]
 have hb':s.h b=some (.row p sz es):=by rw[g2 b Az,hb]
 have hsrc':=hsrc.agree (h':=s.h) (fun c hc=>g2 c (by simp[hc]));obtain⟨info,d,e1,e2,e3,e4,e5,e6⟩:=Af (hT _ _ hi);obtain⟨infou,du,f1,f2,f3,f4,f5,f6⟩:=Af (hT _ _ hj);obtain⟨info',d',e1',e2',e3',e4',e5',e6'⟩:=Af (hT _ _ hi');have hd:=A0 (P:=P) (d:=d) (e3▸hk);subst hd;have hd':=A0 (P:=P) (d:=d') (e3'▸hk');subst hd';subst hsz;subst hn;obtain⟨r,hl,⟨r1,r2,r3,r4,r5,r6⟩,r7⟩:=hs.heap.obj b _ hb' rfl;have hp:0<j.size:=r2;have hsol:r.csz≠0:=by
  have:=Nat.mul_pos h0 hp;omega
 have hvx:=Ai hs hx';have hvy:=Ai hs hy';generalize hva:a.eval x=va at hvx;generalize hvb:a.eval y=vb at hvy;obtain⟨news,hsrcw,hnews⟩:=JN hs.heap hsrc' hvy e2' hp hu2 w rfl;rw[<-f4]at hsrcw;have hnl:news.length=es2.length*j.size:=by rw[hsrcw.newsLen,f4]
 obtain⟨hlen,cap,hvv,hlc,hcap,hmax⟩:=hvx.ref_live hl Ab hsol;obtain⟨c,TT,w1,w2,w3⟩:=r6 hsol;simp only[Nat.zero_mul,Nat.zero_add]at hcap hvv;have hcs:c.size=cap*j.size:=by rw[w2,<-hcap,r1]
 have hfit:0+0+news.length<=c.size:=by rw[hnl,hcs,hm];have:=Nat.mul_le_mul_right j.size hlc;omega
 have hst:=CP P r.rb 0 TT news 0 c w w1 hfit hsrcw.one;generalize hC:(c.toList.take (0+0)++news++c.toList.drop (0+0+news.length)).toArray=C at hst;have hCs:C.size=c.size:=by rw[<-hC];simp;omega
 have hCg:∀k,k<([]:List Value).length+news.length->C[k]?=(([]:List Value)++news)[k]?:=fun k hk=>by
  rw[<-hC];simp only[List.getElem?_toArray,Nat.zero_add,List.take_zero,List.nil_append];rw[List.getElem?_append_left (by simpa using hk)]
 have hrow:rowCells H (bif p then AE else ι) j.size ([]++es2) C:=
  De (olds:=[]) Az hnl hu2 (fun i cs h=>by simp at h) (fun i cs k x h=>by simp at h) (fun i cs k y h1 h2=>by
   obtain⟨v,k1,k2,k3⟩:=hnews i cs k y h1 h2;refine⟨v,k1,?_,k3⟩
   cases p with
   |false=>exact k2
   |true=>exact B3 (List.all_eq_true.1 (hpure rfl cs (List.mem_of_getElem? h1)) y (List.mem_of_getElem? h2)) k2) hCg
 rw[List.nil_append]at hrow;obtain⟨u1,u2⟩:=hs.heap.upd (w':=w.setRow r.rb C) (o0:=.row p j.size es) (o':=.row p j.size es2) (r':=r) hb' rfl
  (.inr ⟨r,hl,rfl,.inl rfl⟩) (fun _=>.inr ⟨r,hl,rfl,hsol,rfl⟩)
  (fun rb hlt' hne=>setRow_other w r.rb rb _ (hne r hl rfl hsol)) Az (FL _ _ _) (EW _ _ _)
  ⟨r1,hp,by rw[hm];exact r3,by rw[hm];exact r4,hrow.1,fun _=>⟨C,TT,w1.setRow hCs,hCs.trans w2,by
   rw[show Cv ι b r=ι from by
    funext c
    by_cases hc:c=b
    . subst hc;rw[AO,hl]
    . rw[B8 _ _ hc]]
   exact hrow⟩⟩
 have hrun:(Builtin.copy_ #[t,t'] o.type #[va,vb]).run P w=.ok (.int .i64 es.length) (w.setRow r.rb C):=by
  rw[hvv];have h1:=hsrcw.len;have h2:=hsrcw.cells;rw[hm]at h1 h2;simp[Builtin.copy_,Aj e2,sizeOf,typeInfo,f1,h1,h2,hst,goInt]
 have hex:(execOp a.eval o).run P w=.ok (.value (.int .i64 es.length)) (w.setRow r.rb C):=by
  exact UJ
 unfold Oper.wp;rw[hex];exact⟨_,H,_,rfl,(fun x ex=>by cases ex;exact .int _ _ _),u1,u2⟩
end
noncomputable def ir(q:AV)(H:TH)(k:Nat):Option (List Nat×List (List AV)):=match q with
  | .lst _ es=>some ([],es)
  | .nil=>some ([],[])
  | .ref b n off len=>match rwAt H k b with
    |some (.row _ _ es)=>match Nat.beq n es.length with
      |true=>some ([b],(es.drop off).take len)
      |false=>none
    |_=>none
  |_=>none
theorem Vi{q:AV}{H:TH}{k:Nat}{R:List Nat}{es:List (List AV)}(e:ir q H k=some (R,es))(m:Nat):SrcOf (hF H k m) q R es:=by
 unfold ir at e;split at e
 . cases e;exact .lst _ _
 . cases e;exact .nil
 . split at e
   . rename_i hb;split at e
     . rename_i h1
       cases e
       exact .ref _ _ _ _ _ _ _ ((Eg hb).2 m) (Nat.eq_of_beq_eq_true h1)
     . cases e
   . cases e
 . cases e
noncomputable def Lv(t:Nat):Option (Nat×Ae):=match TI t with
  |some i=>match i.k with
    | .slice u=>match TI u with
      |some j=>some (u,j)
      |none=>none
    |_=>none
  |none=>none
theorem Dh{t u:Nat}{j:Ae}(h:Lv t=some (u,j)):∃i,TI t=some i/\i.k=.slice u/\TI u=some j:=by
 unfold Lv at h;split at h
 . rename_i i hi;split at h
   . rename_i u' hk;split at h
     . rename_i j' hj
       cases h
       exact⟨i,hi,hk,hj⟩
     . cases h
   . cases h
 . cases h
noncomputable def YK(args:List Operand)(tys:List Nat)(E:TE)(H:TH)(k:Nat):LR:=match args,tys with
  | [x,y],[t,t']=>match lk x E,lk y E,Lv t,Lv t' with
    |some (.ref b n 0 n'),some q,some (_,j),some _=>match rwAt H k b,ir q H k with
      |some (.row p sz es),some (R,es2)=>match Nat.beq n n'&&(Nat.beq n es.length&&(Nat.beq sz j.size&&(Nat.beq es2.length n&&(Nat.blt 0 n&&((es2.all fun cs=>Nat.beq cs.length sz)&&(bif p then es2.all fun cs=>cs.all AV.isPure1 else true))))))with
        |true=>.upd R b (.row p sz es2) (some (.int .i64 (.ofNat n)))
        |false=>.no
      |_,_=>.no
    |_,_,_,_=>.no
  |_,_=>.no
theorem YJ{P:Program}{o:Oper}{E:TE}{H:TH}{k:Nat}{args:Array Operand}{tys:Array TypeId}(hT:Bc P TI)(ho:o.op=.call {callee:=.builtin .copy,args:=args,argTypes:=tys}):LOk P o E H k (YK args.toList tys.toList E H k):=by
 unfold YK;split
 . rename_i x y t t' ha ht;rw[El ha,El ht]at ho;split
   . rename_i b n n' q u j p0 hx hy h1 h2;rw[A1]at hx hy;obtain⟨i,a1,a2,a3⟩:=Dh h1;obtain⟨i',b1,b2,b3⟩:=Dh (u:=p0.1) (j:=p0.2) h2;split
     . rename_i p sz es R es2 hb hs;split
       . rename_i hc;simp only[Bool.and_eq_true]at hc;obtain⟨c1,c2,c3,c4,c5,c6,c7⟩:=hc;obtain rfl:=Nat.eq_of_beq_eq_true c1;refine⟨(Eg hb).1,fun m=>cB hT ho hx hy a1 a2 a3 b1 b2 ((Eg hb).2 m) (Nat.eq_of_beq_eq_true c2) (Nat.eq_of_beq_eq_true c3) (Vi hs m) (fun cs h=>Nat.eq_of_beq_eq_true (List.all_eq_true.1 c6 cs h)) (fun hp=>?_) (Nat.eq_of_beq_eq_true c4) (Nat.blt_eq.mp c5)⟩;rw[hp]at c7;exact List.all_eq_true.1 c7
       . exact True.intro
     . exact True.intro
   . exact True.intro
 . exact True.intro
noncomputable def YG(t:Nat)(x:Operand)(E:TE)(H:TH)(k:Nat):LR:=match Lv t,lk x E with
  |some _,some .nil=>.val [] (.bool true)
  |some _,some (.lst _ (_::_))=>.val [] (.bool false)
  |some _,some (.ref b n _ _)=>match rwAt H k b with
    |some (.row _ _ es)=>match Nat.beq n es.length&&Nat.blt 0 n with
      |true=>.val [b] (.bool false)
      |false=>.no
    |_=>.no
  |_,_=>.no
theorem bM{P:Program}{T:Nat->Option Ae}{o:Oper}{e:Ar}{h:Aa}(hT:Bc P T){t t':TypeId}{x:Operand}{i:Ae}{u:Nat}{ex:Bool}{c:List AV}{es:List (List AV)}(ho:o.op=.binOp .eql t x (.const (.slice none 0 0)) t')(hx:look e x=some (.lst ex (c::es)))(ht:T t=some i)(hk:i.k=.slice u):QLoc P o e h [] (.bool false):=by
 intro H ι a w s hs g1 g2;have hx':look s.env x=some (.lst ex (c::es)):=by rw[g1 x Bg,hx]
 have hv:=Ai hs hx';generalize hva:a.eval x=va at hv;rcases hv.lst_inv with⟨h0,_⟩|⟨hne,b,off,cap,sz,cc,vals,rfl,_⟩
 . cases h0
 . exact⟨_,.bool _ _,HB hT ho ht hk a w hva⟩
theorem YF{P:Program}{o:Oper}{E:TE}{H:TH}{k:Nat}{t t':TypeId}{x:Operand}(hT:Bc P TI)(ho:o.op=.binOp .eql t x (.const (.slice none 0 0)) t'):LOk P o E H k (YG t x E H k):=by
 unfold YG;split
 . rename_i p hs hx;rw[A1]at hx;obtain⟨i,a1,a2,a3⟩:=Dh (u:=p.1) (j:=p.2) hs;exact fun m=>OS hT ho hx a1 a2
 . rename_i p ex c es hs hx;rw[A1]at hx;obtain⟨i,a1,a2,a3⟩:=Dh (u:=p.1) (j:=p.2) hs;exact fun m=>bM hT ho hx a1 a2
 . rename_i p b n off len hs hx;rw[A1]at hx;obtain⟨i,a1,a2,a3⟩:=Dh (u:=p.1) (j:=p.2) hs;split
   . rename_i pu sz es hb;split
     . rename_i hc;rw[Bool.and_eq_true]at hc;exact fun m=>T4 hT ho hx a1 a2 ((Eg hb).2 m) (Nat.eq_of_beq_eq_true hc.1) (Nat.blt_eq.mp hc.2)
     . exact True.intro
   . exact True.intro
 . exact True.intro
noncomputable def YM(args:List Operand)(tys:List Nat)(E:TE)(k:Nat):LR:=match args,tys with
  | [x,y],[t,t']=>match lk x E,lk y E,Lv t,Lv t' with
    |some (.lst true es),some (.lst _ (c::es2)),some (_,j),some _=>match Nat.beq j.zero.length j.size&&(Nat.blt 0 j.size&&((es.all fun cs=>Nat.beq cs.length j.size&&cs.all AV.isPure1)&&(((c::es2).all fun cs=>Nat.beq cs.length j.size&&cs.all AV.isPure1)&&(Nat.ble ((es.length+(c::es2).length)*j.bytes) 140737488355328&&Nat.ble (es.length+(c::es2).length) 4096))))with
      |true=>.new [] (.row true j.size (es++c::es2)) (.ref k (es++c::es2).length 0 (es++c::es2).length)
      |false=>.no
    |_,_,_,_=>.no
  |_,_=>.no
theorem YL{P:Program}{o:Oper}{E:TE}{H:TH}{k:Nat}{args:Array Operand}{tys:Array TypeId}(hT:Bc P TI)(ho:o.op=.call {callee:=.builtin .append,args:=args,argTypes:=tys}):LOk P o E H k (YM args.toList tys.toList E k):=by
 unfold YM;split
 . rename_i x y t t' ha ht;rw[El ha,El ht]at ho;split
   . rename_i es ex2 c es2 u j p0 hx hy h1 h2;rw[A1]at hx hy;obtain⟨i,a1,a2,a3⟩:=Dh h1;obtain⟨i',b1,b2,b3⟩:=Dh (u:=p0.1) (j:=p0.2) h2;split
     . rename_i hc;simp only[Bool.and_eq_true]at hc;obtain⟨c1,c2,c3,c4,c5,c6⟩:=hc;have hes:∀{l:List (List AV)},(l.all fun cs=>Nat.beq cs.length j.size&&cs.all AV.isPure1)=true->∀cs∈l,cs.length=j.size/\cs.all AV.isPure1=true:=fun hl cs hcs=>by
        have:=List.all_eq_true.1 hl cs hcs;rw[Bool.and_eq_true]at this;exact⟨Nat.eq_of_beq_eq_true this.1,this.2⟩
       intro m hm;have:=NV (f:=true) (sz:=j.size) (es:=es) (es2:=c::es2) (h:=hF H k m) hT k ho hx hy a1 a2 a3 b1 b2 (BM (Nat.le_refl _) hm) rfl (Nat.eq_of_beq_eq_true c1) (Nat.blt_eq.mp c2) (fun cs h=>(hes c3 cs h).1) (fun cs h=>(hes c3 cs h).2) (fun cs h=>(hes c4 cs h).1) (fun cs h=>(hes c4 cs h).2) (Nat.le_of_ble_eq_true c5) (by have:=Nat.le_of_ble_eq_true c6;simp only[maxLen];omega);exact this
     . exact True.intro
   . exact True.intro
 . exact True.intro
noncomputable def Y5(P:Program)(o:Oper)(E:TE)(H:TH)(k:Nat):LR:=match o.op with
  | .lookup t x y ok=>O5 P t x y ok E H k
  | .mapUpdate t x y u=>cJ P t x y u o.dst E H k
  | .insert t x y u=>cJ P t x y u o.dst E H k
  | .binOp .eql t x (.const .nilIface) _=>YI P t x E
  | .binOp .eql t x (.const (.slice none 0 0)) _=>YG t x E H k
  | .call ⟨.builtin .max,args,tys⟩=>jf args.toList tys.toList E
  | .call ⟨.builtin .copy,args,tys⟩=>YK args.toList tys.toList E H k
  |_=>.no
theorem Y4{P:Program}{o:Oper}{E:TE}{H:TH}{k:Nat}(hT:Bc P TI):LOk P o E H k (Y5 P o E H k):=by
 unfold Y5;split
 . exact SD hT BD
 . exact Uf hT (.inl BD)
 . exact Uf hT (.inr BD)
 . exact YH BD
 . exact YF hT BD
 . exact cK BD
 . exact YJ hT BD
 . exact True.intro
noncomputable def SO(P:Program)(o:Oper)(E:TE)(H:TH)(k:Nat):LR:=match o.op with
  | .call ⟨.builtin .append,args,tys⟩=>YM args.toList tys.toList E k
  |_=>.no
theorem VR{P:Program}{o:Oper}{E:TE}{H:TH}{k:Nat}(hT:Bc P TI):LOk P o E H k (SO P o E H k):=by
 unfold SO;split
 . exact YL hT BD
 . exact True.intro
section
variable {P : Program} {o : Oper} {e : Ar}
theorem OLoc.to{h h':Aa}{R R':List Nat}{W:List (Nat×AObj)}{r:Option AV}(hq:OLoc P o e h R W r)(hs:∀b∈R,b∈R'/\h b=h' b):OLoc P o e h' R' W r:=fun H ι a w s Q h1 h2 h3=>
 hq H ι a w s Q h1 h2 fun b hb=>(h3 b (hs b hb).1).trans (hs b hb).2.symm
theorem QLoc.to{h h':Aa}{R:List Nat}{r:AV}(hq:QLoc P o e h R r)(hs:∀b∈R,h b=h' b):QLoc P o e h' R r:=fun H ι a w s h1 h2 h3=>
 hq H ι a w s h1 h2 fun b hb=>(h3 b hb).trans (hs b hb).symm
end
noncomputable def uh(R:List Nat)(r:AV)(k:Nat):LR:=Bool.rec (motive:=fun _=>LR) .no (.val R r) (allF (fun b=>Nat.blt b k) R)
noncomputable def ug(x:Option WH)(k:Nat):LR:=match x with
  |some (R,[(b,ob)],r,k')=>match Nat.beq k' k,r with
    |true,r=>Bool.rec (motive:=fun _=>LR) .no (.upd R b ob r) (and3 (allF (fun b=>Nat.blt b k) R) (Nat.blt b k) true)
    |false,some r=>Bool.rec (motive:=fun _=>LR) .no (.new R ob r) (and3 (allF (fun b=>Nat.ble b k) R) (Nat.beq b k) (Nat.beq k' (Nat.succ k)))
    |false,none=>.no
  |_=>.no
noncomputable def ui(P:Program)(q:Option (List Nat×AV))(o:Oper)(E:TE)(H:TH)(k:Nat):LR:=match q with
  |some (R,r)=>uh R r k
  |none=>ug (ia P TI o.dst o.op (eF E) (hF H k (Nat.succ k)) k) k
noncomputable def Pa(P:Program)(o:Oper)(E:TE)(H:TH)(k:Nat):LR:=ui P (i4 P TI o.op (eF E) (hF H k (Nat.succ k))) o E H k
theorem Dt{α:Type}{p:α->Bool}{l:List α}(h:allF p l=true):∀x∈l,p x=true:=by
 rw[JC]at h;exact List.all_eq_true.1 h
section
variable {P : Program} {o : Oper} {E : TE} {H : TH} {k : Nat} (hT : Bc P TI)
include hT
theorem SP:LOk P o E H k (Pa P o E H k):=by
 unfold Pa ui;split
 . rename_i R r hq;unfold uh
   cases c:allF (fun b=>Nat.blt b k) R with
   |false=>exact True.intro
   |true=>
    intro m;refine QLoc.to (Vx hT hq) fun b hb=>?_
    have hlt:=Nat.blt_eq.mp (Dt c b hb);rw[Cp hlt,Cp hlt]
 . unfold ug;split
   . rename_i R b ob r k' hx;split
     . rename_i hk
       cases c:and3 (allF (fun b=>Nat.blt b k) R) (Nat.blt b k) true with
       |false=>exact True.intro
       |true=>
        obtain⟨c1,c2,_⟩:=Bq c;refine⟨Nat.blt_eq.mp c2,fun m=>?_⟩;refine OLoc.to (Nn hT hx) fun b' hb=>⟨List.mem_cons_of_mem _ hb,?_⟩
        have hlt:=Nat.blt_eq.mp (Dt c1 b' hb);rw[Cp hlt,Cp hlt]
     . rename_i r' hk
       cases c:and3 (allF (fun b=>Nat.ble b k) R) (Nat.beq b k) (Nat.beq k' (Nat.succ k))with
       |false=>exact True.intro
       |true=>
        obtain⟨c1,c2,_⟩:=Bq c;have hb:=Nat.eq_of_beq_eq_true c2;subst hb;intro m hm;refine OLoc.to (Nn hT hx) fun b' hb=>⟨List.mem_cons_of_mem _ hb,?_⟩
        have hle:=Nat.le_of_ble_eq_true (Dt c1 b' hb)
        by_cases h2:b'<b
        . rw[Cp h2,Cp h2]
        . rw[BM Ab Ab,BM Ab Ab]
     . exact True.intro
   . exact True.intro
end
noncomputable def xM(a b:LR):LR:=LR.rec (motive:=fun _=>LR) b (fun R r=>.val R r) (fun R ob r=>.new R ob r) (fun R b ob r=>.upd R b ob r) a
theorem Yp{P:Program}{o:Oper}{E:TE}{H:TH}{k:Nat}{a b:LR}(ha:LOk P o E H k a)(hb:LOk P o E H k b):LOk P o E H k (xM a b):=by
 cases a with
 |no=>exact hb
 |_=>exact ha
noncomputable def QR(P:Program)(o:Oper)(E:TE)(H:TH)(k:Nat):LR:=xM (Y5 P o E H k) (xM (Pa P o E H k) (SO P o E H k))
theorem Je{P:Program}{o:Oper}{E:TE}{H:TH}{k:Nat}(hT:Bc P TI):LOk P o E H k (QR P o E H k):=Yp (Y4 hT) (Yp (SP hT) (VR hT))
noncomputable def JV(P:Program)(lr:LR)(o:Oper)(E:TE)(H:TH)(k:Nat):LR:=LR.rec (motive:=fun _=>LR) (QR P o E H k) (fun R r=>.val R r) (fun R ob r=>.new R ob r) (fun R b ob r=>.upd R b ob r) lr
theorem FP{P:Program}{o:Oper}{E:TE}{H:TH}{k:Nat}(hT:Bc P TI){lr:LR}(h:LOk P o E H k lr):LOk P o E H k (JV P lr o E H k):=by
 cases lr with
 |no=>exact Je hT
 |_=>exact h
noncomputable def Tj(i:Ae)(k:Nat):LR:=Bool.rec (motive:=fun _=>LR) .no (.new [] (.row false i.size [i.zero]) (.ptr k 1 0 0)) (zeroOk i)
noncomputable def SY(t:Nat)(_:Oper)(_:TE)(_:TH)(k:Nat):LR:=Option.rec (motive:=fun _=>Nat->LR) (fun _=>.no) Tj (TI t) k
noncomputable def jU(x:AV):Bool:=match x with
  | .agg _=>false
  | .tup _=>false
  |_=>true
theorem WD(x:AV):jU x=x.cell1:=by cases x<;>rfl
noncomputable def E9(q:AV):List AV:=match q with
  | .agg cs=>cs
  |_=>[q]
theorem Js(x:AV):E9 x=x.cells:=by cases x<;>rfl
noncomputable def jV(vs:List AV)(k:Nat):LR:=Bool.rec (motive:=fun _=>LR) .no (.new [] (.row false (CT vs) [vs]) (.ptr k 1 0 0)) (and3 (Nat.blt 0 (CT vs)) (allF jU vs) true)
noncomputable def yl(p:AV)(k:Nat):LR:=jV (E9 p) k
noncomputable def jD(t:Nat)(x:Operand)(_:Oper)(E:TE)(_:TH)(k:Nat):LR:=Option.rec (motive:=fun _=>Nat->LR) (fun _=>.no) yl (lk x E) k
theorem UA(vs:List AV):allF jU vs=vs.all AV.cell1:=by
 rw[JC,show jU=AV.cell1 from funext WD]
section
variable {P : Program} {o : Oper} {E : TE} {H : TH} {k : Nat} (hT : Bc P TI)
include hT in
theorem Wd{t:Nat}{o':Oper}(ho:o.op=.alloc t):LOk P o E H k (SY t o' E H k):=by
 unfold SY
 cases h:TI t with
 |none=>exact True.intro
 |some i=>
  show LOk P o E H k (Tj i k);unfold Tj
  cases c:zeroOk i with
  |false=>exact True.intro
  |true=>
   obtain⟨z1,z2,z3⟩:=CI c;exact fun m hm=>Fj hT k ho h (BM (Nat.le_refl _) hm) z1 z2 z3
theorem dy{t:Nat}{x:Operand}{o':Oper}(ho:o.op=.box t x):LOk P o E H k (jD t x o' E H k):=by
 unfold jD;have hx:=A1 x E
 cases h:lk x E with
 |none=>exact True.intro
 |some p=>
  rw[h]at hx;show LOk P o E H k (jV (E9 p) k);unfold jV;rw[Js]
  cases c:and3 (Nat.blt 0 (CT p.cells)) (allF jU p.cells) true with
  |false=>exact True.intro
  |true=>
   obtain⟨c1,c2,_⟩:=Bq c;rw[UA]at c2;exact fun m hm=>YA k ho hx.symm (BM (Nat.le_refl _) hm) (A3 _).symm (Nat.blt_eq.mp c1) c2
end
noncomputable def K0(cs:List AV)(o:Nat)(vs:List AV):List AV:=Wy (P3 o cs) (Wy vs (Oj (Nat.add o (CT vs)) cs))
theorem Lu(cs:List AV)(o:Nat)(vs:List AV):K0 cs o vs=Cm cs o vs:=by
 unfold K0 Cm;rw[Ew,Ew,F9,Gu,A3,List.append_assoc];rfl
noncomputable def iw(a:List AV)(l:List (List AV)):Nat->List (List AV):=List.rec (motive:=fun _=>Nat->List (List AV)) (fun _=>[]) (fun x t ih n=>Nat.rec (motive:=fun _=>List (List AV)) (a::t) (fun m _=>x::ih m) n) l
theorem Qc(a:List AV):∀(l:List (List AV)) (n:Nat),iw a l n=l.set n a
 | [],n=>by simp;rfl
 |x::l,0=>rfl
 |x::l,n+1=>by rw[List.set_cons_succ,<-Qc a l n];rfl
noncomputable def yD(b k0 off:Nat)(p:Bool)(sz:Nat)(es:List (List AV))(vs:List AV)(row:Option (List AV)):LR:=Option.rec (motive:=fun _=>LR) .no (fun cs=>.upd [] b (.row p sz (iw (K0 cs off vs) es k0)) none) row
noncomputable def X6(p:Bool)(vs:List AV):Bool:=Bool.rec (motive:=fun _=>Bool) true (allF AV.isPure1 vs) p
noncomputable def xD(vs:List AV)(size b m k0 off:Nat)(p:Bool)(sz:Nat)(es:List (List AV)):LR:=
  Bool.rec (motive:=fun _=>LR) .no (yD b k0 off p sz es vs (nthF es k0)) (and3 (Nat.beq m (CT es)) (and3 (Nat.beq (CT vs) size) (Nat.ble (Nat.add off size) sz) (allF jU vs)) (X6 p vs))
noncomputable def st2(ob:AObj)(vs:List AV)(size b m k0 off:Nat):LR:=match ob with
  | .row p sz es=>xD vs size b m k0 off p sz es
  |_=>.no
noncomputable def y5(_:List AV)(_ _ _ _ _:Nat):LR:=.no
noncomputable def yB(ob:Option AObj):List AV->Nat->Nat->Nat->Nat->Nat->LR:=Option.rec (motive:=fun _=>List AV->Nat->Nat->Nat->Nat->Nat->LR) y5 st2 ob
noncomputable def st1(p:AV):List AV->Nat->TH->Nat->LR:=match p with
  | .ptr b m k0 off=>fun vs size H k=>yB (rwAt H k b) vs size b m k0 off
  |_=>fun _ _ _ _=>.no
noncomputable def y6(q:AV)(p:Option AV)(i:Ae)(H:TH)(k:Nat):LR:=Option.rec (motive:=fun _=>List AV->Nat->TH->Nat->LR) (fun _ _ _ _=>.no) st1 p (E9 q) i.size H k
noncomputable def yC(i:Ae)(q p:Option AV)(H:TH)(k:Nat):LR:=Option.rec (motive:=fun _=>Option AV->Ae->TH->Nat->LR) (fun _ _ _ _=>.no) y6 q p i H k
noncomputable def xC(t:Nat)(x y:Operand)(E:TE)(H:TH)(k:Nat):LR:=Option.rec (motive:=fun _=>Option AV->Option AV->TH->Nat->LR) (fun _ _ _ _=>.no) yC (TI t) (lk y E) (lk x E) H k
noncomputable def SW(t:Nat)(x y:Operand)(o:Oper)(E:TE)(H:TH)(k:Nat):LR:=Option.rec (motive:=fun _=>LR) (xC t x y E H k) (fun _=>.no) o.dst
section
variable {P : Program} {o : Oper} {E : TE} {H : TH} {k : Nat} (hT : Bc P TI)
include hT
theorem V9{t:Nat}{x y:Operand}(ho:o.op=.store t x y):LOk P o E H k (SW t x y o E H k):=by
 unfold SW
 cases hd:o.dst with
 |some d=>exact True.intro
 |none=>
  show LOk P o E H k (xC t x y E H k);unfold xC;have hx:=A1 x E;have hy:=A1 y E
  cases hi:TI t with
  |none=>exact True.intro
  |some i=>
   show LOk P o E H k (yC i (lk y E) (lk x E) H k)
   cases h2:lk y E with
   |none=>exact True.intro
   |some q=>
    cases h1:lk x E with
    |none=>exact True.intro
    |some p=>
     rw[h1]at hx;rw[h2]at hy;show LOk P o E H k (st1 p (E9 q) i.size H k)
     cases p with
     |ptr b m k0 off=>
      show LOk P o E H k (yB (rwAt H k b) (E9 q) i.size b m k0 off)
      cases hb:rwAt H k b with
      |none=>exact True.intro
      |some ob=>
       obtain⟨b1,b2⟩:=Eg hb
       cases ob with
       |row pu sz es=>
        show LOk P o E H k (xD (E9 q) i.size b m k0 off pu sz es);unfold xD
        cases c:and3 (Nat.beq m (CT es)) (and3 (Nat.beq (CT (E9 q)) i.size) (Nat.ble (Nat.add off i.size) sz) (allF jU (E9 q))) (X6 pu (E9 q))with
        |false=>exact True.intro
        |true=>
         show LOk P o E H k (yD b k0 off pu sz es (E9 q) (nthF es k0));obtain⟨c1,c2,c3⟩:=Bq c;obtain⟨c4,c5,c6⟩:=Bq c2
         cases hn:nthF es k0 with
         |none=>exact True.intro
         |some cs=>
          rw[Js]at c3 c4 c6|-;rw[EY]at hn;rw[UA]at c6;rw[A3]at c1 c4;show b<k/\∀m,OLoc P o (eF E) (hF H k m) (b::[]) [(b,.row pu sz (iw (K0 cs off q.cells) es k0))] none
          refine⟨b1,fun m'=>?_⟩;rw[Qc,Lu];refine Be hT ho hd hx.symm hy.symm hi (b2 m') (Nat.eq_of_beq_eq_true c1) hn (Nat.eq_of_beq_eq_true c4) (Nat.le_of_ble_eq_true c5) c6 (fun hp=>?_);subst hp;rw[<-JC];exact c3
       |_=>exact True.intro
     |_=>exact True.intro
end
section
variable {P : Program} {T : Nat -> Option Ae} {o : Oper} {e : Ar} {h : Aa}
theorem XX(hT:Bc P T){t:TypeId}{x:Operand}{lo hi:Option Operand}{z:ByteArray}{i:Ae}(l m:Nat)(ho:o.op=.slice t x lo hi none)(hx:look e x=some (.str z))(ht:T t=some i)(hk:i.k=.string)
 (hl:match lo with|none=>l=0|some y=>∃k,look e y=some (.int k (l:Int))) (hm:match hi with|none=>m=z.size|some y=>∃k,look e y=some (.int k (m:Int))) (hlm:l<=m) (hme:m<=z.size):QLoc P o e h [] (.str (z.extract l m)):=by
 intro H ι a w s hs g1 g2;have hx':look s.env x=some (.str z):=by rw[g1 x Bg,hx]
 have hvx:=(Ai hs hx').str_inv;obtain⟨info,d,e1,e2,e3,e4,e5,e6⟩:=Af (hT _ _ ht);have hd:=CZ (P:=P) (d:=d) (e3▸hk);subst hd;have hlo:(lo.map a.eval)=none/\l=0\/∃k,lo.map a.eval=some (.int k (l:Int)):=by
  exact eY
 have hhi:(hi.map a.eval)=none/\m=z.size\/∃k,hi.map a.eval=some (.int k (m:Int)):=by
  exact eX
 refine⟨_,.str _ _,?_⟩;simp only[execOp,ho,hvx,Instr.sliceAt,Instr.slice,Option.map_none,Sem.run_bind,Aj e2,Result.andThen_ok,Sem.run_pure];rcases hlo with⟨h1,h2⟩|⟨k1,h1⟩<;>rcases hhi with⟨h3,h4⟩|⟨k3,h3⟩<;>rw[h1,h3]<;>(try subst h2)<;>(try subst h4)<;>simp[Instr.sliceBounds,Instr.sliceBound,asIntOf,hlm,hme]
end
theorem S6(z:ByteArray)(l m:Nat):(⟨⟨P3 (Nat.sub m l) (Oj l z.data.toList)⟩⟩:ByteArray)=z.extract l m:=by
 apply ByteArray.ext;apply Array.ext';rw[F9,Gu];simp[ByteArray.data_extract]
noncomputable def isStr(t:Nat):Bool:=match TI t with
  |some i=>match i.k with
    | .string=>true
    |_=>false
  |none=>false
noncomputable def isSli(t:Nat):Bool:=match TI t with
  |some i=>match i.k with
    | .slice _=>true
    |_=>false
  |none=>false
noncomputable def vC(t:Nat):Nat:=match DM TI t with
  |some j=>j.size
  |none=>0
theorem Io{t:Nat}(h:isStr t=true):∃i,TI t=some i/\i.k=.string:=by
 unfold isStr at h;split at h
 . rename_i i hi;split at h
   . exact⟨i,hi,by assumption⟩
   . cases h
 . cases h
theorem SR{t:Nat}(h:isSli t=true):∃i u,TI t=some i/\i.k=.slice u:=by
 unfold isSli at h;split at h
 . rename_i i hi;split at h
   . exact⟨i,_,hi,by assumption⟩
   . cases h
 . cases h
theorem ZT{t sz:Nat}(h:Nat.beq sz (vC t)=true)(hp:0<sz):∃i j u,TI t=some i/\i.k=.slice u/\TI u=some j/\sz=j.size:=by
 have h:=Nat.eq_of_beq_eq_true h;unfold vC at h;split at h
 . rename_i j hj;obtain⟨i,u,a1,a2,a3⟩:=Bp hj;exact⟨i,j,u,a1,a2,a3,h⟩
 . omega
noncomputable def xY(t b m off len:Nat)(n sz:Nat)(es:List (List AV)):LR:=Bool.rec (motive:=fun _=>LR) .no (.val [b] (.ptr b m (Nat.add off n) 0)) (and3 (Nat.beq m (CT es)) (and3 (Nat.beq sz (vC t)) (Nat.blt 0 sz) true) (Nat.blt n len))
noncomputable def zB(ob:AObj)(t b m off len n:Nat):LR:=match ob with
  | .row _ sz es=>xY t b m off len n sz es
  |_=>.no
noncomputable def zw(_ _ _ _ _ _:Nat):LR:=.no
noncomputable def yJ(ob:Option AObj):Nat->Nat->Nat->Nat->Nat->Nat->LR:=Option.rec (motive:=fun _=>Nat->Nat->Nat->Nat->Nat->Nat->LR) zw zB ob
noncomputable def zx(n:Nat)(t b m off len:Nat)(H:TH)(k:Nat):LR:=yJ (rwAt H k b) t b m off len n
noncomputable def zA(i:Int):Nat->Nat->Nat->Nat->Nat->TH->Nat->LR:=Int.rec (motive:=fun _=>Nat->Nat->Nat->Nat->Nat->TH->Nat->LR) zx (fun _ _ _ _ _ _ _ _=>.no) i
noncomputable def zz(i:AV):Nat->Nat->Nat->Nat->Nat->TH->Nat->LR:=match i with
  | .int _ n=>zA n
  |_=>fun _ _ _ _ _ _ _=>.no
noncomputable def yK(p:AV):AV->Nat->TH->Nat->LR:=match p with
  | .ref b m off len=>fun i t H k=>zz i t b m off len H k
  |_=>fun _ _ _ _=>.no
noncomputable def zC(i:AV)(p:Option AV)(t:Nat)(H:TH)(k:Nat):LR:=Option.rec (motive:=fun _=>AV->Nat->TH->Nat->LR) (fun _ _ _ _=>.no) yK p i t H k
noncomputable def zy(i p:Option AV)(t:Nat)(H:TH)(k:Nat):LR:=Option.rec (motive:=fun _=>Option AV->Nat->TH->Nat->LR) (fun _ _ _ _=>.no) zC i p t H k
noncomputable def Mp(t:Nat)(x y:Operand)(o:Oper)(E:TE)(H:TH)(k:Nat):LR:=JV Tryz.prog (zy (lk y E) (lk x E) t H k) o E H k
noncomputable def uZ(c:UInt8):LR:=.val [] (.int .u8 (.ofNat c.toBitVec.toFin.1))
noncomputable def gA(c:Option UInt8):LR:=Option.rec (motive:=fun _=>LR) .no uZ c
noncomputable def zE(n:Int)(s:ByteArray):LR:=Int.rec (motive:=fun _=>LR) (fun n=>gA (nthF s.data.toList n)) (fun _=>.no) n
noncomputable def zD(i:AV):ByteArray->LR:=match i with
  | .int _ n=>zE n
  |_=>fun _=>.no
noncomputable def yM(p:AV):AV->LR:=match p with
  | .str s=>fun i=>zD i s
  |_=>fun _=>.no
noncomputable def zF(i:AV)(p:Option AV):LR:=Option.rec (motive:=fun _=>AV->LR) (fun _=>.no) yM p i
noncomputable def yL(i p:Option AV):LR:=Option.rec (motive:=fun _=>Option AV->LR) (fun _=>.no) zF i p
noncomputable def Zy(t:Nat)(x y:Operand)(o:Oper)(E:TE)(H:TH)(k:Nat):LR:=JV Tryz.prog (Bool.rec (motive:=fun _=>LR) .no (yL (lk y E) (lk x E)) (isStr t)) o E H k
noncomputable def gh(i:AV):Option Nat:=match i with
  | .int _ (.ofNat n)=>some n
  |_=>none
noncomputable def u6(v:Option AV):Option Nat:=Option.rec (motive:=fun _=>Option Nat) none gh v
noncomputable def bndO(x:Option Operand)(d:Nat)(E:TE):Option Nat:=Option.rec (motive:=fun _=>Option Nat) (some d) (fun x=>u6 (lk x E)) x
noncomputable def jS(i j:Nat)(l:List UInt8)(n:Nat):LR:=Bool.rec (motive:=fun _=>LR) .no (.val [] (.str ⟨⟨P3 (Nat.sub j i) (Oj i l)⟩⟩)) (and3 (Nat.ble i j) (Nat.ble j n) true)
noncomputable def yh(j:Nat)(i:Nat)(l:List UInt8)(n:Nat):LR:=jS i j l n
noncomputable def yi(i:Nat)(j:Option Nat)(l:List UInt8)(n:Nat):LR:=Option.rec (motive:=fun _=>Nat->List UInt8->Nat->LR) (fun _ _ _=>.no) yh j i l n
noncomputable def uU(i j:Option Nat)(l:List UInt8)(n:Nat):LR:=Option.rec (motive:=fun _=>Option Nat->List UInt8->Nat->LR) (fun _ _ _=>.no) yi i j l n
noncomputable def yj(l:List UInt8)(lo hi:Option Operand)(E:TE)(n:Nat):LR:=uU (bndO lo 0 E) (bndO hi n E) l n
noncomputable def yE(p:AV):Option Operand->Option Operand->TE->LR:=match p with
  | .str s=>fun lo hi E=>yj s.data.toList lo hi E (CT s.data.toList)
  |_=>fun _ _ _=>.no
noncomputable def xE(t:Nat)(x:Operand)(lo hi mx:Option Operand)(E:TE):LR:=Option.rec (motive:=fun _=>LR) (Bool.rec (motive:=fun _=>LR) .no (Option.rec (motive:=fun _=>Option Operand->Option Operand->TE->LR) (fun _ _ _=>.no) yE (lk x E) lo hi E) (isStr t)) (fun _=>.no) mx
noncomputable def Zs(t:Nat)(x:Operand)(lo hi mx:Option Operand)(o:Oper)(E:TE)(H:TH)(k:Nat):LR:=JV Tryz.prog (xE t x lo hi mx E) o E H k
noncomputable def jk(s:ByteArray)(t:Nat):LR:=Bool.rec (motive:=fun _=>LR) .no (.val [] (.int .i64 (.ofNat (CT s.data.toList)))) (isStr t)
noncomputable def YZ(n:Nat)(t:Nat):LR:=Bool.rec (motive:=fun _=>LR) .no (.val [] (.int .i64 (.ofNat n))) (isSli t)
noncomputable def uC(p:AV):Nat->LR:=match p with
  | .str s=>jk s
  | .nil=>YZ 0
  | .lst _ es=>YZ (CT es)
  | .ref _ _ _ l=>YZ l
  |_=>fun _=>.no
noncomputable def jl(args:List Operand)(tys:List Nat)(E:TE):LR:=match args,tys with
  | [x],[t]=>Option.rec (motive:=fun _=>Nat->LR) (fun _=>.no) uC (lk x E) t
  |_,_=>.no
noncomputable def ym(b:Builtin)(c:Call)(o:Oper)(E:TE)(H:TH)(k:Nat):LR:=match b with
  | .len=>JV Tryz.prog (jl c.args.toList c.argTypes.toList E) o E H k
  |_=>QR Tryz.prog o E H k
noncomputable def yG(_:Call):Oper->LF:=fun _ _ _ _=>.no
noncomputable def zK(ce:Callee):Call->Oper->LF:=Callee.rec (motive:=fun _=>Call->Oper->LF) (fun _=>yG) (fun _ _=>yG) ym ce
noncomputable def uM(c:Call)(o:Oper)(E:TE)(H:TH)(k:Nat):LR:=zK c.callee c o E H k
noncomputable def zG(op:UnOp):Nat->Operand->Oper->LF:=match op with
  | .not=>TJ
  |_=>fun _ _ o=>QR Tryz.prog o
noncomputable def ya(op:BinOp)(t:Nat)(x y:Operand)(t':Nat)(o:Oper)(E:TE)(H:TH)(k:Nat):LR:=JV Tryz.prog (yS (lk x E) op (lk y E)) o E H k
noncomputable def D4(o:Oper):LF:=QR Tryz.prog o
noncomputable def Mg(o:Oper):LF:=Op.rec (motive:=fun _=>Oper->LF) Zv Zv Zu SY jD (fun _ _=>D4) (fun _ _ _=>D4) (fun _ _ _ _=>D4) Zx SW (fun _=>D4) (fun _=>D4) jC ya zG (fun _ _ _=>D4) (fun _ _=>D4) (fun _ _=>D4) (fun _ _ _=>D4) (fun _ _=>D4) (fun _ _=>D4) (fun _ _ _=>D4) Zs Ir (fun _ _ _=>D4) Mp Zy (fun _ _ _ _=>D4) (fun _ _ _ _=>D4) (fun _ _ _=>D4) (fun _ _ _ _=>D4) (fun _ _=>D4) (fun _ _=>D4) (fun _=>D4) (fun _ _ _ _=>D4) Mr uM (fun _=>D4) (fun _=>D4) (fun _=>D4) (fun _ _=>D4) (fun _ _ _=>D4) (fun _ _=>D4) o.op o
section
variable {o : Oper} {E : TE} {H : TH} {k : Nat} (hT : Bc Tryz.prog TI)
include hT
theorem Nc{t:Nat}{x y:Operand}(ho:o.op=.indexAddr t x y):LOk Tryz.prog o E H k (Mp t x y o E H k):=by
 refine FP hT ?_;have hx:=A1 x E;have hy:=A1 y E
 cases h2:lk y E with
 |none=>exact True.intro
 |some q=>
  cases h1:lk x E with
  |none=>exact True.intro
  |some p=>
   rw[h1]at hx;rw[h2]at hy;show LOk Tryz.prog o E H k (yK p q t H k)
   cases p with
   |ref b m off len=>
    cases q with
    |int kk n=>
     cases n with
     |ofNat n=>
      show LOk Tryz.prog o E H k (yJ (rwAt H k b) t b m off len n)
      cases hb:rwAt H k b with
      |none=>exact True.intro
      |some ob=>
       obtain⟨b1,b2⟩:=Eg hb
       cases ob with
       |row pu sz es=>
        show LOk Tryz.prog o E H k (xY t b m off len n sz es);unfold xY
        cases c:and3 (Nat.beq m (CT es)) (and3 (Nat.beq sz (vC t)) (Nat.blt 0 sz) true) (Nat.blt n len)with
        |false=>exact True.intro
        |true=>
         obtain⟨c1,c2,c3⟩:=Bq c;obtain⟨c4,c5,_⟩:=Bq c2;obtain⟨i,j,u,a1,a2,a3,a4⟩:=ZT c4 (Nat.blt_eq.mp c5);rw[A3]at c1;exact fun m'=>An hT ho hx.symm hy.symm a1 a2 a3 (b2 m') (Nat.eq_of_beq_eq_true c1) a4 (Int.natCast_nonneg n) (by have:=Nat.blt_eq.mp c3;exact Int.ofNat_lt.2 this)
       |_=>exact True.intro
     |negSucc n=>exact True.intro
    |_=>exact True.intro
   |_=>exact True.intro
theorem Wc{t:Nat}{x y:Operand}(ho:o.op=.index t x y):LOk Tryz.prog o E H k (Zy t x y o E H k):=by
 refine FP hT ?_;have hx:=A1 x E;have hy:=A1 y E
 cases ct:isStr t with
 |false=>exact True.intro
 |true=>
  obtain⟨i,i1,i2⟩:=Io ct;show LOk Tryz.prog o E H k (yL (lk y E) (lk x E))
  cases h2:lk y E with
  |none=>exact True.intro
  |some q=>
   cases h1:lk x E with
   |none=>exact True.intro
   |some p=>
    rw[h1]at hx;rw[h2]at hy;show LOk Tryz.prog o E H k (yM p q)
    cases p with
    |str s=>
     cases q with
     |int kk n=>
      cases n with
      |ofNat n=>
       show LOk Tryz.prog o E H k (gA (nthF s.data.toList n))
       cases hn:nthF s.data.toList n with
       |none=>exact True.intro
       |some c=>exact fun m'=>Kt hT ho hx.symm hy.symm i1 i2 (Int.natCast_nonneg n) (by rw[EY]at hn;exact hn)
      |negSucc n=>exact True.intro
     |_=>exact True.intro
    |_=>exact True.intro
omit hT in
theorem Ot{d l:Nat}(h:bndO none d E=some l):l=d:=(Option.some.inj h).symm
omit hT in
theorem Oq{y:Operand}{d l:Nat}(h:bndO (some y) d E=some l):∃k,look (eF E) y=some (.int k (l:Int)):=by
 have h:u6 (lk y E)=some l:=h;rw[A1]at h
 cases hy:look (eF E) y with
 |none=>rw[hy]at h;cases h
 |some v=>
  rw[hy]at h;have h:gh v=some l:=h
  cases v with
  |int kk n=>
   cases n with
   |ofNat n=>cases h;exact⟨kk,rfl⟩
   |negSucc n=>cases h
  |_=>cases h
theorem Wa{t:Nat}{x:Operand}{lo hi mx:Option Operand}(ho:o.op=.slice t x lo hi mx):LOk Tryz.prog o E H k (Zs t x lo hi mx o E H k):=by
 refine FP hT ?_
 cases mx with
 |some y=>exact True.intro
 |none=>
  have hx:=A1 x E
  cases ct:isStr t with
  |false=>unfold xE;rw[ct];exact True.intro
  |true=>
   obtain⟨i,i1,i2⟩:=Io ct;unfold xE;rw[ct];show LOk Tryz.prog o E H k (Option.rec (motive:=fun _=>Option Operand->Option Operand->TE->LR) (fun _ _ _=>.no) yE (lk x E) lo hi E)
   cases h1:lk x E with
   |none=>exact True.intro
   |some p=>
    rw[h1]at hx
    cases p with
    |str s=>
     show LOk Tryz.prog o E H k (uU (bndO lo 0 E) (bndO hi (CT s.data.toList) E) s.data.toList (CT s.data.toList))
     cases b1:bndO lo 0 E with
     |none=>exact True.intro
     |some l=>
      cases b2:bndO hi (CT s.data.toList) E with
      |none=>exact True.intro
      |some m=>
       show LOk Tryz.prog o E H k (jS l m s.data.toList (CT s.data.toList));unfold jS
       cases c:and3 (Nat.ble l m) (Nat.ble m (CT s.data.toList)) true with
       |false=>exact True.intro
       |true=>
        obtain⟨c1,c2,_⟩:=Bq c;rw[A3]at c2;have hsz:CT s.data.toList=s.size:=A3 _;intro m';rw[S6];refine XX hT l m ho hx.symm i1 i2 ?_ ?_ (Nat.le_of_ble_eq_true c1) (Nat.le_of_ble_eq_true c2)
        . cases lo with
          |none=>exact Ot b1
          |some y=>exact Oq b1
        . cases hi with
          |none=>exact(Ot b2).trans hsz
          |some y=>exact Oq b2
    |_=>exact True.intro
theorem cP{args:Array Operand}{tys:Array TypeId}(ho:o.op=.call {callee:=.builtin .len,args:=args,argTypes:=tys}):LOk Tryz.prog o E H k (jl args.toList tys.toList E):=by
 unfold jl;split
 . rename_i x t ha ht;rw[Jz ha,Jz ht]at ho;have hx:=A1 x E
   cases h1:lk x E with
   |none=>exact True.intro
   |some p=>
    rw[h1]at hx;show LOk Tryz.prog o E H k (uC p t);have hn:∀n,KB p=some n->(∀s,p≠ .str s)->LOk Tryz.prog o E H k (YZ n t):=fun n e1 e2=>by
     unfold YZ
     cases c:isSli t with
     |false=>exact True.intro
     |true=>
      obtain⟨i,u,i1,i2⟩:=SR c;exact fun m'=>Qp hT ho hx.symm i1 (by cases p<;>first|exact absurd rfl (e2 _)|(rw[i2])) e1
    cases p with
    |str s=>
     show LOk Tryz.prog o E H k (jk s t);unfold jk
     cases c:isStr t with
     |false=>exact True.intro
     |true=>
      obtain⟨i,i1,i2⟩:=Io c;intro m';rw[A3];exact Qp hT ho hx.symm i1 (by rw[i2]) rfl
    |nil=>exact hn 0 rfl (fun s e=>by cases e)
    |lst ex es=>exact hn _ (by rw[A3];rfl) (fun s e=>by cases e)
    |ref b n off l=>exact hn _ rfl (fun s e=>by cases e)
    |_=>exact True.intro
 . exact True.intro
theorem QN:LOk Tryz.prog o E H k (Mg o E H k):=by
 unfold Mg
 cases ho:o.op with
 |move x=>exact Q4 (.inl ho)
 |assign x=>exact Q4 (.inr ho)
 |fieldAddr t x f=>exact Nd hT ho
 |load t x=>exact Zw hT ho
 |store t x y=>exact V9 hT ho
 |binOp op t x y t'=>exact FP hT (jY ho)
 |nilCheck x=>exact dv ho
 |pick c x y=>exact Zt ho
 |extract x j=>exact Q5 ho
 |unOp op t x=>
  cases op with
  |not=>exact(Xv (o':=o) ho:LOk Tryz.prog o E H k (TJ t x o E H k))
  |_=>exact Je hT
 |indexAddr t x y=>exact Nc hT ho
 |alloc t=>exact Wd hT ho
 |box t x=>exact dy ho
 |index t x y=>exact Wc hT ho
 |slice t x lo hi mx=>exact Wa hT ho
 |call c=>
  obtain⟨ce,args,tys⟩:=c
  cases ce with
  |value f=>exact True.intro
  |invoke r m=>exact True.intro
  |builtin b=>cases b<;>first|exact FP hT (cP hT ho)|exact Je hT
 |_=>exact Je hT
end
def fz36(n:Nat)(id:Nat):Option Nat:=bif Nat.beq n 83 then(bif Nat.beq id 14 then some 6 else none)else bif Nat.beq n 90 then(bif Nat.beq id 19 then some 14 else none)else bif Nat.beq n 53 then(bif Nat.beq id 0 then some 1 else none)else bif Nat.beq n 63 then(bif Nat.beq id 5 then some 6 else none)else none
structure vn(k:Nat)(h h':Aa):Prop where
  lt:∀b,b<k->h b=h' b
  ge:∀b,k<=b->(h b=none\/h b=some .free)/\(h' b=none\/h' b=some .free)
theorem Ke{α:Type}{p q:α->Bool}:∀{l:List α},(∀x∈l,p x=q x)->l.any p=l.any q
 | [],_=>rfl
 |x::l,h=>by rw[List.any_cons,List.any_cons,h x Az,Ke fun y hy=>h y (by simp[hy])]
def vq(k:Nat)(h0:Aa)(r r':Ar×Aa):Prop:=r.1=r'.1/\vn k r.2 r'.2/\∀b,k<=b->r'.2 b=h0 b
theorem dD{k b m:Nat}{es:List (List AV)}{h h':Aa}(hb:b<k)(hh:vn k h h'):vn k (Is b m es h) (Is b m es h')/\∀c,k<=c->Is b m es h' c=h' c:=by
 have hcb:∀c,k<=c->Nat.beq c b=false:=fun c hc=>by
  cases hx:Nat.beq c b with
  |false=>rfl
  |true=>have:=Nat.eq_of_beq_eq_true hx;omega
 refine⟨⟨fun c hc=>by unfold Is;rw[hh.lt c hc],fun c hc=>?_⟩,fun c hc=>?_⟩
 . obtain⟨h1,h2⟩:=hh.ge c hc;unfold Is;rw[hcb c hc];refine⟨?_,?_⟩
   . rcases h1 with h1|h1<;>rw[h1]<;>first|exact .inl rfl|exact .inr rfl
   . rcases h2 with h2|h2<;>rw[h2]<;>first|exact .inl rfl|exact .inr rfl
 . unfold Is;rw[hcb c hc];rcases(hh.ge c hc).2 with h2|h2<;>rw[h2]<;>rfl
theorem Ji{n k:Nat}:∀(l:List Nat) {e:Ar} {h h':Aa},vn k h h'->vq k h' (frzL n k l e h) (frzL n k l e h')
 | [],e,h,h',hh=>⟨rfl,hh,fun _ _=>rfl⟩
 |b::l,e,h,h',hh=>by
  by_cases hb:b<k
  . unfold frzL;rw[hh.lt b hb];split
    . rename_i sz es he;have step:vq k h' (frzL n k l (Wf b es.length es e) (Is b es.length es h)) (frzL n k l (Wf b es.length es e) (Is b es.length es h')):=by
       obtain⟨a1,a2⟩:=dD (m:=es.length) (es:=es) hb hh;obtain⟨k1,k2,k3⟩:=Ji (n:=n) l (e:=Wf b es.length es e) a1;exact⟨k1,k2,fun c hc=>(k3 c hc).trans (a2 c hc)⟩
      split
      . rename_i h1 h2;split
        . exact step
        . rename_i hne;exact(hne h1 ((congrArg (fun z=>_||z) (Ke fun c hc=>by rw[hh.lt c (List.mem_range.1 hc)])).symm.trans h2)).elim
      . rename_i hne;split
        . rename_i h1 h2;exact(hne h1 ((congrArg (fun z=>_||z) (Ke fun c hc=>by rw[hh.lt c (List.mem_range.1 hc)])).trans h2)).elim
        . exact Ji l hh
    . exact Ji l hh
  . obtain⟨h1,h2⟩:=hh.ge b Ab;have e1:frzL n k (b::l) e h=frzL n k l e h:=by
     conv=>lhs;unfold frzL
     rcases h1 with h1|h1<;>rw[h1]
    have e2:frzL n k (b::l) e h'=frzL n k l e h':=by
     conv=>lhs;unfold frzL
     rcases h2 with h2|h2<;>rw[h2]
    rw[e1,e2];exact Ji l hh
noncomputable def Vd{α:Type}(f:Nat->Option α)(n:Nat):Qt α:=Nat.rec (motive:=fun _=>Qt α) .lf (fun t ih=>Option.rec (motive:=fun _=>Qt α) ih (fun x=>Qt.set x (Fx t) ih) (f t)) n
theorem OH{α:Type}{f:Nat->Option α}:∀{n t:Nat} {x:α},Qt.at (Fx t) (Vd f n)=some x->f t=some x/\t<n
 |0,t,x,h=>by
  rw[show Vd f 0=.lf from rfl,F5]at h;cases h
 |n+1,t,x,h=>by
  have h:Qt.at (Fx t) (Option.rec (motive:=fun _=>Qt α) (Vd f n) (fun x=>Qt.set x (Fx n) (Vd f n)) (f n))=some x:=h
  cases hf:f n with
  |none=>
   rw[hf]at h;obtain⟨h1,h2⟩:=OH h;exact⟨h1,by omega⟩
  |some y=>
   rw[hf]at h;have h:Qt.at (Fx t) (Qt.set y (Fx n) (Vd f n))=some x:=h
   by_cases ht:t=n
   . subst ht;rw[BL]at h
     cases h
     exact⟨hf,by omega⟩
   . rw[Ce _ _ _ _ (OT (fun e=>ht e.symm))]at h;obtain⟨h1,h2⟩:=OH h;exact⟨h1,by omega⟩
noncomputable def yd(n k t:Nat)(x:Option AV)(E:TE)(H:TH):Ar×Aa:=Option.rec (motive:=fun _=>Ar×Aa) (eF E,hF H k k) (fun x=>frzL n k (DD (hF H k k) 3 (Ge x)) (eF E) (hF H k k)) x
noncomputable def ZE(n k t:Nat)(E:TE)(H:TH):Ar×Aa:=yd n k t (Qt.at (Fx t) E) E H
theorem S2{n k t m:Nat}{E:TE}{H:TH}(hm:k<=m):Ghost ⟨n,eF E,hF H k m⟩ ⟨n,eF (Vd (ZE n k t E H).1 n),hF (Vd (ZE n k t E H).2 k) k m⟩:=by
 have sub:∀(e2:Ar) (h2:Aa) (r:Ar×Aa),r.1=e2->(∀b,b<k->r.2 b=h2 b)->(∀b,k<=b->b<m->h2 b=some .free)->Ghost ⟨n,e2,h2⟩ ⟨n,eF (Vd r.1 n),hF (Vd r.2 k) k m⟩:=fun e2 h2 r h1 h3 h4=>by
  refine Ghost.of_sub (Sub.mk' (fun t x hx=>?_) (fun b o hb=>?_))
  . rw[<-h1];exact(OH hx).1
  . by_cases hk:b<k
    . rw[Cp hk]at hb;rw[<-h3 b hk];exact(OH hb).1
    . by_cases h5:b<m
      . rw[BM Ab h5]at hb;rw[h4 b Ab h5];exact hb
      . rw[CG Ab Ab]at hb;cases hb
 have hq:vn k (hF H k k) (hF H k m):=⟨fun b hb=>by rw[Cp hb,Cp hb],fun b hb=>⟨.inl (CG hb hb),by
  by_cases h5:b<m
  . exact .inr (BM hb h5)
  . exact .inl (CG hb Ab)⟩⟩
 unfold ZE
 cases hx:Qt.at (Fx t) E with
 |none=>exact sub (eF E) (hF H k m) (eF E,hF H k k) rfl (fun b hb=>hq.lt b hb) (fun b h1 h2=>BM h1 h2)
 |some x=>
  show Ghost _ ⟨n,eF (Vd (frzL n k (DD (hF H k k) 3 (Ge x)) (eF E) (hF H k k)).1 n),hF (Vd (frzL n k (DD (hF H k k) 3 (Ge x)) (eF E) (hF H k k)).2 k) k m⟩;obtain⟨k1,k2,k3⟩:=Ji (n:=n) (DD (hF H k k) 3 (Ge x)) (e:=eF E) hq;refine Ghost.trans (D7 (n:=n) (k:=k) (DD (hF H k k) 3 (Ge x)) (e:=eF E) (h:=hF H k m) (e':=(frzL n k (DD (hF H k k) 3 (Ge x)) (eF E) (hF H k m)).1) (h':=(frzL n k (DD (hF H k k) 3 (Ge x)) (eF E) (hF H k m)).2) rfl) ?_;exact sub _ _ _ k1 k2.lt (fun b h1 h2=>(k3 b h1).trans (BM h1 h2))
end Go.Proofs.YtijlphdockhgjaaGreatDoor.Sv
