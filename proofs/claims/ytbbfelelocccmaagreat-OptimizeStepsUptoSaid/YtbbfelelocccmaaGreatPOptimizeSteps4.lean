/-
  THE DOCUMENT'S CHECKER: ITS TABLE AND WALK, IN PLAIN LEAN: own work, over no program.
-/
import Derived.Test.YtbbfelelocccmaaGreatPOptimizeSteps3
set_option linter.unusedVariables false
set_option linter.unusedSimpArgs false
set_option maxRecDepth 100000
set_option maxHeartbeats 2000000
namespace Go.Proofs.YtbbfelelocccmaaGreat.Sv
open Go
structure RVal where
  kind:Int
  op:Int
  a:Int
  b:Int
  name:Int
  side:Int
  base:Int
  time:Int
  n:Int
  deriving DecidableEq
def RVal.cells(v:RVal):List AV:=[.int .i64 v.kind,.int .i64 v.op,.int .i64 v.a,.int .i64 v.b,.int .i64 v.name,.int .i64 v.side,.int .i64 v.base,.int .i64 v.time,.int .u32 v.n]
def RVal.same(x y:RVal):Bool:=x.kind==y.kind&&(x.op==y.op&&(x.a==y.a&&(x.b==y.b&&(x.name==y.name&&(x.side==y.side&&(x.base==y.base&&(x.time==y.time&&(x.n==y.n&&true))))))))
theorem RVal.same_iff(x y:RVal):x.same y=true↔x=y:=by
 obtain⟨a1,a2,a3,a4,a5,a6,a7,a8,a9⟩:=x;obtain⟨b1,b2,b3,b4,b5,b6,b7,b8,b9⟩:=y
 grind[RVal.same]
structure REff where
  op:Int
  k:Int
  base:Int
  size:Int
  a:Int
  b:Int
  deriving DecidableEq
def REff.cells(v:REff):List AV:=[.int .i64 v.op,.int .i64 v.k,.int .i64 v.base,.int .i64 v.size,.int .i64 v.a,.int .i64 v.b]
def REff.same(x y:REff):Bool:=x.op==y.op&&(x.k==y.k&&(x.base==y.base&&(x.size==y.size&&(x.a==y.a&&(x.b==y.b&&true)))))
theorem REff.same_iff(x y:REff):x.same y=true↔x=y:=by
 obtain⟨a1,a2,a3,a4,a5,a6⟩:=x;obtain⟨b1,b2,b3,b4,b5,b6⟩:=y
 grind[REff.same]
def ridx(v:RVal):List RVal->Option Nat
  | []=>none
  |x::r=>bif x.same v then some 0 else(ridx v r).map (· +1)
def Bs(L:List RVal)(v:RVal):Int×List RVal:=match ridx v L with
  |some i=>((i:Int),L)
  |none=>((L.length:Int),L++[v])
theorem O1{v:RVal}:∀{L:List RVal} {k:Nat} {x:RVal},L[k]?=some x->x.same v=true->(∀j,j<k->∀y,L[j]?=some y->y.same v=false)->ridx v L=some k
 | [],k,x,h,_,_=>by simp at h
 |y::r,0,x,h,hx,_=>by
  grind[ridx]
 |y::r,k+1,x,h,hx,hb=>by
  unfold ridx;rw[hb 0 z144q y rfl];have:=O1 (L:=r) (k:=k) He hx (fun j hj z hz=>hb (j+1) z144q z (by simpa using hz));rw[this];rfl
theorem Rj{v:RVal}:∀{L:List RVal},(∀(j:Nat) (y:RVal),L[j]?=some y->y.same v=false)->ridx v L=none
 | [],_=>rfl
 |y::r,h=>by
  unfold ridx;rw[h 0 y rfl,Rj (L:=r) (fun j z hz=>h (j+1) z (by simpa using hz))];rfl
theorem Tc{v:RVal}:∀{L:List RVal} {i:Nat},ridx v L=some i->i<L.length/\L[i]?=some v
 | [],i,h=>by cases h
 |x::r,i,h=>by
  unfold ridx at h
  cases hx:x.same v with
  |true=>rw[hx]at h;cases h;exact⟨by simp,by rw[(RVal.same_iff x v).1 hx];rfl⟩
  |false=>
   rw[hx]at h;simp only[qZ3,q22]at h;obtain⟨j,hj,rfl⟩:=h;obtain⟨h1,h2⟩:=Tc hj;exact⟨by simp;omega,by simpa using h2⟩
variable {v : RVal} {L : List RVal}
theorem Lp(h:ridx v L=none):Bs L v=((L.length:Int),L++[v]):=by unfold Bs;rw[h]
theorem Lo{i:Nat}(h:ridx v L=some i):Bs L v=((i:Int),L):=by unfold Bs;rw[h]
theorem JQ:L.length<=(Bs L v).2.length/\(Bs L v).2.length<=L.length+1/\0<=(Bs L v).1/\(Bs L v).1<(Bs L v).2.length:=by
 cases e:ridx v L with
 |none=>rw[Lp e];simp;omega
 |some i=>
  rw[Lo e];have:=(Tc e).1;exact⟨qZ0 _,Nat.le_succ _,by dsimp only;omega,by dsimp only;omega⟩
def Xk(L:List RVal)(i:Int):RVal:=(L[i.toNat]?).getD ⟨0,0,0,0,0,0,0,0,0⟩
def Bu(L:List RVal)(i:Int):Int×Bool:=((Xk L i).n,(Xk L i).kind==1)
theorem UO{i:Int}(h:0<=i/\i<L.length):(L.map RVal.cells)[i.toNat]?=some (Xk L i).cells:=by
 grind[Xk,RVal.cells]
theorem Mw(hL:∀v∈L,Gp v.n)(i:Int):Gp (Xk L i).n:=by
 grind[Xk,Fi,List.mem_of_getElem?,Gp]
structure RW where
  L:List RVal
  regs:List Int
  out:List REff
  time:Int
def RW.put(w:RW)(z:Int)(p:Int×List RVal):RW:={w with L:=p.2,regs:=A5 w.regs z p.1}
def RW.eff(w:RW)(e:REff):RW:={w with out:=w.out++[e]}
def RW.tick(w:RW):RW:={w with time:=w.time+1}
def rrisky(w:RW)(t:Tac):Bool:=(t.k==7||t.k==8)&&(!(Bu w.L (rget w.regs t.b)).2||(Bu w.L (rget w.regs t.b)).1==0)
def RW.div(w:RW)(t:Tac):RW:=bif rrisky w t then w.eff ⟨t.op,t.k,0,0,rget w.regs t.a,rget w.regs t.b⟩else w
def EA(w:RW)(t:Tac):Bool:=(Bu w.L (rget w.regs t.a)).2&&((Bu w.L (rget w.regs t.b)).2&& !rrisky w t)
def C4(w:RW)(t:Tac):RVal:=bif EA w t then⟨1,0,0,0,0,0,0,0,(wapp t.k (Bu w.L (rget w.regs t.a)).1 (Bu w.L (rget w.regs t.b)).1).1⟩else⟨3,t.k,rget w.regs t.a,rget w.regs t.b,0,0,0,0,0⟩
def RW.bin(w:RW)(t:Tac):RW:=(w.div t).put t.d (Bs w.L (C4 w t))
def E9(n:Nat):RVal:=⟨2,0,0,0,(n:Int),2,0,0,0⟩
def RW.get(w:RW)(t:Tac)(e:REff):RW:=(w.eff e).put t.d (Bs w.L (E9 w.out.length))
def RW.step(w:RW)(t:Tac):RW:=
  bif t.op==1 then w.put t.d (Bs w.L ⟨1,0,0,0,0,0,0,0,t.n⟩)
  else bif t.op==2 then {w with regs:=A5 w.regs t.d (rget w.regs t.a)}
  else bif t.op==3 then w.bin t
  else bif t.op==4 then w.put t.d (Bs w.L ⟨4,0,0,0,0,0,t.base,w.time,0⟩)
  else bif t.op==5 then(w.eff ⟨t.op,0,t.base,0,rget w.regs t.a,0⟩).tick
  else bif t.op==6 then w.get t ⟨t.op,0,t.base,t.size,rget w.regs t.a,0⟩
  else bif t.op==7 then(w.eff ⟨t.op,0,t.base,t.size,rget w.regs t.a,rget w.regs t.b⟩).tick
  else bif t.op==8 then w.get t ⟨t.op,0,0,0,0,0⟩
  else bif t.op==9 then w.eff ⟨t.op,0,0,0,rget w.regs t.a,0⟩
  else(w.eff ⟨t.op,0,t.base,0,0,0⟩).tick
structure ROk(R m:Nat)(w:RW):Prop where
  wn:∀v∈w.L,Gp v.n
  kl:w.L.length<=m
  el:w.out.length<=m
  tl:0<=w.time/\w.time<=m
  vl:w.regs.length=R
  v:∀n∈w.regs,0<=n/\n<w.L.length
variable {R m : Nat} {w : RW}
theorem ROk.mono{m':Nat}(h:ROk R m w)(hm:m<=m'):ROk R m' w:=
 ⟨h.wn,qX2 h.kl hm,qX2 h.el hm,⟨h.tl.1,by have:=h.tl.2;omega⟩,h.vl,h.v⟩
theorem Xw(hL:∀v∈L,Gp v.n)(hv:Gp v.n):∀x∈(Bs L v).2,Gp x.n:=by
 grind[ridx,Lp,Lo,Gp,Bs]
theorem ROk.put{R m:Nat}{w:RW}(h:ROk R m w)(z:Int){v:RVal}(hv:Gp v.n):ROk R (m+1) (w.put z (Bs w.L v)) where
 wn:=Xw h.wn hv
 kl:=by have:=h.kl;have:=(JQ (v:=v) (L:=w.L)).2.1;show(Bs w.L v).2.length<=_;omega
 el:=by have:=h.el;show w.out.length<=_;omega
 tl:=⟨h.tl.1,by have:=h.tl.2;show w.time<=_;omega⟩
 vl:=by show(A5 w.regs z _).length=R;rw[Hj];exact h.vl
 v:=fun n hn=>by
  have hn':n∈A5 w.regs z (Bs w.L v).1:=hn;unfold A5 at hn';show 0<=n/\n<((Bs w.L v).2.length:Int);have hp:=JQ (v:=v) (L:=w.L);rcases q08 hn' with hn'|rfl
  . have:=h.v n hn';omega
  . exact hp.2.2
theorem ROk.eff{R m:Nat}{w:RW}(h:ROk R m w)(e:REff):ROk R (m+1) (w.eff e) where
 wn:=h.wn
 kl:=by have:=h.kl;show w.L.length<=_;omega
 el:=by have:=h.el;show(w.out++[e]).length<=_;simp;omega
 tl:=⟨h.tl.1,by have:=h.tl.2;show w.time<=_;omega⟩
 vl:=h.vl
 v:=h.v
theorem ROk.tick{R m:Nat}{w:RW}(h:ROk R m w):ROk R (m+1) w.tick where
 wn:=h.wn
 kl:=by have:=h.kl;show w.L.length<=_;omega
 el:=by have:=h.el;show w.out.length<=_;omega
 tl:=⟨by have:=h.tl.1;show 0<=w.time+1;omega,by have:=h.tl.2;show w.time+1<=_;push_cast;omega⟩
 vl:=h.vl
 v:=h.v
theorem ROk.div{R m:Nat}{w:RW}(h:ROk R m w)(t:Tac):ROk R (m+1) (w.div t):=by
 unfold RW.div
 cases rrisky w t with
 |true=>exact h.eff _
 |false=>exact h.mono (Nat.le_succ _)
theorem fX(w:RW)(t:Tac):(w.div t).L=w.L:=by unfold RW.div;cases rrisky w t<;>rfl
theorem bI(hL:∀v∈w.L,Gp v.n)(t:Tac):Gp (C4 w t).n:=by
 unfold C4
 cases EA w t with
 |true=>exact wapp_word (Mw hL _) (Mw hL _)
 |false=>exact Fi
theorem ROk.at(h:ROk R m w){z:Int}(hz:0<=z/\z<R):0<=z/\z<w.regs.length/\z<((Bb w.regs).length:Int)/\0<=rget w.regs z/\rget w.regs z<w.L.length:=by
 have h1:=h.vl;have h2:=h.v _ (Zw (z:=z) (by rw[h1];exact hz))
 grind[HM,Bb,rget]
theorem ROk.bin{R m:Nat}{w:RW}(h:ROk R m w)(t:Tac):ROk R (m+2) (w.bin t):=by
 have h1:=(h.div t).put t.d (bI h.wn t);rw[fX]at h1;exact h1
theorem ROk.get{R m:Nat}{w:RW}(h:ROk R m w)(t:Tac)(e:REff):ROk R (m+2) (w.get t e):=ROk.put (h.eff e) t.d (v:=E9 w.out.length) Fi
theorem ROk.step{R m:Nat}{w:RW}(h:ROk R m w){t:Tac}(ht:Nb t R):ROk R (m+2) (w.step t):=by
 unfold RW.step
 cases t.op==1 with
 |true=>exact(h.put _ ht.n).mono (Nat.le_succ _)
 |false=>
 cases h2:t.op==2 with
 |true=>
  have h2':t.op=2:=by simpa using h2
  refine ROk.mono (m:=m) ⟨h.wn,h.kl,h.el,h.tl,?_,fun n hn=>?_⟩ z144q
  . show(A5 w.regs t.d _).length=R;rw[Hj];exact h.vl
  . have hn':n∈A5 w.regs t.d (rget w.regs t.a):=hn;unfold A5 at hn';rcases q08 hn' with hn'|rfl
    . exact h.v n hn'
    . have:=ht.a (.inl (by simp[use1,h2']));exact h.v _ (Zw (by rw[h.vl];exact this))
 |false=>
 cases t.op==3 with
 |true=>exact h.bin t
 |false=>
 cases t.op==4 with
 |true=>exact(h.put _ (v:=⟨4,0,0,0,0,0,_,_,0⟩) Fi).mono (Nat.le_succ _)
 |false=>
 cases t.op==5 with
 |true=>exact ROk.tick (h.eff _)
 |false=>
 cases t.op==6 with
 |true=>exact h.get t _
 |false=>
 cases t.op==7 with
 |true=>exact ROk.tick (h.eff _)
 |false=>
 cases t.op==8 with
 |true=>exact h.get t _
 |false=>
 cases t.op==9 with
 |true=>exact(h.eff _).mono (Nat.le_succ _)
 |false=>exact ROk.tick (h.eff _)
theorem p7(L:List RVal):∀cs∈L.map RVal.cells,cs.length=9:=fun cs hc=>by
 exact YN
theorem kX(L:List RVal):∀cs∈L.map RVal.cells,cs.all AV.isPure1=true:=fun cs hc=>by
 exact YN
theorem fW(L:List REff):∀cs∈L.map REff.cells,cs.length=6:=fun cs hc=>by
 exact YN
theorem Zx(L:List REff):∀cs∈L.map REff.cells,cs.all AV.isPure1=true:=fun cs hc=>by
 exact YN
variable {k : Nat -> Bool}
theorem OW(es:List (List AV))(h2:k 9=true):(AObj.row false 1 [[A6 9 es]]).avoid k=true:=by
 grind[BV,AObj.avoid,A6]
theorem OT{v p:Nat}(es es2:List (List AV))(x:Int)(h1:k 4=true)(h2:k v=true)(h3:k p=true):(AObj.row false 4 [[.ptr 4 1 0 0,A6 v es,A6 p es2,.int .i64 x]]).avoid k=true:=by
 have h:=BV es2 h3;have h':=BV es h2;exact nE
variable {b : Nat} {es : List (List AV)}
theorem kM{es':List (List AV)}(h:es'.length=es.length):A6 b es'=A6 b es\/es=[]:=by
 grind[A6,R4]
theorem FU(b:Nat)(l:List Int)(z v:Int):A6 b (Bb (A5 l z v))=A6 b (Bb l):=by
 grind[kM,Bb,A5,HM,Hj,A6]
variable {P : Program} {T : Nat -> Option Av} {o : Oper} {e : Ax} {h : Ad}
variable {k : Nat}
theorem C5(hT:CE P T){t:TypeId}{x y:Operand}{q:AV}{i:Av}(ho:o.op=.store t x y)(hd:o.dst=none)(hx:An e x=some (.ptr b es.length k 0))(hy:An e y=some q)(hi:T t=some i)(his:i.size=1)
 (hb:h b=some (By 1 es)) (hk:k<es.length) (hc:∀cs∈es,cs.length=1) (hq:q.cells=[q]) (h1:q.cell1=true) (hp:q.isPure1=true):
 OLoc P o e h [b] [(b,By 1 (es.set k [q]))] none:=by
 rw[I5 hk]at hb;have hg:=q13 hk;have:=CQ hT ho hd hx hy hi his hb rfl hg hq (qZ0 _) h1 (fun _=>hp);have hl:es[k].length=1:=hc _ (List.getElem_mem hk);have e1:D0 es[k] 0 [q]=[q]:=by
  unfold D0
  grind
 rw[e1]at this;rwa[I5 (k:=k) (by rw[q83];exact hk)]
variable {t : Tac}
theorem f0(h:rrisky w t=true):w.bin t=⟨(Bs w.L (C4 w t)).2,A5 w.regs t.d (Bs w.L (C4 w t)).1,w.out++[⟨t.op,t.k,0,0,rget w.regs t.a,rget w.regs t.b⟩],w.time⟩:=by
 unfold RW.bin RW.div RW.put RW.eff;rw[h];rfl
theorem la(h:rrisky w t=false):w.bin t=⟨(Bs w.L (C4 w t)).2,A5 w.regs t.d (Bs w.L (C4 w t)).1,w.out,w.time⟩:=by
 unfold RW.bin RW.div RW.put;rw[h];rfl
theorem MC(h:EA w t=true):C4 w t=⟨1,0,0,0,0,0,0,0,(wapp t.k (Bu w.L (rget w.regs t.a)).1 (Bu w.L (rget w.regs t.b)).1).1⟩:=by unfold C4;rw[h];rfl
theorem HV(h:EA w t=false):C4 w t=⟨3,t.k,rget w.regs t.a,rget w.regs t.b,0,0,0,0,0⟩:=by unfold C4;rw[h];rfl
structure RI where
  L:List RVal
  xs:List Int
  ys:List Int
def RVal.reg(v:Nat)(side:Int):RVal:=⟨2,0,0,0,(v:Int),side,0,0,0⟩
def Gm(row:List Bool)(v:Nat):Int:=bif (row[v]?).getD false then 0 else 1
def RI.first(s:RI)(v:Nat):RI:=⟨(Bs s.L (RVal.reg v 0)).2,s.xs++[(Bs s.L (RVal.reg v 0)).1],s.ys⟩
def RI.second(s:RI)(v:Nat)(side:Int):RI:=⟨(Bs s.L (RVal.reg v side)).2,s.xs,s.ys++[(Bs s.L (RVal.reg v side)).1]⟩
def Bh(row:List Bool):Nat->RI
  |0=>⟨[],[],[]⟩
  |v+1=>((Bh row v).first v).second v (Gm row v)
structure yN(s:RI)(k:Nat):Prop where
  wn:∀v∈s.L,Gp v.n
  kl:s.L.length<=2*k
  xl:s.xs.length=k
  yl:s.ys.length=k
  xv:∀n∈s.xs,0<=n/\n<s.L.length
  yv:∀n∈s.ys,0<=n/\n<s.L.length
theorem DL(row:List Bool):∀k,yN (Bh row k) k
 |0=>⟨fun v h=>by simp[Bh]at h,by simp[Bh],rfl,rfl,fun v h=>by simp[Bh]at h,fun v h=>by simp[Bh]at h⟩
 |k+1=>by
  have h:=DL row k;have h1:=JQ (v:=RVal.reg k 0) (L:=(Bh row k).L);have h2:=JQ (v:=RVal.reg k (Gm row k)) (L:=(Bs (Bh row k).L (RVal.reg k 0)).2);refine⟨Xw (Xw h.wn Fi) Fi,?_,?_,?_,fun n hn=>?_,fun n hn=>?_⟩
  . have:=h.kl;show(Bs (Bs (Bh row k).L (RVal.reg k 0)).2 (RVal.reg k (Gm row k))).2.length<=_;omega
  . show((Bh row k).xs++[_]).length=_;rw[q48,h.xl];rfl
  . show((Bh row k).ys++[_]).length=_;rw[q48,h.yl];rfl
  . have hn':n∈(Bh row k).xs++[(Bs (Bh row k).L (RVal.reg k 0)).1]:=hn;show 0<=n/\n<((Bs (Bs (Bh row k).L (RVal.reg k 0)).2 (RVal.reg k (Gm row k))).2.length:Int);simp only[q78,q47]at hn';rcases hn' with hn'|rfl
    . have:=h.xv n hn';omega
    . omega
  . have hn':n∈(Bh row k).ys++[(Bs (Bs (Bh row k).L (RVal.reg k 0)).2 (RVal.reg k (Gm row k))).1]:=hn;show 0<=n/\n<((Bs (Bs (Bh row k).L (RVal.reg k 0)).2 (RVal.reg k (Gm row k))).2.length:Int);simp only[q78,q47]at hn';rcases hn' with hn'|rfl
    . have:=h.yv n hn';omega
    . omega
def EG(L:List RVal)(regs:List Int)(l:List Tac):RW:=l.foldl RW.step ⟨L,regs,[],0⟩
def Bk(R:Nat)(row:List Bool)(old:Block):RW:=EG (Bh row R).L (Bh row R).xs old.ins
def Cc(R:Nat)(row:List Bool)(old new:Block):RW:=EG (Bk R row old).L (Bh row R).ys new.ins
def RW.vw(w:RW):VW:=⟨[],w.regs,[],0⟩
def Gn(R:Nat)(old new:Block)(c:Cert)(i:Int)(next:List Int):Bool:=
  decide ((Bk R (c.at' i) old).out=(Cc R (c.at' i) old new).out)&&((!(old.fin==2)||rget (Bk R (c.at' i) old).regs old.v==rget (Cc R (c.at' i) old new).regs new.v)&&next.all fun k=>Fw (Bk R (c.at' i) old).vw (Cc R (c.at' i) old new).vw (c.at' k))
def N5(old new:BFunc)(c:Cert):Bool:=(old.blocks.zip new.blocks).zipIdx.all fun p=>Gn old.regs.toNat p.1.1 p.1.2 c (p.2:Int) p.1.1.nexts
def Eb(f:BFunc)(c:Cert):Bool:=decide (c.same.length=f.blocks.length)&&c.same.all fun r=>decide ((r.length:Int)=f.regs)
def Fc(old new:BFunc)(c:Cert):Bool:=vshaped old new&&(Eb old c&&N5 old new c)
variable {regs : List Int} {l : List Tac}
theorem bw(h:l[k]?=some t):EG L regs (l.take (k+1))=(EG L regs (l.take k)).step t:=by
 unfold EG;rw[AY h,List.foldl_append];rfl
theorem fJ(h:l.length<=k):EG L regs (l.take k)=EG L regs l:=by rw[q20 h]
theorem Tb(h:ROk R m ⟨L,regs,[],0⟩)(hl:∀t∈l,Nb t R):ROk R (m+2*l.length) (EG L regs l):=by
 unfold EG;generalize(⟨L,regs,[],0⟩:RW)=w at*
 induction l generalizing w m with
 |nil=>exact h
 |cons t l ih=>
  have h2:=ih (fun u hu=>hl u IY) _ (h.step (hl t z145q));rw[q70,show m+2*(l.length+1)=m+2+2*l.length by omega];exact h2
theorem US(h:ROk R m ⟨L,regs,[],0⟩)(hl:∀t∈l,Nb t R)(k:Nat):ROk R (m+2*l.length) (EG L regs (l.take k)):=
 (Tb h (l:=l.take k) (fun t ht=>hl t (List.mem_of_mem_take ht))).mono Ul
theorem ol(row:List Bool)(R:Nat):ROk R (2*R) ⟨(Bh row R).L,(Bh row R).xs,[],0⟩ where
 wn:=(DL row R).wn
 kl:=(DL row R).kl
 el:=qZ1 _
 tl:=⟨Int.le_refl 0,by show(0:Int)<=_;omega⟩
 vl:=(DL row R).xl
 v:=(DL row R).xv
theorem O2(l:List Tac):L.length<=(EG L regs l).L.length:=by
 unfold EG
 suffices h:∀(w:RW),w.L.length<=(l.foldl RW.step w).L.length by exact h ⟨L,regs,[],0⟩
 induction l with
 |nil=>exact fun w=>qZ0 _
 |cons t l ih=>
  intro w;have hp:=fun v=>(JQ (v:=v) (L:=w.L)).1
  refine qX2 ?_ (ih (w.step t));unfold RW.step
  cases t.op==1 with
  |true=>exact hp _
  |false=>
  cases t.op==2 with
  |true=>exact qZ0 _
  |false=>
  cases t.op==3 with
  |true=>show w.L.length<=((w.div t).put t.d (Bs w.L (C4 w t))).L.length;exact hp _
  |false=>
  cases t.op==4 with
  |true=>exact hp _
  |false=>
  cases t.op==5 with
  |true=>exact qZ0 _
  |false=>
  cases t.op==6 with
  |true=>exact hp _
  |false=>
  cases t.op==7 with
  |true=>exact qZ0 _
  |false=>
  cases t.op==8 with
  |true=>exact hp _
  |false=>
  cases t.op==9 with
  |true=>exact qZ0 _
  |false=>exact qZ0 _
theorem oh{row:List Bool}(hw:ROk R m w)(hm:(Bh row R).L.length<=w.L.length):ROk R m ⟨w.L,(Bh row R).ys,[],0⟩ where
 wn:=hw.wn
 kl:=hw.kl
 el:=qZ1 _
 tl:=⟨Int.le_refl 0,by show(0:Int)<=_;omega⟩
 vl:=(DL row R).yl
 v:=fun n hn=>by have:=(DL row R).yv n hn;exact⟨this.1,by show n<(w.L.length:Int);omega⟩
section
variable {R : Nat} {old new : Block} {c : Cert} {i : Int} {next : List Int}
theorem Rg(h:¬(Bk R (c.at' i) old).out=(Cc R (c.at' i) old new).out):Gn R old new c i next=false:=by
 grind[Gn,Bk,Cc]
theorem bu(hf:old.fin=2)(h:¬rget (Bk R (c.at' i) old).regs old.v=rget (Cc R (c.at' i) old new).regs new.v):Gn R old new c i next=false:=by
 grind[Gn,rget,Bk,Cc]
theorem bs{j:Nat}{nk:Int}(hj:next[j]?=some nk)(h:Fw (Bk R (c.at' i) old).vw (Cc R (c.at' i) old new).vw (c.at' nk)=false):Gn R old new c i next=false:=by
 unfold Gn
 grind
theorem br(h1:(Bk R (c.at' i) old).out=(Cc R (c.at' i) old new).out)(h2:old.fin=2->rget (Bk R (c.at' i) old).regs old.v=rget (Cc R (c.at' i) old new).regs new.v)(h3:(next.all fun k=>Fw (Bk R (c.at' i) old).vw (Cc R (c.at' i) old new).vw (c.at' k))=true):Gn R old new c i next=true:=by
 grind[Gn,Bk,Cc,rget,Fw]
end
variable {P : Program} {T : Nat -> Option Av} {h : Ad}
variable {k : Nat} {es : List (List AV)}
theorem ou{b sz o:Nat}{cs:List AV}(hb:h b=some (By sz es))(hi:es[k]?=some cs):PtsTo h (.ptr b es.length k o) [b] (cs.drop o):=by
 have hlt:k<es.length:=(q05.1 hi).1;rw[I5 hlt]at hb;exact .ptr b es.length k o true sz es cs hb rfl hi
variable {w : RW} {t : Tac}
theorem Xr(ho:t.op=1):w.step t=w.put t.d (Bs w.L ⟨1,0,0,0,0,0,0,0,t.n⟩):=by
 grind[RW.step,Bs]
theorem Xq(ho:t.op=2):w.step t={w with regs:=A5 w.regs t.d (rget w.regs t.a)}:=by
 grind[RW.step,A5,rget]
theorem Xp(ho:t.op=3):w.step t=w.bin t:=by
 grind[RW.step]
theorem Xo(ho:t.op=4):w.step t=w.put t.d (Bs w.L ⟨4,0,0,0,0,0,t.base,w.time,0⟩):=by
 grind[RW.step,Bs]
theorem fG(ho:t.op=5):w.step t=(w.eff ⟨t.op,0,t.base,0,rget w.regs t.a,0⟩).tick:=by
 grind[RW.step,rget]
theorem Xn(ho:t.op=6):w.step t=w.get t ⟨t.op,0,t.base,t.size,rget w.regs t.a,0⟩:=by
 grind[RW.step,rget]
theorem fF(ho:t.op=7):w.step t=(w.eff ⟨t.op,0,t.base,t.size,rget w.regs t.a,rget w.regs t.b⟩).tick:=by
 grind[RW.step,rget]
theorem Xm(ho:t.op=8):w.step t=w.get t ⟨t.op,0,0,0,0,0⟩:=by
 grind[RW.step]
theorem Xl(ho:t.op=9):w.step t=w.eff ⟨t.op,0,0,0,rget w.regs t.a,0⟩:=by
 grind[RW.step,rget]
theorem fH(h1:(t.op==1)=false)(h2:(t.op==2)=false)(h3:(t.op==3)=false)(h4:(t.op==4)=false)(h5:(t.op==5)=false)(h6:(t.op==6)=false)(h7:(t.op==7)=false)(h8:(t.op==8)=false)(h9:(t.op==9)=false):w.step t=(w.eff ⟨t.op,0,t.base,0,0,0⟩).tick:=by
 grind[RW.step]
variable {row : List Bool}
theorem KL{s:Int}(h:Gm row k=s):Bh row (k+1)=((Bh row k).first k).second k s:=by rw[<-h];rfl
theorem Q4(l:List Int)(n:Int):Bb (l++[n])=Bb l++[[AV.int .i64 n]]:=by simp[Bb]
theorem bg(l:List Int)(n:Int):some (By 1 (Bb l++[[AV.int .i64 n]]))=some (By 1 (Bb (l++[n]))):=by rw[Q4]
theorem bh(b:Nat)(l:List Int)(n:Int):some (A6 b (Bb l++[[AV.int .i64 n]]))=some (A6 b (Bb (l++[n]))):=by rw[Q4]
theorem Q5(l:List Int):∀cs∈Bb l,cs.all AV.isPure1=true:=fun cs hc=>by
 grind[Bb,AV.isPure1]
theorem eH:∀(i:Nat) (ds ds':List AV),[[AV.nil]][i]?=some ds->[[AV.lst true []]][i]?=some ds'->ds'.length=ds.length/\∀(j:Nat) (x y:AV),ds[j]?=some x->ds'[j]?=some y->(x.cell1=true->y.cell1=true)/\∀H ι v,Rel H ι x v->Rel H ι y v:=
 YZ rfl fun j x y hx hy=>by
  grind
variable {b : Bool}
theorem fx(h:row[k]?=some b)(hb:b=true):Gm row k=0:=by unfold Gm;rw[h,hb];rfl
theorem kN(h:row[k]?=some b)(hb:b=false):Gm row k=1:=by unfold Gm;rw[h,hb];rfl
variable {α : Type}
theorem kH{l l':List α}{x y:α}(hx:l[k]?=some x)(hy:l'[k]?=some y)(h:¬x=y):¬l=l':=fun e=>by
 grind
theorem bv{x y:REff}(h:(!x.same y)=true):¬x=y:=fun e=>by
 grind[REff.same_iff]
theorem Xv{x y:REff}(h:(!x.same y)=false):x=y:=(REff.same_iff x y).1 He
theorem Ra{l:List α}{n:Nat}(h:n=l.length):l.take n=l:=by rw[h,q71]
variable {f : BFunc}
theorem Xu{c:Cert}(h:((((c.same.map fun r=>[Cf r]).length:Nat):Int) !=(((f.blocks.map Block.cells).length:Nat):Int))=true):Eb f c=false:=by
 grind[Eb,List.length_map,Cf,Block.cells]
theorem Xt{c:Cert}{r:List Bool}(hr:c.same[k]?=some r)(h:¬(r.length:Int)=f.regs):Eb f c=false:=by
 grind[Eb,D7]
theorem Xs{c:Cert}(h1:c.same.length=f.blocks.length)(h2:(c.same.all fun r=>decide ((r.length:Int)=f.regs))=true):Eb f c=true:=by
 grind[Eb]
theorem bo{c:Cert}(h:Eb f c=true):c.same.length=f.blocks.length/\∀r∈c.same,(r.length:Int)=f.regs:=by
 simpa[Eb]using h
theorem XB{old new:BFunc}{c:Cert}(h:vshaped old new=false):Fc old new c=false:=by unfold Fc;rw[h];rfl
theorem XA{old new:BFunc}{c:Cert}(h:Eb old c=false):Fc old new c=false:=by unfold Fc;rw[h];simp
variable {x y : Block}
theorem Xz{old new:BFunc}{c:Cert}(hx:old.blocks[k]?=some x)(hy:new.blocks[k]?=some y)(h:Gn old.regs.toNat x y c (k:Int) x.nexts=false):Fc old new c=false:=by
 unfold Fc N5;rw[D7 (B8 (Mi hx hy)) (p:=fun p:(Block×Block)×Nat=>Gn old.regs.toNat p.1.1 p.1.2 c (p.2:Int) p.1.1.nexts) h]
 simp
theorem Xy{old new:BFunc}{c:Cert}(h1:vshaped old new=true)(h2:Eb old c=true)(h4:N5 old new c=true):Fc old new c=true:=by
 unfold Fc;rw[h1,h2,h4];rfl
inductive Tm where
  |old (v:Nat)
  |own (v:Nat)
  |cst (n:Int)
  |op (k:Int) (a b:Tm)
  |ld (base time:Int)
  |unk (n:Nat)
  deriving DecidableEq
structure SE where
  risk:Bool
  op:Int
  k:Int
  base:Int
  size:Int
  a:Option Tm
  b:Option Tm
  deriving DecidableEq
structure SS where
  regs:List Tm
  effs:List SE
  time:Int
def tget(l:List Tm)(z:Int):Tm:=(l[z.toNat]?).getD (.cst 0)
def tset(l:List Tm)(z:Int)(t:Tm):List Tm:=l.set z.toNat t
def Tm.isZero:Tm->Bool
  | .cst n=>n==0
  |_=>true
def trisky(k:Int)(b:Tm):Bool:=(k==7||k==8)&&b.isZero
def Ez(k:Int)(a b:Tm):Tm:=match a,b with
  | .cst x,.cst y=>bif trisky k (.cst y)then .op k a b else .cst (wapp k x y).1
  |_,_=>.op k a b
def SS.put(s:SS)(z:Int)(t:Tm):SS:={s with regs:=tset s.regs z t}
def SS.eff(s:SS)(e:SE):SS:={s with effs:=s.effs++[e]}
def SS.tick(s:SS):SS:={s with time:=s.time+1}
def SS.div(s:SS)(t:Tac):SS:=bif trisky t.k (tget s.regs t.b)then s.eff ⟨true,3,t.k,0,0,some (tget s.regs t.a),some (tget s.regs t.b)⟩else s
def SS.bin(s:SS)(t:Tac):SS:=(s.div t).put t.d (Ez t.k (tget s.regs t.a) (tget s.regs t.b))
def SS.get(s:SS)(t:Tac)(e:SE):SS:=(s.eff e).put t.d (.unk s.effs.length)
def SS.step(s:SS)(t:Tac):SS:=
  bif t.op==1 then s.put t.d (.cst t.n)
  else bif t.op==2 then s.put t.d (tget s.regs t.a)
  else bif t.op==3 then s.bin t
  else bif t.op==4 then s.put t.d (.ld t.base s.time)
  else bif t.op==5 then(s.eff ⟨false,5,0,t.base,0,some (tget s.regs t.a),none⟩).tick
  else bif t.op==6 then s.get t ⟨false,6,0,t.base,t.size,some (tget s.regs t.a),none⟩
  else bif t.op==7 then(s.eff ⟨false,7,0,t.base,t.size,some (tget s.regs t.a),some (tget s.regs t.b)⟩).tick
  else bif t.op==8 then s.get t ⟨false,8,0,0,0,none,none⟩
  else bif t.op==9 then s.eff ⟨false,9,0,0,0,some (tget s.regs t.a),none⟩
  else(s.eff ⟨false,10,0,t.base,0,none,none⟩).tick
structure Qm(t:Tac)(R:Nat):Prop extends Nb t R where
  op:1<=t.op/\t.op<=10
  k:t.op=3->4<=t.k/\t.k<=15
  want:t=t.want
def SE.wf(e:SE):Prop:=(e.risk=true/\e.op=3/\e.base=0/\e.size=0/\e.a.isSome/\e.b.isSome)\/
  (e.risk=false/\e.k=0/\(e.op=5/\e.size=0/\e.a.isSome/\e.b=none\/e.op=6/\e.a.isSome/\e.b=none\/e.op=7/\e.a.isSome/\e.b.isSome\/e.op=8/\e.base=0/\e.size=0/\e.a=none/\e.b=none\/e.op=9/\e.base=0/\e.size=0/\e.a.isSome/\e.b=none\/e.op=10/\e.size=0/\e.a=none/\e.b=none))
variable {s : SS}
theorem YD(h:∀e∈s.effs,e.wf)(t:Tac):∀e∈(s.step t).effs,e.wf:=by
 have hap:∀e:SE,e.wf->∀x∈s.effs++[e],x.wf:=fun e he x hx=>by
  grind
 unfold SS.step
 cases t.op==1 with
 |true=>exact h
 |false=>
 cases t.op==2 with
 |true=>exact h
 |false=>
 cases t.op==3 with
 |true=>
  show ∀e∈(s.div t).effs,e.wf
  unfold SS.div
  cases trisky t.k (tget s.regs t.b)with
  |true=>exact hap _ (.inl ⟨rfl,rfl,rfl,rfl,rfl,rfl⟩)
  |false=>exact h
 |false=>
 cases t.op==4 with
 |true=>exact h
 |false=>
 cases t.op==5 with
 |true=>exact hap _ (.inr ⟨rfl,rfl,.inl ⟨rfl,rfl,rfl,rfl⟩⟩)
 |false=>
 cases t.op==6 with
 |true=>exact hap _ (.inr ⟨rfl,rfl,.inr (.inl ⟨rfl,rfl,rfl⟩)⟩)
 |false=>
 cases t.op==7 with
 |true=>exact hap _ (.inr ⟨rfl,rfl,.inr (.inr (.inl ⟨rfl,rfl,rfl⟩))⟩)
 |false=>
 cases t.op==8 with
 |true=>exact hap _ (.inr ⟨rfl,rfl,.inr (.inr (.inr (.inl ⟨rfl,rfl,rfl,rfl,rfl⟩)))⟩)
 |false=>
 cases t.op==9 with
 |true=>exact hap _ (.inr ⟨rfl,rfl,.inr (.inr (.inr (.inr (.inl ⟨rfl,rfl,rfl,rfl,rfl⟩))))⟩)
 |false=>exact hap _ (.inr ⟨rfl,rfl,.inr (.inr (.inr (.inr (.inr ⟨rfl,rfl,rfl,rfl⟩))))⟩)
theorem SS.step_len(s:SS)(t:Tac):(s.step t).regs.length=s.regs.length:=by
 unfold SS.step
 cases t.op==1 with
 |true=>simp[SS.put,tset]
 |false=>
 cases t.op==2 with
 |true=>simp[SS.put,tset]
 |false=>
 cases t.op==3 with
 |true=>simp only[qZ7,qZ3,SS.bin,SS.put,tset,q83,SS.div];cases trisky t.k (tget s.regs t.b)<;>rfl
 |false=>
 cases t.op==4 with
 |true=>simp[SS.put,tset]
 |false=>
 cases t.op==5 with
 |true=>rfl
 |false=>
 cases t.op==6 with
 |true=>simp[SS.get,SS.put,SS.eff,tset]
 |false=>
 cases t.op==7 with
 |true=>rfl
 |false=>
 cases t.op==8 with
 |true=>simp[SS.get,SS.put,SS.eff,tset]
 |false=>
 cases t.op==9 with
 |true=>rfl
 |false=>rfl
def All2{α β:Type}(r:α->β->Prop):List α->List β->Prop
  | [],[]=>True
  |x::xs,y::ys=>r x y/\All2 r xs ys
  |_,_=>False
theorem All2.len{α β:Type}{r:α->β->Prop}:∀{l:List α} {m:List β},All2 r l m->l.length=m.length
 | [],[],_=>rfl
 |x::xs,y::ys,h=>by simp[All2.len h.2]
 | [],y::ys,h=>h.elim
 |x::xs,[],h=>h.elim
theorem All2.mono{α β:Type}{r r':α->β->Prop}(hr:∀x y,r x y->r' x y):∀{l:List α} {m:List β},All2 r l m->All2 r' l m
 | [],[],_=>trivial
 |x::xs,y::ys,h=>⟨hr _ _ h.1,All2.mono hr h.2⟩
 | [],y::ys,h=>h.elim
 |x::xs,[],h=>h.elim
theorem All2.snoc{α β:Type}{r:α->β->Prop}{x:α}{y:β}(hx:r x y):∀{l:List α} {m:List β},All2 r l m->All2 r (l++[x]) (m++[y])
 | [],[],_=>⟨hx,trivial⟩
 |a::l,b::m,h=>⟨h.1,All2.snoc hx h.2⟩
 | [],b::m,h=>h.elim
 |a::l,[],h=>h.elim
theorem All2.get{α β:Type}{r:α->β->Prop}:∀{l:List α} {m:List β},All2 r l m->∀{i:Nat} {x:α} {y:β},l[i]?=some x->m[i]?=some y->r x y
 | [],[],_,i,x,y,h1,_=>by simp at h1
 |a::l,b::m,h,0,x,y,h1,h2=>by simp at h1 h2;subst h1;subst h2;exact h.1
 |a::l,b::m,h,i+1,x,y,h1,h2=>All2.get h.2 Kl K7
 | [],b::m,h,_,_,_,_,_=>h.elim
 |a::l,[],h,_,_,_,_,_=>h.elim
theorem All2.set{α β:Type}{r:α->β->Prop}{x:α}{y:β}(hx:r x y):∀{l:List α} {m:List β} (i:Nat),All2 r l m->All2 r (l.set i x) (m.set i y)
 | [],[],_,_=>trivial
 |a::l,b::m,0,h=>⟨hx,h.2⟩
 |a::l,b::m,i+1,h=>⟨h.1,All2.set hx i h.2⟩
 | [],b::m,_,h=>h.elim
 |a::l,[],_,h=>h.elim
theorem Qt{α β:Type}{r r':α->β->Prop}{p:α->Prop}{q:α->Prop}(hf:∀x y y',p x->r x y->r' x y'->y=y')(hi:∀x x' y,p x->q x'->r x y->r' x' y->x=x'):∀{l l':List α} {m m':List β},(∀x∈l,p x)->(∀x∈l',q x)->All2 r l m->All2 r' l' m'->(m=m'↔l=l')
 | [],[],[],[],_,_,_,_=>by simp
 | [],x::l',[],y::m',_,_,_,_=>by simp
 |x::l,[],y::m,[],_,_,_,_=>by simp
 |x::l,x'::l',y::m,y'::m',hp,hq,h,h'=>by
  have ih:=Qt hf hi (l:=l) (l':=l') (m:=m) (m':=m') (fun z hz=>hp z (by simp[hz])) (fun z hz=>hq z (by simp[hz])) h.2 h'.2
  grind[All2]
 | [],_,_::_,_,_,_,h,_=>h.elim
 |_::_,_,[],_,_,_,h,_=>h.elim
 |_,[],_,_::_,_,_,_,h=>h.elim
 |_,_::_,_,[],_,_,_,h=>h.elim
variable {j : Nat}
theorem RH{l:List α}(h:l.Nodup){i:Nat}{x:α}(hi:l[i]?=some x)(hj:l[j]?=some x):i=j:=by
 obtain⟨h1,e1⟩:=q05.1 hi;obtain⟨h2,e2⟩:=q05.1 hj;have hp:=List.pairwise_iff_getElem.1 h
 grind
theorem Lz{l m:List α}(h:l<+:m){i:Nat}{x:α}(hi:l[i]?=some x):m[i]?=some x:=by
 obtain⟨r,rfl⟩:=h
 grind
def VN(R:Nat)(ts:List Tm):Tm->Int->Prop
  | .old v,n=>n=(v:Int)/\v<R
  | .own v,n=>n=((R+v:Nat):Int)/\v<R
  |t,n=>∃i:Nat,ts[i]?=some t/\n=((2*R+i:Nat):Int)
def VK(R:Nat)(ts:List Tm):Tm->List Int->Prop
  | .cst n,k=>k=[1,n,0,0]
  | .op o a b,k=>∃x y,VN R ts a x/\VN R ts b y/\k=[2,o,x,y]
  | .ld b τ,k=>k=[3,b,τ,0]
  | .unk n,k=>k=[4,(n:Int)+1,0,0]
  |_,_=>False
structure VT(R:Nat)(ts:List Tm)(K:List (List Int)):Prop where
  nd:ts.Nodup
  len:K.length=ts.length
  key:∀(i:Nat) (t:Tm) (k:List Int),ts[i]?=some t->K[i]?=some k->VK R ts t k
  word:∀(n:Int),Tm.cst n∈ts->Gp n
variable {R : Nat} {ts ts' : List Tm} {K : List (List Int)}
theorem VN.ext(hp:ts<+:ts'):∀{t:Tm} {n:Int},VN R ts t n->VN R ts' t n
 | .old _,_,h=>h
 | .own _,_,h=>h
 | .cst _,_,⟨i,h1,h2⟩=>⟨i,Lz hp h1,h2⟩
 | .op _ _ _,_,⟨i,h1,h2⟩=>⟨i,Lz hp h1,h2⟩
 | .ld _ _,_,⟨i,h1,h2⟩=>⟨i,Lz hp h1,h2⟩
 | .unk _,_,⟨i,h1,h2⟩=>⟨i,Lz hp h1,h2⟩
theorem VK.ext(hp:ts<+:ts'):∀{t:Tm} {k:List Int},VK R ts t k->VK R ts' t k
 | .cst _,_,h=>h
 | .op _ _ _,_,⟨x,y,h1,h2,h3⟩=>⟨x,y,h1.ext hp,h2.ext hp,h3⟩
 | .ld _ _,_,h=>h
 | .unk _,_,h=>h
variable {k : List Int} {t : Tm} {n : Int}
theorem jE(hk:VK R ts t k):VN R ts t n↔ ∃i:Nat,ts[i]?=some t/\n=((2*R+i:Nat):Int):=by
 cases t with
 |old=>exact hk.elim
 |own=>exact hk.elim
 |_=>exact Iff.rfl
theorem VN.cls(h:VN R ts t n):(∃v:Nat,t=.old v/\n=(v:Int)/\v<R)\/(∃v:Nat,t=.own v/\n=((R+v:Nat):Int)/\v<R)\/(∃i:Nat,ts[i]?=some t/\n=((2*R+i:Nat):Int)):=by
 cases t with
 |old v=>exact .inl ⟨v,rfl,h.1,h.2⟩
 |own v=>exact .inr (.inl ⟨v,rfl,h.1,h.2⟩)
 |_=>exact .inr (.inr h)
theorem VN.uniq(hnd:ts.Nodup)(hno:∀v,Tm.old v∉ts/\Tm.own v∉ts){m:Int}(h1:VN R ts t n)(h2:VN R ts t m):n=m:=by
 cases t with
 |old=>exact h1.1.trans h2.1.symm
 |own=>exact h1.1.trans h2.1.symm
 |_=>
  obtain⟨i,a1,a2⟩:=h1;obtain⟨j,b1,b2⟩:=h2;have:=RH hnd a1 b1;omega
theorem VN.inj{s:Tm}(h1:VN R ts t n)(h2:VN R ts s n):t=s:=by
 rcases h1.cls with⟨v,rfl,a1,a2⟩|⟨v,rfl,a1,a2⟩|⟨i,a1,a2⟩<;>rcases h2.cls with⟨u,rfl,b1,b2⟩|⟨u,rfl,b1,b2⟩|⟨j,b1,b2⟩
 . rw[show v=u by omega]
 . omega
 . omega
 . omega
 . rw[show v=u by omega]
 . omega
 . omega
 . omega
 . have:i=j:=by omega
   subst this;rw[a1]at b1;exact q86 b1
theorem VT.noreg(h:VT R ts K)(v:Nat):Tm.old v∉ts/\Tm.own v∉ts:=by
 constructor
 . intro hm;exact zt144
 . intro hm;exact zt144
theorem VT.uniq(h:VT R ts K){t:Tm}{n m:Int}(h1:VN R ts t n)(h2:VN R ts t m):n=m:=VN.uniq h.nd h.noreg h1 h2
theorem VK.uniq(h:VT R ts K):∀{t:Tm} {k k':List Int},VK R ts t k->VK R ts t k'->k=k'
 | .cst _,_,_,h1,h2=>h1.trans h2.symm
 | .op _ _ _,_,_,⟨x,y,a1,a2,a3⟩,⟨x',y',b1,b2,b3⟩=>by rw[a3,b3,h.uniq a1 b1,h.uniq a2 b2]
 | .ld _ _,_,_,h1,h2=>h1.trans h2.symm
 | .unk _,_,_,h1,h2=>h1.trans h2.symm
theorem VK.inj:∀{t s:Tm} {k:List Int},VK R ts t k->VK R ts s k->t=s
 | .cst n,.cst m,_,h1,h2=>by have:=h1.symm.trans h2;simp at this;rw[this]
 | .cst n,.op _ _ _,_,h1,⟨x,y,_,_,h2⟩=>by have:=h1.symm.trans h2;simp at this
 | .cst n,.ld _ _,_,h1,h2=>by have:=h1.symm.trans h2;simp at this
 | .cst n,.unk _,_,h1,h2=>by have:=h1.symm.trans h2;simp at this
 | .op _ _ _,.cst _,_,⟨x,y,_,_,h1⟩,h2=>by have:=h1.symm.trans h2;simp at this
 | .op o a b,.op o' a' b',_,⟨x,y,a1,a2,a3⟩,⟨x',y',b1,b2,b3⟩=>by
  grind[VN.inj,VK]
 | .op _ _ _,.ld _ _,_,⟨x,y,_,_,h1⟩,h2=>by have:=h1.symm.trans h2;simp at this
 | .op _ _ _,.unk _,_,⟨x,y,_,_,h1⟩,h2=>by have:=h1.symm.trans h2;simp at this
 | .ld _ _,.cst _,_,h1,h2=>by have:=h1.symm.trans h2;simp at this
 | .ld _ _,.op _ _ _,_,h1,⟨x,y,_,_,h2⟩=>by have:=h1.symm.trans h2;simp at this
 | .ld b τ,.ld b' τ',_,h1,h2=>by have:=h1.symm.trans h2;simp at this;rw[this.1,this.2]
 | .ld _ _,.unk _,_,h1,h2=>by have:=h1.symm.trans h2;simp at this
 | .unk _,.cst _,_,h1,h2=>by have:=h1.symm.trans h2;simp at this
 | .unk _,.op _ _ _,_,h1,⟨x,y,_,_,h2⟩=>by have:=h1.symm.trans h2;simp at this
 | .unk _,.ld _ _,_,h1,h2=>by have:=h1.symm.trans h2;simp at this
 | .unk n,.unk m,_,h1,h2=>by
  grind[VK]
theorem R1{k:List Int}:∀{K:List (List Int)},kidx k K=none->k∉K
 | [],_=>by simp
 |x::r,h=>by
  unfold kidx at h
  cases hx:k==x with
  |true=>rw[hx]at h;cases h
  |false=>
   rw[hx]at h;have h':kidx k r=none:=by simpa using h
   have:=R1 h';simp only[q99,not_or];exact⟨by simpa using hx,this⟩
theorem VT.num(h:VT R ts K)(hk:VK R ts t k)(hw:∀n,t=.cst n->Gp n):∃ts',ts<+:ts'/\VT R ts' (Ij ((2*R:Nat):Int) K k).2/\VN R ts' t (Ij ((2*R:Nat):Int) K k).1:=by
 cases e:kidx k K with
 |some i=>
  rw[eT e];obtain⟨h1,h2⟩:=ZR e;obtain⟨s,hs⟩:=Af (l:=ts) (k:=i) (by rw[<-h.len];exact h1);have:=VK.inj (h.key i s k hs h2) hk;subst this;exact⟨ts,q87,h,(jE hk).2 ⟨i,hs,by push_cast;omega⟩⟩
 |none=>
  rw[eU e];have hni:=R1 e;have hnt:t∉ts:=fun hm=>by
   obtain⟨i,hi⟩:=q27.1 hm;obtain⟨k',hk'⟩:=Af (l:=K) (k:=i) po;have:=VK.uniq h (h.key i t k' hi hk') hk;subst this;exact hni (q33 hk')
  have hp:ts<+:ts++[t]:=List.prefix_append _ _;refine⟨ts++[t],hp,⟨?_,?_,fun i s k' hs hk'=>?_,fun n hn=>?_⟩,?_⟩
  . rw[q65];exact⟨h.nd,by simp,fun a ha b hb=>by simp at hb;subst hb;exact fun e=>hnt (e▸ha)⟩
  . simp[h.len]
  . rw[List.getElem?_append]at hs hk';exact zt73
  . simp only[q78,q47]at hn;rcases hn with hn|hn
    . exact h.word n hn
    . exact hw n hn.symm
  . exact(jE (hk.ext hp)).2 ⟨ts.length,by simp,by rw[h.len];push_cast;omega⟩
theorem VT.cst(h:VT R ts K){t:Tm}{n:Int}(hn:VN R ts t n):(∃c,t=.cst c/\Gp c/\CD ((2*R:Nat):Int) K n=(c,true))\/((∀c,t≠ .cst c)/\(CD ((2*R:Nat):Int) K n).2=false):=by
 rcases hn.cls with⟨v,rfl,a1,a2⟩|⟨v,rfl,a1,a2⟩|⟨i,a1,a2⟩
 . exact .inr ⟨fun c=>by simp,by rw[Oz Df]⟩
 . exact .inr ⟨fun c=>by simp,by rw[Oz Df]⟩
 . obtain⟨k,hk⟩:=Af (l:=K) (k:=i) (by rw[h.len];exact(q05.1 a1).1);have hkey:=h.key i t k a1 hk;have hv:CD ((2*R:Nat):Int) K n=(IntKind.u32.wrap (rget k 1),rget k 0==1):=by
    unfold CD;rw[show decide (n<((2*R:Nat):Int))=false by simp;omega,show(n-((2*R:Nat):Int)).toNat=i by omega,hk];rfl
   rw[hv]
   cases t with
   |old=>exact hkey.elim
   |own=>exact hkey.elim
   |cst c=>
    have hc:=h.word c (q33 a1);have hk':k=[1,c,0,0]:=hkey;subst hk';refine .inl ⟨c,rfl,hc,?_⟩;show(IntKind.u32.wrap c,true)=_;rw[q75];obtain⟨h1,h2⟩:=hc;congr 1;omega
   |op o a b=>
    obtain⟨x,y,_,_,rfl⟩:=hkey;exact .inr ⟨fun c=>by simp,rfl⟩
   |ld b τ=>
    have hk':k=[3,b,τ,0]:=hkey;subst hk';exact .inr ⟨fun c=>by simp,rfl⟩
   |unk m=>
    have hk':k=[4,(m:Int)+1,0,0]:=hkey;subst hk';exact .inr ⟨fun c=>by simp,rfl⟩
def VO(R:Nat)(ts:List Tm):Option Tm->Int->Prop
  |none,n=>n=0
  |some t,n=>VN R ts t n
def VE(R:Nat)(ts:List Tm)(e:SE)(k:List Int):Prop:=∃x y,VO R ts e.a x/\VO R ts e.b y/\k=bif e.risk then [1,e.k,x,y,0,0]else [2,e.op,e.base,e.size,x,y]
structure VS(R:Nat)(ts:List Tm)(w:VW)(s:SS):Prop where
  t:VT R ts w.K
  regs:All2 (VN R ts) s.regs w.vals
  effs:All2 (VE R ts) s.effs w.effs
  time:w.time=s.time
theorem VO.ext(hp:ts<+:ts'):∀{t:Option Tm} {n:Int},VO R ts t n->VO R ts' t n
 |none,_,h=>h
 |some _,_,h=>VN.ext hp h
theorem VE.ext(hp:ts<+:ts'){e:SE}{k:List Int}:VE R ts e k->VE R ts' e k:=fun⟨x,y,h1,h2,h3⟩=>⟨x,y,h1.ext hp,h2.ext hp,h3⟩
variable {w : VW} {z : Int}
theorem VS.at(h:VS R ts w s)(hz:0<=z/\z<s.regs.length):VN R ts (tget s.regs z) (rget w.vals z):=by
 have hl:=h.regs.len;obtain⟨x,hx⟩:=Af (l:=s.regs) (k:=z.toNat) z144q;obtain⟨y,hy⟩:=Af (l:=w.vals) (k:=z.toNat) z144q;unfold tget rget;rw[hx,hy];exact h.regs.get hx hy
theorem VS.put{w:VW}{s:SS}(h:VS R ts w s)(z:Int){t:Tm}{k:List Int}(hk:VK R ts t k)(hw:∀n,t=.cst n->Gp n):∃ts',ts<+:ts'/\VS R ts' (w.put z (Ij ((2*R:Nat):Int) w.K k)) (s.put z t):=by
 exact nB
theorem VS.eff{w:VW}{s:SS}(h:VS R ts w s){e:SE}{k:List Int}(he:VE R ts e k):VS R ts {w with effs:=w.effs++[k]} (s.eff e):=⟨h.t,h.regs,h.effs.snoc he,h.time⟩
theorem VS.tick{w:VW}{s:SS}(h:VS R ts w s):VS R ts w.tick s.tick:=⟨h.t,h.regs,h.effs,by show w.time+1=s.time+1;rw[h.time]⟩
theorem VS.get{w:VW}{s:SS}(h:VS R ts w s)(t:Tac){e:SE}{a:Int}(he:VE R ts e [2,t.op,t.base,t.size,a,0]):∃ts',ts<+:ts'/\VS R ts' ((w.hap t a 0).put t.d (eR ((2*R:Nat):Int) (w.hap t a 0))) (s.get t e):=by
 have h1:VS R ts (w.hap t a 0) (s.eff e):=h.eff he;have hlen:(w.hap t a 0).effs.length=s.effs.length+1:=by
  have:=h.effs.len;show(w.effs++[_]).length=_;simp[this]
 refine h1.put t.d (t:=.unk s.effs.length) (k:=[4,((w.hap t a 0).effs.length:Int),0,0]) ?_ (fun n e=>by cases e);show _=_;rw[hlen];push_cast;rfl
theorem VS.risky(h:VS R ts w s){t:Tac}(hb:0<=t.b/\t.b<s.regs.length):SW ((2*R:Nat):Int) w t=trisky t.k (tget s.regs t.b):=by
 unfold SW trisky;congr 1;exact nN
variable {k : Int}
theorem eO{x y:Int}(hk:4<=k/\k<=15):((wapp k x y).2==0)= !(((k==7||k==8))&&y==0):=by
 unfold wapp;have h:k=4\/k=5\/k=6\/k=7\/k=8\/k=9\/k=10\/k=11\/k=12\/k=13\/k=14\/k=15:=by omega
 rcases h with rfl|rfl|rfl|rfl|rfl|rfl|rfl|rfl|rfl|rfl|rfl|rfl<;>first|rfl|(simp only[wdivide];cases y==0<;>rfl)
theorem VS.apply(h:VS R ts w s){t:Tac}(hk:4<=t.k/\t.k<=15)(ha:0<=t.a/\t.a<s.regs.length)(hb:0<=t.b/\t.b<s.regs.length):
 ∃k,Hv ((2*R:Nat):Int) w.K t.k (rget w.vals t.a) (rget w.vals t.b)=Ij ((2*R:Nat):Int) w.K k/\VK R ts (Ez t.k (tget s.regs t.a) (tget s.regs t.b)) k/\∀n,Ez t.k (tget s.regs t.a) (tget s.regs t.b)=.cst n->Gp n:=by
 have hna:=h.at ha;have hnb:=h.at hb;have hop:∀x y:Tm,VN R ts x (rget w.vals t.a)->VN R ts y (rget w.vals t.b)->VK R ts (.op t.k x y) [2,t.k,rget w.vals t.a,rget w.vals t.b]:=fun x y h1 h2=>⟨_,_,h1,h2,rfl⟩
 rcases h.t.cst hna with⟨c,h1,h2,h3⟩|⟨h1,h2⟩
 . rcases h.t.cst hnb with⟨d,g1,g2,g3⟩|⟨g1,g2⟩
   . rw[h1]at hna|-;rw[g1]at hnb|-;have herr:=eO (k:=t.k) (x:=c) (y:=d) hk
     cases hr:trisky t.k (.cst d)with
     |true=>
      have hr':((t.k==7||t.k==8)&&d==0)=true:=hr;refine⟨_,aI (by rw[h3,g3,herr,hr'];rfl),?_,?_⟩
      . simp only[Ez,hr,qZ7];exact hop _ _ hna hnb
      . simp only[Ez,hr,qZ7];intro n e;cases e
     |false=>
      have hr':((t.k==7||t.k==8)&&d==0)=false:=hr;refine⟨_,eX (by rw[h3]) (by rw[g3]) (by rw[h3,g3,herr,hr'];rfl),?_,?_⟩
      . simp only[Ez,hr,qZ3];rw[h3,g3];rfl
      . simp only[Ez,hr,qZ3];intro n e
        cases e
        exact wapp_word h2 g2
   . refine⟨_,aJ g2,?_,?_⟩
     . cases e2:tget s.regs t.b with
       |cst d=>exact absurd e2 (g1 d)
       |_=>rw[h1]at hna|-;rw[e2]at hnb;exact hop _ _ hna hnb
     . intro n e
       cases e2:tget s.regs t.b with
       |cst d=>exact absurd e2 (g1 d)
       |_=>rw[h1,e2]at e;cases e
 . refine⟨_,aK h2,?_,?_⟩
   . cases e1:tget s.regs t.a with
     |cst d=>exact absurd e1 (h1 d)
     |_=>rw[e1]at hna;exact hop _ _ hna hnb
   . intro n e
     cases e1:tget s.regs t.a with
     |cst d=>exact absurd e1 (h1 d)
     |_=>rw[e1]at e;cases e
theorem VS.step{w:VW}{s:SS}(h:VS R ts w s){t:Tac}(ht:Qm t R)(hl:s.regs.length=R):∃ts',ts<+:ts'/\VS R ts' (w.step ((2*R:Nat):Int) t) (s.step t):=by
 have hd:setsOp t.op=true->0<=t.d/\t.d<s.regs.length:=fun e=>by rw[hl];exact ht.d e
 have ha:use1 t.op=true\/use2 t.op=true->0<=t.a/\t.a<s.regs.length:=fun e=>by rw[hl];exact ht.a e
 have hb:use2 t.op=true->0<=t.b/\t.b<s.regs.length:=fun e=>by rw[hl];exact ht.b e
 have hw:=ht.want;have h10:t.op=1\/t.op=2\/t.op=3\/t.op=4\/t.op=5\/t.op=6\/t.op=7\/t.op=8\/t.op=9\/t.op=10:=by have:=ht.op;omega
 have hsz:Ie t.op=false->t.size=0:=fun e=>by have:=congrArg Tac.size hw;simp only[Tac.want,e,qZ3]at this;exact this
 have hbs:(baseOp t.op||(Ie t.op||t.op==10))=false->t.base=0:=fun e=>by have:=congrArg Tac.base hw;simp only[Tac.want,e,qZ3]at this;exact this
 rcases h10 with ho|ho|ho|ho|ho|ho|ho|ho|ho|ho
 . rw[pU ho,show s.step t=s.put t.d (.cst t.n) by unfold SS.step;rw[ho];rfl];exact h.put t.d rfl (fun n e=>by cases e;exact ht.n)
 . rw[pT ho,show s.step t=s.put t.d (tget s.regs t.a) by unfold SS.step;rw[ho];rfl];exact⟨ts,q87,h.t,h.regs.set (h.at (ha (.inl BI))) _,h.effs,h.time⟩
 . rw[pS ho,show s.step t=s.bin t by unfold SS.step;rw[ho];rfl];have ha':=ha (.inr BI);have hb':=hb BI;obtain⟨k,hk1,hk2,hk3⟩:=h.apply (ht.k ho) ha' hb';have hr:=h.risky hb';have h1:VS R ts (w.div ((2*R:Nat):Int) t) (s.div t):=by
    unfold VW.div SS.div;rw[hr]
    cases trisky t.k (tget s.regs t.b)with
    |true=>exact h.eff ⟨_,_,h.at ha',h.at hb',rfl⟩
    |false=>exact h
   unfold VW.bin SS.bin;rw[hk1];have:=h1.put t.d hk2 hk3;rwa[wm]at this
 . rw[pR ho,show s.step t=s.put t.d (.ld t.base s.time) by unfold SS.step;rw[ho];rfl];exact h.put t.d (by show _=_;rw[h.time]) (fun n e=>by cases e)
 . rw[pQ ho,show s.step t=(s.eff ⟨false,5,0,t.base,0,some (tget s.regs t.a),none⟩).tick by unfold SS.step;rw[ho];rfl];refine⟨ts,q87,VS.tick (h.eff ⟨_,_,h.at (ha (.inl BI)),rfl,?_⟩)⟩;rw[ho,hsz BI];rfl
 . rw[pP ho,show s.step t=s.get t ⟨false,6,0,t.base,t.size,some (tget s.regs t.a),none⟩ by unfold SS.step;rw[ho];rfl];refine h.get t ⟨_,_,h.at (ha (.inl BI)),rfl,?_⟩;rw[ho];rfl
 . rw[pO ho,show s.step t=(s.eff ⟨false,7,0,t.base,t.size,some (tget s.regs t.a),some (tget s.regs t.b)⟩).tick by unfold SS.step;rw[ho];rfl];refine⟨ts,q87,VS.tick (h.eff ⟨_,_,h.at (ha (.inr BI)),h.at (hb BI),?_⟩)⟩;rw[ho];rfl
 . rw[pN ho,show s.step t=s.get t ⟨false,8,0,0,0,none,none⟩ by unfold SS.step;rw[ho];rfl];refine h.get t ⟨_,_,rfl,rfl,?_⟩;rw[ho,hsz BI,hbs BI];rfl
 . rw[pM ho,show s.step t=s.eff ⟨false,9,0,0,0,some (tget s.regs t.a),none⟩ by unfold SS.step;rw[ho];rfl];refine⟨ts,q87,h.eff ⟨_,_,h.at (ha (.inl BI)),rfl,?_⟩⟩;rw[ho,hsz BI,hbs BI];rfl
 . rw[kz ho,show s.step t=(s.eff ⟨false,10,0,t.base,0,none,none⟩).tick by unfold SS.step;rw[ho];rfl];refine⟨ts,q87,VS.tick (h.eff ⟨_,_,rfl,rfl,?_⟩)⟩;rw[ho,hsz BI];rfl
def Cv(R:Nat):List Tm:=(List.range R).map Tm.old
def GL(row:List Bool)(v:Nat):Tm:=bif (row[v]?).getD false then .old v else .own v
def I4(R:Nat)(row:List Bool):List Tm:=(List.range R).map (GL row)
def CI(regs:List Tm)(l:List Tac):SS:=l.foldl SS.step ⟨regs,[],0⟩
def OJ(x y:List Tm)(row:List Bool):Bool:=row.zipIdx.all fun p=> !p.1||decide (tget x (p.2:Int)=tget y (p.2:Int))
def Nn(R:Nat)(old new:Block)(c:Cert)(i:Int)(next:List Int):Bool:=
  decide ((CI (Cv R) old.ins).effs=(CI (I4 R (c.at' i)) new.ins).effs)&&((!(old.fin==2)||decide (tget (CI (Cv R) old.ins).regs old.v=tget (CI (I4 R (c.at' i)) new.ins).regs new.v))&&next.all fun k=>OJ (CI (Cv R) old.ins).regs (CI (I4 R (c.at' i)) new.ins).regs (c.at' k))
theorem All2.map{α β γ:Type}{r:β->γ->Prop}{f:α->β}{g:α->γ}:∀{l:List α},(∀x∈l,r (f x) (g x))->All2 r (l.map f) (l.map g)
 | [],_=>trivial
 |x::l,h=>⟨h x z145q,All2.map fun y hy=>h y (by simp[hy])⟩
theorem Lj(regs:List Tm)(l:List Tac):(CI regs l).regs.length=regs.length:=by
 unfold CI
 suffices h:∀s:SS,(l.foldl SS.step s).regs.length=s.regs.length by exact h ⟨regs,[],0⟩
 induction l with
 |nil=>exact fun s=>rfl
 |cons t l ih=>exact fun s=>(ih _).trans (s.step_len t)
theorem N1(regs:List Tm)(l:List Tac):∀e∈(CI regs l).effs,e.wf:=by
 unfold CI
 suffices h:∀s:SS,(∀e∈s.effs,e.wf)->∀e∈(l.foldl SS.step s).effs,e.wf by exact h ⟨regs,[],0⟩ (fun e he=>by simp at he)
 induction l with
 |nil=>exact fun s h=>h
 |cons t l ih=>exact fun s h=>ih _ (YD h t)
theorem HQ(R:Nat):(Cv R).length=R:=by simp[Cv]
theorem Lh(R:Nat)(row:List Bool):(I4 R row).length=R:=by simp[I4]
variable {l : List Tac}
theorem VS.fold(hl:∀t∈l,Qm t R):∀{ts:List Tm} {w:VW} {s:SS},VS R ts w s->s.regs.length=R->∃ts',ts<+:ts'/\VS R ts' (eV ((2*R:Nat):Int) l w) (l.foldl SS.step s):=by
 induction l with
 |nil=>exact fun h _=>⟨_,q87,h⟩
 |cons t l ih=>
  intro ts w s h hr;exact zt138
theorem VE.uniq{K:List (List Int)}(hK:VT R ts K){e:SE}{k k':List Int}(h1:VE R ts e k)(h2:VE R ts e k'):k=k':=by
 obtain⟨x,y,a1,a2,a3⟩:=h1;obtain⟨x',y',b1,b2,b3⟩:=h2;have hu:∀{o:Option Tm} {n m:Int},VO R ts o n->VO R ts o m->n=m:=fun {o n m} g1 g2=>by
  cases o with
  |none=>exact g1.trans g2.symm
  |some t=>exact hK.uniq g1 g2
 grind
theorem VE.inj{e e':SE}{k:List Int}(hw:e.wf)(hw':e'.wf)(h1:VE R ts e k)(h2:VE R ts e' k):e=e':=by
 obtain⟨x,y,a1,a2,a3⟩:=h1;obtain⟨x',y',b1,b2,b3⟩:=h2;have hso:∀{o o':Option Tm} {n:Int},o.isSome->o'.isSome->VO R ts o n->VO R ts o' n->o=o':=fun {o o' n} g1 g2 g3 g4=>by
  cases o with
  |none=>cases g1
  |some t=>cases o' with
   |none=>cases g2
   |some s=>rw[VN.inj (R:=R) (ts:=ts) g3 g4]
 obtain⟨r,o,k1,ba,si,oa,ob⟩:=e;obtain⟨r',o',k1',ba',si',oa',ob'⟩:=e';have h3:=a3.symm.trans b3;rcases hw with⟨w1,w2,w3,w4,w5,w6⟩|⟨w1,w0,w2⟩<;>rcases hw' with⟨v1,v2,v3,v4,v5,v6⟩|⟨v1,v0,v2⟩<;>simp only at*
 . subst w1;subst v1;subst w2;subst v2;subst w3;subst v3;subst w4;subst v4;simp only[qZ7,q88,true_and,and_true]at h3;obtain⟨e1,e2,e3⟩:=h3;subst e1;subst e2;subst e3;rw[hso w5 v5 a1 b1,hso w6 v6 a2 b2]
 . subst w1;subst v1;simp at h3
 . subst w1;subst v1;simp at h3
 . subst w1;subst v1;subst w0;subst v0;simp only[qZ3,q88,true_and,and_true]at h3;obtain⟨e1,e2,e3,e4,e5⟩:=h3;subst e1;subst e2;subst e3;subst e4;subst e5;have hfin:oa=oa'->ob=ob'->(⟨false,o,0,ba,si,oa,ob⟩:SE)=⟨false,o,0,ba,si,oa',ob'⟩:=fun q1 q2=>by rw[q1,q2]
   rcases w2 with⟨u1,u2,u3,u4⟩|⟨u1,u3,u4⟩|⟨u1,u3,u4⟩|⟨u1,u2,u5,u3,u4⟩|⟨u1,u2,u5,u3,u4⟩|⟨u1,u2,u3,u4⟩<;>
    rcases v2 with⟨q1,q2,q3,q4⟩|⟨q1,q3,q4⟩|⟨q1,q3,q4⟩|⟨q1,q2,q5,q3,q4⟩|⟨q1,q2,q5,q3,q4⟩|⟨q1,q2,q3,q4⟩<;>first
     |(exfalso;omega)
     |exact hfin (hso u3 q3 a1 b1) (u4.trans q4.symm)
     |exact hfin (hso u3 q3 a1 b1) (hso u4 q4 a2 b2)
     |exact hfin (u3.trans q3.symm) (u4.trans q4.symm)
variable {b : Int}
theorem mw{a:Int}{p:Prop} [Decidable p](h:a=b↔p):(a==b)=decide p:=by
 grind
theorem All2.at{β:Type}{r:α->β->Prop}{l:List α}{m:List β}(h:All2 r l m){i:Nat}(hi:i<l.length):∃x y,l[i]?=some x/\m[i]?=some y/\r x y:=by
 obtain⟨x,hx⟩:=Af hi;obtain⟨y,hy⟩:=Af (l:=m) (k:=i) (by rw[<-h.len];exact hi);exact⟨x,y,hx,hy,h.get hx hy⟩
variable {rel rel' : Tm -> Int -> Prop} {xs ys : List Tm}
theorem Qk{α:Type}{us vs:List Int}(hu:∀t n m,rel t n->rel' t m->n=m)(hi:∀t s n,rel t n->rel' s n->t=s)(h1:All2 rel xs us)(h2:All2 rel' ys vs)(l1:xs.length=R)(l2:ys.length=R){z':Int}(hz:0<=z/\z<R)(hz':0<=z'/\z'<R):(rget us z==rget vs z')=decide (tget xs z=tget ys z'):=by
 obtain⟨x,a,x1,a1,r1⟩:=h1.at (i:=z.toNat) z144q;obtain⟨y,b,y1,b1,r2⟩:=h2.at (i:=z'.toNat) z144q;refine mw ?_
 grind[rget,tget,All2]
theorem JC{l:List α}{p q:α->Bool}(h:∀x∈l,p x=q x):l.all p=l.all q:=by
 grind
theorem Uu{wx wy:VW}(hu:∀t n m,rel t n->rel' t m->n=m)(hi:∀t s n,rel t n->rel' s n->t=s)(h1:All2 rel xs wx.vals)(h2:All2 rel' ys wy.vals)(l1:xs.length=R)(l2:ys.length=R)(hr:row.length=R):Fw wx wy row=OJ xs ys row:=by
 unfold Fw OJ;refine JC fun p hp=>?_
 obtain⟨b,j⟩:=p;obtain⟨i,hi'⟩:=q27.1 hp;rw[q37,q22]at hi';obtain⟨b',hb',e⟩:=hi';simp only[qQ8,q98]at e;obtain⟨rfl,rfl⟩:=e;have hlt:=(q05.1 hb').1;dsimp only;rw[Qk (α:=Unit) (R:=R) hu hi h1 h2 l1 l2 z144q z144q]
theorem kA{old new:Block}{c:Cert}{i:Int}{next:List Int}(ho:∀t∈old.ins,Qm t R)(hn:∀t∈new.ins,Qm t R)(hc:∀r∈c.same,r.length=R)(hnx:∀k∈next,0<=k/\k<c.same.length)(hv:old.fin=2->(0<=old.v/\old.v<R)/\(0<=new.v/\new.v<R)):
 eS R old new c i next=Nn R old new c i next:=by
 have h0:VS R [] ⟨[],wh R,[],0⟩ ⟨Cv R,[],0⟩:=⟨⟨List.nodup_nil,rfl,fun i t k h=>by simp at h,fun n h=>by simp at h⟩,All2.map fun v hv=>⟨rfl,q94.1 hv⟩,trivial,rfl⟩;obtain⟨ts1,hp1,h1⟩:=VS.fold ho h0 (HQ R);have h2:VS R ts1 ⟨(Oy R old).K,wg R (c.at' i),[],0⟩ ⟨I4 R (c.at' i),[],0⟩:=⟨h1.t,All2.map fun v hv=>by
  unfold GL og;have hlt:=q94.1 hv
  cases ((c.at' i)[v]?).getD false with
  |true=>exact⟨rfl,hlt⟩
  |false=>exact⟨rfl,hlt⟩,trivial,rfl⟩
 obtain⟨ts2,hp2,h3⟩:=VS.fold hn h2 (Lh R _);have hA1:All2 (VN R ts2) (CI (Cv R) old.ins).regs (Oy R old).vals:=h1.regs.mono fun x y h=>h.ext hp2
 have hA2:All2 (VE R ts2) (CI (Cv R) old.ins).effs (Oy R old).effs:=h1.effs.mono fun x y h=>h.ext hp2
 have hB1:All2 (VN R ts2) (CI (I4 R (c.at' i)) new.ins).regs (Ut R old new (c.at' i)).vals:=h3.regs;have hB2:All2 (VE R ts2) (CI (I4 R (c.at' i)) new.ins).effs (Ut R old new (c.at' i)).effs:=h3.effs;have lA:=(Lj (Cv R) old.ins).trans (HQ R);have lB:=(Lj (I4 R (c.at' i)) new.ins).trans (Lh R _);have hu:∀t n m,VN R ts2 t n->VN R ts2 t m->n=m:=fun t n m a b=>h3.t.uniq a b
 have hi:∀t s n,VN R ts2 t n->VN R ts2 s n->t=s:=fun t s n a b=>VN.inj a b
 unfold eS Nn;congr 1
 . exact decide_eq_decide.2 (Qt (r:=VE R ts2) (r':=VE R ts2) (p:=SE.wf) (q:=SE.wf) (fun e k k' _ a b=>VE.uniq h3.t a b) (fun e e' k p q a b=>VE.inj p q a b) (N1 _ _) (N1 _ _) hA2 hB2)
 congr 1
 . by_cases hf:old.fin=2
   . rw[Qk (α:=Unit) (R:=R) hu hi hA1 hB1 lA lB (hv hf).1 (hv hf).2]
   . rw[show(old.fin==2)=false by simpa using hf];rfl
 . refine JC fun k hk=>?_
   have hkr:=hnx k hk;have hrow:(c.at' k).length=R:=by
    obtain⟨r,hr⟩:=Af (l:=c.same) (k:=k.toNat) z144q;unfold Cert.at';rw[hr];exact hc r (q33 hr)
   exact Uu (R:=R) hu hi hA1 hB1 lA lB hrow
def RN(ts:List Tm)(t:Tm)(n:Int):Prop:=∃i:Nat,ts[i]?=some t/\n=(i:Int)
def RK(ts:List Tm):Tm->RVal->Prop
  | .cst n,k=>k=⟨1,0,0,0,0,0,0,0,n⟩
  | .op o a b,k=>∃x y,RN ts a x/\RN ts b y/\k=⟨3,o,x,y,0,0,0,0,0⟩
  | .ld b τ,k=>k=⟨4,0,0,0,0,0,b,τ,0⟩
  | .unk n,k=>k=E9 n
  | .old v,k=>k=RVal.reg v 0
  | .own v,k=>k=RVal.reg v 1
structure RT(ts:List Tm)(K:List RVal):Prop where
  nd:ts.Nodup
  len:K.length=ts.length
  key:∀(i:Nat) (t:Tm) (k:RVal),ts[i]?=some t->K[i]?=some k->RK ts t k
  word:∀(n:Int),Tm.cst n∈ts->Gp n
variable {K : List RVal}
theorem RN.ext(hp:ts<+:ts'):RN ts t n->RN ts' t n:=fun⟨i,h1,h2⟩=>⟨i,Lz hp h1,h2⟩
theorem RK.ext(hp:ts<+:ts'):∀{t:Tm} {k:RVal},RK ts t k->RK ts' t k
 | .cst _,_,h=>h
 | .op _ _ _,_,⟨x,y,h1,h2,h3⟩=>⟨x,y,h1.ext hp,h2.ext hp,h3⟩
 | .ld _ _,_,h=>h
 | .unk _,_,h=>h
 | .old _,_,h=>h
 | .own _,_,h=>h
theorem RN.uniq(hnd:ts.Nodup){m:Int}(h1:RN ts t n)(h2:RN ts t m):n=m:=by
 grind[RH,RN]
theorem RN.inj{s:Tm}(h1:RN ts t n)(h2:RN ts s n):t=s:=by
 grind[RN]
theorem RK.uniq(h:ts.Nodup):∀{t:Tm} {k k':RVal},RK ts t k->RK ts t k'->k=k'
 | .cst _,_,_,h1,h2=>h1.trans h2.symm
 | .op _ _ _,_,_,⟨x,y,a1,a2,a3⟩,⟨x',y',b1,b2,b3⟩=>by rw[a3,b3,RN.uniq h a1 b1,RN.uniq h a2 b2]
 | .ld _ _,_,_,h1,h2=>h1.trans h2.symm
 | .unk _,_,_,h1,h2=>h1.trans h2.symm
 | .old _,_,_,h1,h2=>h1.trans h2.symm
 | .own _,_,_,h1,h2=>h1.trans h2.symm
def Zb:Tm->Int
  | .cst _=>1
  | .op _ _ _=>3
  | .ld _ _=>4
  | .unk _=>2
  | .old _=>2
  | .own _=>2
def Y9:Tm->Int
  | .unk _=>2
  | .own _=>1
  |_=>0
theorem RK.kind{t:Tm}{k:RVal}(h:RK ts t k):k.kind=Zb t/\k.side=Y9 t:=by
 cases t with
 |op o a b=>obtain⟨x,y,_,_,rfl⟩:=h;exact⟨rfl,rfl⟩
 |_=>have h':k=_:=h;subst h';exact⟨rfl,rfl⟩
theorem RK.inj{t s:Tm}{k:RVal}(h1:RK ts t k)(h2:RK ts s k):t=s:=by
 have e1:=h1.kind;have e2:=h2.kind;have ek:Zb t=Zb s:=e1.1.symm.trans e2.1;have es:Y9 t=Y9 s:=e1.2.symm.trans e2.2
 cases t<;>cases s<;>first|(exfalso;revert ek;simp only[Zb];decide)|(exfalso;revert es;simp only[Y9];decide)|skip
 . have e:RVal.reg _ 0=RVal.reg _ 0:=(show k=_ from h1).symm.trans h2;simp only[RVal.reg,RVal.mk.injEq,true_and,and_true]at e;exact congrArg Tm.old (Int.ofNat_inj.1 e)
 . have e:RVal.reg _ 1=RVal.reg _ 1:=(show k=_ from h1).symm.trans h2;simp only[RVal.reg,RVal.mk.injEq,true_and,and_true]at e;exact congrArg Tm.own (Int.ofNat_inj.1 e)
 . have e:=(show k=_ from h1).symm.trans h2;simp only[RVal.mk.injEq,true_and,and_true]at e;rw[e]
 . obtain⟨x,y,a1,a2,a3⟩:=h1;obtain⟨x',y',b1,b2,b3⟩:=h2;have e:=a3.symm.trans b3;simp only[RVal.mk.injEq,true_and,and_true]at e;obtain⟨q1,q2,q3⟩:=e;subst q2;subst q3;rw[q1,RN.inj a1 b1,RN.inj a2 b2]
 . have e:=(show k=_ from h1).symm.trans h2;simp only[RVal.mk.injEq,true_and,and_true]at e;rw[e.1,e.2]
 . have e:E9 _=E9 _:=(show k=_ from h1).symm.trans h2;simp only[E9,RVal.mk.injEq,true_and,and_true]at e;exact congrArg Tm.unk (Int.ofNat_inj.1 e)
theorem Zv{v:RVal}:∀{L:List RVal},ridx v L=none->v∉L
 | [],_=>by simp
 |x::r,h=>by
  unfold ridx at h
  cases hx:x.same v with
  |true=>rw[hx]at h;cases h
  |false=>
   rw[hx]at h;have h':ridx v r=none:=by simpa using h
   have:=Zv h';simp only[q99,not_or];refine⟨fun e=>?_,this⟩;subst e;rw[(RVal.same_iff v v).2 rfl]at hx;cases hx
theorem RT.num(h:RT ts K){k:RVal}(hk:RK ts t k)(hw:∀n,t=.cst n->Gp n):∃ts',ts<+:ts'/\RT ts' (Bs K k).2/\RN ts' t (Bs K k).1:=by
 cases e:ridx k K with
 |some i=>
  rw[Lo e];obtain⟨h1,h2⟩:=Tc e;obtain⟨s,hs⟩:=Af (l:=ts) (k:=i) (by rw[<-h.len];exact h1);have:=RK.inj (h.key i s k hs h2) hk;subst this;exact⟨ts,q87,h,i,hs,rfl⟩
 |none=>
  rw[Lp e];have hni:=Zv e;have hnt:t∉ts:=fun hm=>by
   obtain⟨i,hi⟩:=q27.1 hm;obtain⟨k',hk'⟩:=Af (l:=K) (k:=i) po;have:=RK.uniq h.nd (h.key i t k' hi hk') hk;subst this;exact hni (q33 hk')
  have hp:ts<+:ts++[t]:=List.prefix_append _ _;refine⟨ts++[t],hp,⟨?_,?_,fun i s k' hs hk'=>?_,fun n hn=>?_⟩,?_⟩
  . rw[q65];exact⟨h.nd,by simp,fun a ha b hb=>by simp at hb;subst hb;exact fun e=>hnt (e▸ha)⟩
  . simp[h.len]
  . rw[List.getElem?_append]at hs hk';exact zt73
  . simp only[q78,q47]at hn;rcases hn with hn|hn
    . exact h.word n hn
    . exact hw n hn.symm
  . exact⟨ts.length,by simp,by rw[h.len]⟩
theorem RT.cst(h:RT ts K){t:Tm}{n:Int}(hn:RN ts t n):(∃c,t=.cst c/\Gp c/\Bu K n=(c,true))\/((∀c,t≠ .cst c)/\(Bu K n).2=false):=by
 obtain⟨i,a1,a2⟩:=hn;obtain⟨k,hk⟩:=Af (l:=K) (k:=i) (by rw[h.len];exact(q05.1 a1).1);have hkey:=h.key i t k a1 hk;have hv:Bu K n=(k.n,k.kind==1):=by
  unfold Bu Xk;rw[show n.toNat=i by omega,hk];rfl
 rw[hv]
 by_cases hc:∃c,t=.cst c
 . obtain⟨c,rfl⟩:=hc;have hk':k=⟨1,0,0,0,0,0,0,0,c⟩:=hkey;subst hk';exact .inl ⟨c,rfl,h.word c (q33 a1),rfl⟩
 . refine .inr ⟨fun c e=>hc ⟨c,e⟩,?_⟩;rw[hkey.kind.1]
   cases t<;>first|rfl|exact absurd ⟨_,rfl⟩ hc
def RO(ts:List Tm):Option Tm->Int->Prop
  |none,n=>n=0
  |some t,n=>RN ts t n
def RE(ts:List Tm)(e:SE)(k:REff):Prop:=∃x y,RO ts e.a x/\RO ts e.b y/\k=⟨e.op,e.k,e.base,e.size,x,y⟩
structure RS(ts:List Tm)(w:RW)(s:SS):Prop where
  t:RT ts w.L
  regs:All2 (RN ts) s.regs w.regs
  effs:All2 (RE ts) s.effs w.out
  time:w.time=s.time
theorem RO.ext(hp:ts<+:ts'):∀{t:Option Tm} {n:Int},RO ts t n->RO ts' t n
 |none,_,h=>h
 |some _,_,h=>RN.ext hp h
theorem RE.ext(hp:ts<+:ts'){e:SE}{k:REff}:RE ts e k->RE ts' e k:=fun⟨x,y,h1,h2,h3⟩=>⟨x,y,h1.ext hp,h2.ext hp,h3⟩
variable {w : RW}
theorem RS.at(h:RS ts w s)(hz:0<=z/\z<s.regs.length):RN ts (tget s.regs z) (rget w.regs z):=by
 have hl:=h.regs.len;obtain⟨x,hx⟩:=Af (l:=s.regs) (k:=z.toNat) z144q;obtain⟨y,hy⟩:=Af (l:=w.regs) (k:=z.toNat) z144q;unfold tget rget;rw[hx,hy];exact h.regs.get hx hy
theorem RS.put{w:RW}{s:SS}(h:RS ts w s)(z:Int){t:Tm}{k:RVal}(hk:RK ts t k)(hw:∀n,t=.cst n->Gp n):∃ts',ts<+:ts'/\RS ts' (w.put z (Bs w.L k)) (s.put z t):=by
 exact nB
theorem RS.eff{w:RW}{s:SS}(h:RS ts w s){e:SE}{k:REff}(he:RE ts e k):RS ts (w.eff k) (s.eff e):=⟨h.t,h.regs,h.effs.snoc he,h.time⟩
theorem RS.tick{w:RW}{s:SS}(h:RS ts w s):RS ts w.tick s.tick:=⟨h.t,h.regs,h.effs,by show w.time+1=s.time+1;rw[h.time]⟩
theorem RS.get{w:RW}{s:SS}(h:RS ts w s)(t:Tac){e:SE}{k:REff}(he:RE ts e k):∃ts',ts<+:ts'/\RS ts' (w.get t k) (s.get t e):=by
 have h1:RS ts (w.eff k) (s.eff e):=h.eff he;have:=h1.put t.d (t:=.unk s.effs.length) (k:=E9 w.out.length) (by show _=_;rw[h.effs.len]) (fun n e=>by cases e);exact this
variable {t : Tac}
theorem RS.risky(h:RS ts w s)(hb:0<=t.b/\t.b<s.regs.length):rrisky w t=trisky t.k (tget s.regs t.b):=by
 unfold rrisky trisky;congr 1;exact nN
theorem RS.apply(h:RS ts w s)(ha:0<=t.a/\t.a<s.regs.length)(hb:0<=t.b/\t.b<s.regs.length):
 RK ts (Ez t.k (tget s.regs t.a) (tget s.regs t.b)) (C4 w t)/\∀n,Ez t.k (tget s.regs t.a) (tget s.regs t.b)=.cst n->Gp n:=by
 have hna:=h.at ha;have hnb:=h.at hb;have hr:=h.risky hb;have hop:∀x y:Tm,RN ts x (rget w.regs t.a)->RN ts y (rget w.regs t.b)->RK ts (.op t.k x y) ⟨3,t.k,rget w.regs t.a,rget w.regs t.b,0,0,0,0,0⟩:=fun x y h1 h2=>⟨_,_,h1,h2,rfl⟩
 rcases h.t.cst hna with⟨c,h1,h2,h3⟩|⟨h1,h2⟩
 . rcases h.t.cst hnb with⟨d,g1,g2,g3⟩|⟨g1,g2⟩
   . rw[g1]at hr;rw[h1]at hna|-;rw[g1]at hnb|-
     cases hk:trisky t.k (.cst d)with
     |true=>
      rw[hk]at hr;rw[HV (by unfold EA;rw[hr];simp)];simp only[Ez,hk,qZ7];exact⟨hop _ _ hna hnb,fun n e=>by cases e⟩
     |false=>
      rw[hk]at hr;rw[MC (by unfold EA;rw[hr,h3,g3];rfl),h3,g3];simp only[Ez,hk,qZ3];exact⟨rfl,fun n e=>by cases e;exact wapp_word h2 g2⟩
   . rw[HV (by unfold EA;rw[g2];simp)];rw[h1]at hna|-
     cases e2:tget s.regs t.b with
     |cst d=>exact absurd e2 (g1 d)
     |_=>rw[e2]at hnb;exact⟨hop _ _ hna hnb,fun n e=>by cases e⟩
 . rw[HV (by unfold EA;rw[h2];rfl)]
   cases e1:tget s.regs t.a with
   |cst d=>exact absurd e1 (h1 d)
   |_=>rw[e1]at hna;exact⟨hop _ _ hna hnb,fun n e=>by cases e⟩
theorem RS.step{w:RW}{s:SS}(h:RS ts w s){t:Tac}(ht:Qm t R)(hl:s.regs.length=R):∃ts',ts<+:ts'/\RS ts' (w.step t) (s.step t):=by
 have ha:use1 t.op=true\/use2 t.op=true->0<=t.a/\t.a<s.regs.length:=fun e=>by rw[hl];exact ht.a e
 have hb:use2 t.op=true->0<=t.b/\t.b<s.regs.length:=fun e=>by rw[hl];exact ht.b e
 have h10:t.op=1\/t.op=2\/t.op=3\/t.op=4\/t.op=5\/t.op=6\/t.op=7\/t.op=8\/t.op=9\/t.op=10:=by have:=ht.op;omega
 rcases h10 with ho|ho|ho|ho|ho|ho|ho|ho|ho|ho
 . rw[Xr ho,show s.step t=s.put t.d (.cst t.n) by unfold SS.step;rw[ho];rfl];exact h.put t.d rfl (fun n e=>by cases e;exact ht.n)
 . rw[Xq ho,show s.step t=s.put t.d (tget s.regs t.a) by unfold SS.step;rw[ho];rfl];exact⟨ts,q87,h.t,h.regs.set (h.at (ha (.inl BI))) _,h.effs,h.time⟩
 . rw[Xp ho,show s.step t=s.bin t by unfold SS.step;rw[ho];rfl];have ha':=ha (.inr BI);have hb':=hb BI;obtain⟨hk2,hk3⟩:=h.apply ha' hb';have hr:=h.risky hb';have h1:RS ts (w.div t) (s.div t):=by
    unfold RW.div SS.div;rw[hr]
    cases trisky t.k (tget s.regs t.b)with
    |true=>exact h.eff ⟨_,_,h.at ha',h.at hb',by rw[ho]⟩
    |false=>exact h
   have:=h1.put t.d hk2 hk3;rw[fX]at this;exact this
 . rw[Xo ho,show s.step t=s.put t.d (.ld t.base s.time) by unfold SS.step;rw[ho];rfl];exact h.put t.d (by show _=_;rw[h.time]) (fun n e=>by cases e)
 . rw[fG ho,show s.step t=(s.eff ⟨false,5,0,t.base,0,some (tget s.regs t.a),none⟩).tick by unfold SS.step;rw[ho];rfl];exact⟨ts,q87,RS.tick (h.eff ⟨_,_,h.at (ha (.inl BI)),rfl,by rw[ho]⟩)⟩
 . rw[Xn ho,show s.step t=s.get t ⟨false,6,0,t.base,t.size,some (tget s.regs t.a),none⟩ by unfold SS.step;rw[ho];rfl];exact h.get t ⟨_,_,h.at (ha (.inl BI)),rfl,by rw[ho]⟩
 . rw[fF ho,show s.step t=(s.eff ⟨false,7,0,t.base,t.size,some (tget s.regs t.a),some (tget s.regs t.b)⟩).tick by unfold SS.step;rw[ho];rfl];exact⟨ts,q87,RS.tick (h.eff ⟨_,_,h.at (ha (.inr BI)),h.at (hb BI),by rw[ho]⟩)⟩
 . rw[Xm ho,show s.step t=s.get t ⟨false,8,0,0,0,none,none⟩ by unfold SS.step;rw[ho];rfl];exact h.get t ⟨_,_,rfl,rfl,by rw[ho]⟩
 . rw[Xl ho,show s.step t=s.eff ⟨false,9,0,0,0,some (tget s.regs t.a),none⟩ by unfold SS.step;rw[ho];rfl];exact⟨ts,q87,h.eff ⟨_,_,h.at (ha (.inl BI)),rfl,by rw[ho]⟩⟩
 . have hn:∀k:Int,k≠10->(t.op==k)=false:=fun k hk=>by rw[ho];simpa using Ne.symm hk
   rw[fH (hn 1 Aj) (hn 2 Aj) (hn 3 Aj) (hn 4 Aj) (hn 5 Aj) (hn 6 Aj) (hn 7 Aj) (hn 8 Aj) (hn 9 Aj),show s.step t=(s.eff ⟨false,10,0,t.base,0,none,none⟩).tick by unfold SS.step;rw[ho];rfl];exact⟨ts,q87,RS.tick (h.eff ⟨_,_,rfl,rfl,by rw[ho]⟩)⟩
theorem RS.fold(hl:∀t∈l,Qm t R):∀{ts:List Tm} {w:RW} {s:SS},RS ts w s->s.regs.length=R->∃ts',ts<+:ts'/\RS ts' (l.foldl RW.step w) (l.foldl SS.step s):=by
 induction l with
 |nil=>exact fun h _=>⟨_,q87,h⟩
 |cons t l ih=>
  intro ts w s h hr;exact zt138
theorem RE.uniq(hK:ts.Nodup){e:SE}{k k':REff}(h1:RE ts e k)(h2:RE ts e k'):k=k':=by
 obtain⟨x,y,a1,a2,a3⟩:=h1;obtain⟨x',y',b1,b2,b3⟩:=h2;have hu:∀{o:Option Tm} {n m:Int},RO ts o n->RO ts o m->n=m:=fun {o n m} g1 g2=>by
  cases o with
  |none=>exact g1.trans g2.symm
  |some t=>exact RN.uniq hK g1 g2
 grind
theorem RE.inj{e e':SE}{k:REff}(hw:e.wf)(hw':e'.wf)(h1:RE ts e k)(h2:RE ts e' k):e=e':=by
 obtain⟨x,y,a1,a2,a3⟩:=h1;obtain⟨x',y',b1,b2,b3⟩:=h2;have hso:∀{o o':Option Tm} {n:Int},o.isSome->o'.isSome->RO ts o n->RO ts o' n->o=o':=fun {o o' n} g1 g2 g3 g4=>by
  cases o with
  |none=>cases g1
  |some t=>cases o' with
   |none=>cases g2
   |some s=>rw[RN.inj (ts:=ts) g3 g4]
 obtain⟨r,o,k1,ba,si,oa,ob⟩:=e;obtain⟨r',o',k1',ba',si',oa',ob'⟩:=e';have h3:=a3.symm.trans b3;simp only[REff.mk.injEq]at h3;obtain⟨e1,e2,e3,e4,e5,e6⟩:=h3;subst e1;subst e2;subst e3;subst e4;subst e5;subst e6;have hfin:r=r'->oa=oa'->ob=ob'->(⟨r,o,k1,ba,si,oa,ob⟩:SE)=⟨r',o,k1,ba,si,oa',ob'⟩:=fun q0 q1 q2=>by rw[q0,q1,q2]
 rcases hw with⟨w1,w2,w3,w4,w5,w6⟩|⟨w1,w0,w2⟩<;>rcases hw' with⟨v1,v2,v3,v4,v5,v6⟩|⟨v1,v0,v2⟩<;>simp only at*
 . exact hfin (w1.trans v1.symm) (hso w5 v5 a1 b1) (hso w6 v6 a2 b2)
 . rcases v2 with v2|v2|v2|v2|v2|v2<;>(exfalso;have:=v2.1;omega)
 . rcases w2 with w2|w2|w2|w2|w2|w2<;>(exfalso;have:=w2.1;omega)
 . have hr:=w1.trans v1.symm;rcases w2 with⟨u1,u2,u3,u4⟩|⟨u1,u3,u4⟩|⟨u1,u3,u4⟩|⟨u1,u2,u5,u3,u4⟩|⟨u1,u2,u5,u3,u4⟩|⟨u1,u2,u3,u4⟩<;>
    rcases v2 with⟨q1,q2,q3,q4⟩|⟨q1,q3,q4⟩|⟨q1,q3,q4⟩|⟨q1,q2,q5,q3,q4⟩|⟨q1,q2,q5,q3,q4⟩|⟨q1,q2,q3,q4⟩<;>first
     |(exfalso;omega)
     |exact hfin hr (hso u3 q3 a1 b1) (u4.trans q4.symm)
     |exact hfin hr (hso u3 q3 a1 b1) (hso u4 q4 a2 b2)
     |exact hfin hr (u3.trans q3.symm) (u4.trans q4.symm)
theorem Zu(row:List Bool):∀k,∃ts,RT ts (Bh row k).L/\All2 (RN ts) ((List.range k).map Tm.old) (Bh row k).xs/\All2 (RN ts) ((List.range k).map (GL row)) (Bh row k).ys
 |0=>⟨[],⟨List.nodup_nil,rfl,fun i t k h=>by simp at h,fun n h=>by simp at h⟩,trivial,trivial⟩
 |k+1=>by
  obtain⟨ts,h1,h2,h3⟩:=Zu row k;obtain⟨ts1,p1,g1,g2⟩:=h1.num (t:=.old k) (k:=RVal.reg k 0) rfl (fun n e=>by cases e);have hk2:RK ts1 (GL row k) (RVal.reg k (Gm row k)):=by
   grind[GL,Gm,Bh,All2,RN,RVal.reg,RK]
  obtain⟨ts2,p2,g3,g4⟩:=g1.num (t:=GL row k) (k:=RVal.reg k (Gm row k)) hk2 (fun n e=>by
   unfold GL at e
   revert e
   cases (row[k]?).getD false<;>(intro e;cases e))
  refine⟨ts2,g3,?_,?_⟩
  . rw[q79,q77];exact(h2.mono fun x y h=>(h.ext p1).ext p2).snoc (g2.ext p2)
  . rw[q79,q77];exact(h3.mono fun x y h=>(h.ext p1).ext p2).snoc g4
theorem kY{old new:Block}{c:Cert}{i:Int}{next:List Int}(ho:∀t∈old.ins,Qm t R)(hn:∀t∈new.ins,Qm t R)(hc:∀r∈c.same,r.length=R)(hnx:∀k∈next,0<=k/\k<c.same.length)(hv:old.fin=2->(0<=old.v/\old.v<R)/\(0<=new.v/\new.v<R)):
 Gn R old new c i next=Nn R old new c i next:=by
 obtain⟨ts0,q1,q2,q3⟩:=Zu (c.at' i) R;have h0:RS ts0 ⟨(Bh (c.at' i) R).L,(Bh (c.at' i) R).xs,[],0⟩ ⟨Cv R,[],0⟩:=⟨q1,q2,trivial,rfl⟩;obtain⟨ts1,hp1,h1⟩:=RS.fold ho h0 (HQ R);have h2:RS ts1 ⟨(Bk R (c.at' i) old).L,(Bh (c.at' i) R).ys,[],0⟩ ⟨I4 R (c.at' i),[],0⟩:=⟨h1.t,q3.mono fun x y h=>h.ext hp1,trivial,rfl⟩;obtain⟨ts2,hp2,h3⟩:=RS.fold hn h2 (Lh R _);have hA1:All2 (RN ts2) (CI (Cv R) old.ins).regs (Bk R (c.at' i) old).vw.vals:=h1.regs.mono fun x y h=>h.ext hp2
 have hA2:All2 (RE ts2) (CI (Cv R) old.ins).effs (Bk R (c.at' i) old).out:=h1.effs.mono fun x y h=>h.ext hp2
 have hB1:All2 (RN ts2) (CI (I4 R (c.at' i)) new.ins).regs (Cc R (c.at' i) old new).vw.vals:=h3.regs;have hB2:All2 (RE ts2) (CI (I4 R (c.at' i)) new.ins).effs (Cc R (c.at' i) old new).out:=h3.effs;have lA:=(Lj (Cv R) old.ins).trans (HQ R);have lB:=(Lj (I4 R (c.at' i)) new.ins).trans (Lh R _);have hu:∀t n m,RN ts2 t n->RN ts2 t m->n=m:=fun t n m a b=>RN.uniq h3.t.nd a b
 have hi:∀t s n,RN ts2 t n->RN ts2 s n->t=s:=fun t s n a b=>RN.inj a b
 unfold Gn Nn;congr 1
 . exact decide_eq_decide.2 (Qt (r:=RE ts2) (r':=RE ts2) (p:=SE.wf) (q:=SE.wf) (fun e k k' _ a b=>RE.uniq h3.t.nd a b) (fun e e' k p q a b=>RE.inj p q a b) (N1 _ _) (N1 _ _) hA2 hB2)
 congr 1
 . by_cases hf:old.fin=2
   . rw[show(rget (Bk R (c.at' i) old).regs old.v==rget (Cc R (c.at' i) old new).regs new.v)=_ from Qk (α:=Unit) (R:=R) hu hi hA1 hB1 lA lB (hv hf).1 (hv hf).2]
   grind
 . refine JC fun k hk=>?_
   have hkr:=hnx k hk;have hrow:(c.at' k).length=R:=by
    grind[Af,Cert.at',List.mem_of_getElem?,Gn,Nn,Bh,Bk,All2,RN,CI,Cv,RE,I4,Cc]
   exact Uu (R:=R) hu hi hA1 hB1 lA lB hrow
theorem de(h:t.callOk=true)(h10:t.op=10):t=Hp t.base/\0<=t.base:=by
 grind[Tac.callOk,Tac.same_iff,Hp]
theorem Np(h:f.stands=true)(hx:x∈f.blocks)(ht:t∈x.ins)(hn:Gp t.n):Qm t f.regs.toNat:=by
 have hS:=Fy h;have hv:=hS.tacs x hx t ht hn;unfold BFunc.stands at h;rw[q66]at h;obtain⟨h1,h2⟩:=h
 by_cases h10:t.op=10
 . have hok:=q67.1 (q67.1 h1 x hx) t ht;obtain⟨e,_⟩:=de hok h10;exact⟨hv,⟨by omega,by omega⟩,fun e3=>by omega,by rw[e];rfl⟩
 . simp only[Blocks.right,q66,q56,q67]at h2;have h3:=h2.2.2.2 (f.bare,0) z145q;simp only[BFunc.one,q66,q67,BFunc.bare]at h3;have h4:=h3.2.2.2 x.bare (qX3.2 ⟨x,hx,rfl⟩);unfold Block.ok at h4;rw[q66,q67]at h4;have hf:=h4.2 t (q90.2 ⟨ht,by simpa using h10⟩);simp only[Tac.fits,q66,q56]at hf;obtain⟨f1,f2,f3,f4,f5,f6⟩:=hf;refine⟨hv,⟨f1,f2⟩,fun e3=>?_,(Tac.same_iff _ _).1 f6⟩;unfold Tac.rest at f5;rw[show(t.op==3)=true by simp[e3]]at f5;simpa using f5
def tblocks(old new:BFunc)(c:Cert):Bool:=(old.blocks.zip new.blocks).zipIdx.all fun p=>Nn old.regs.toNat p.1.1 p.1.2 c (p.2:Int) p.1.1.nexts
def OG(old new:BFunc)(c:Cert):Bool:=vshaped old new&&(decide (c.same.length=old.blocks.length)&&((c.same.all fun r=>decide ((r.length:Int)=old.regs))&&tblocks old new c))
def BFunc.words(f:BFunc):Prop:=∀x∈f.blocks,H6 x.ins
theorem Qd{old new:BFunc}{c:Cert}(ho:old.words)(hn:new.words):Ik old new c=OG old new c/\Fc old new c=OG old new c:=by
 unfold Ik Fc OG
 cases hs:vshaped old new with
 |false=>exact⟨rfl,rfl⟩
 |true=>
  have hV:=Ii hs;have hSo:=Fy hV.so;have hSn:=Fy hV.sn;simp only[qQ5]
  by_cases h1:c.same.length=old.blocks.length
  . by_cases h2:(c.same.all fun r=>decide ((r.length:Int)=old.regs))=true
    . have hR:((old.regs.toNat:Nat):Int)=old.regs:=q41 hSo.r0;have hc:∀r∈c.same,r.length=old.regs.toNat:=fun r hr=>by
       have:=q67.1 h2 r hr;simp only[q56]at this;omega
      have key:∀(p:(Block×Block)×Nat),p∈(old.blocks.zip new.blocks).zipIdx->(∀t∈p.1.1.ins,Qm t old.regs.toNat)/\(∀t∈p.1.2.ins,Qm t old.regs.toNat)/\(∀k∈p.1.1.nexts,0<=k/\k<c.same.length)/\(p.1.1.fin=2->(0<=p.1.1.v/\p.1.1.v<old.regs.toNat)/\(0<=p.1.2.v/\p.1.2.v<old.regs.toNat)):=by
       rintro⟨⟨x,y⟩,i⟩ hp
       obtain⟨j,hj⟩:=q27.1 hp;rw[q37,q22]at hj;obtain⟨q,hq,e⟩:=hj;obtain⟨x',y'⟩:=q;simp only[qQ8,q98]at e;obtain⟨⟨rfl,rfl⟩,rfl⟩:=e;rw[q11]at hq;obtain⟨hx,hy⟩:=hq;have hxm:=q33 hx;have hym:=q33 hy;have hb:=hV.b j x' y' hx hy;refine⟨fun t ht=>Np hV.so hxm ht (ho x' hxm t ht),fun t ht=>?_,fun k hk=>?_,fun hf=>?_⟩
       . rw[hV.regs];exact Np hV.sn hym ht (hn y' hym t ht)
       . rw[h1];exact hSo.next x' hxm k hk
       . dsimp only at hf|-;rw[hR];refine⟨hSo.v x' hxm hf,?_⟩;rw[hV.regs];exact hSn.v y' hym (by rw[<-hb.1];exact hf)
      constructor
      . congr 2;unfold Y6 tblocks;refine JC fun p hp=>?_
        obtain⟨k1,k2,k3,k4⟩:=key p hp;exact kA k1 k2 hc k3 k4
      . unfold Eb;rw[Bool.and_assoc];congr 2;unfold N5 tblocks;refine JC fun p hp=>?_
        obtain⟨k1,k2,k3,k4⟩:=key p hp;exact kY k1 k2 hc k3 k4
    . have h2':(c.same.all fun r=>decide ((r.length:Int)=old.regs))=false:=by simpa using h2
      unfold Eb;rw[h2']
      simp
  . unfold Eb;rw[q89 h1];exact⟨rfl,rfl⟩
theorem eW{old new:BFunc}{c:Cert}(ho:old.words)(hn:new.words):Ik old new c=Fc old new c:=(Qd ho hn).1.trans (Qd ho hn).2.symm
structure Cert.Ok(c:Cert):Prop where
  len:c.same.length*24<=reachBytes
  rows:∀r∈c.same,r.length*1<=reachBytes
def Tm.ren(row:List Bool):Tm->Tm
  | .old v=>GL row v
  | .own v=>.own v
  | .cst n=>.cst n
  | .op k a b=>.op k (a.ren row) (b.ren row)
  | .ld b τ=>.ld b τ
  | .unk n=>.unk n
def Tm.pure(R:Nat):Tm->Prop
  | .old v=>v<R
  | .own _=>False
  | .op _ a b=>a.pure R/\b.pure R
  |_=>True
def Tm.inR(row:List Bool):Tm->Prop
  | .old v=>row[v]?=some true
  | .own _=>False
  | .op _ a b=>a.inR row/\b.inR row
  |_=>True
theorem Tm.ren_iff{R:Nat}{row:List Bool}(hr:row.length=R):∀{t s:Tm},t.pure R->s.pure R->(s=t.ren row↔s=t/\t.inR row)
 | .old v,s,ht,hs=>by
  have hv:v<row.length:=by rw[hr];exact ht
  obtain⟨b,hb⟩:=Af hv;have e:(Tm.old v).ren row=GL row v:=rfl;have hi:(Tm.old v).inR row↔row[v]?=some true:=Iff.rfl;rw[e,hi,hb];unfold GL;rw[hb]
  cases b with
  |true=>simp
  |false=>
   simp only[q72,qZ3,q53,q50,and_false,iff_false];intro h;subst h;exact hs.elim
 | .own v,s,ht,hs=>ht.elim
 | .cst n,s,ht,hs=>by simp[Tm.ren,Tm.inR]
 | .ld b τ,s,ht,hs=>by simp[Tm.ren,Tm.inR]
 | .unk n,s,ht,hs=>by simp[Tm.ren,Tm.inR]
 | .op k a b,s,ht,hs=>by
  constructor
  . intro h
    cases s with
    |op k' a' b'=>
     simp only[Tm.ren,Tm.op.injEq]at h;obtain⟨h1,h2,h3⟩:=h;obtain⟨g1,g2⟩:=(Tm.ren_iff hr ht.1 hs.1).1 h2;obtain⟨g3,g4⟩:=(Tm.ren_iff hr ht.2 hs.2).1 h3;exact⟨by rw[h1,g1,g3],g2,g4⟩
    |_=>simp[Tm.ren]at h
  . rintro⟨rfl,h1,h2⟩
    simp only[Tm.ren,Tm.op.injEq,true_and];exact⟨(Tm.ren_iff hr ht.1 ht.1).2 ⟨rfl,h1⟩,(Tm.ren_iff hr ht.2 ht.2).2 ⟨rfl,h2⟩⟩
def bS(row:List Bool):Option Tm->Option Tm:=Option.map (Tm.ren row)
def SE.ren(row:List Bool)(e:SE):SE:={e with a:=bS row e.a,b:=bS row e.b}
def Vk(R:Nat):Option Tm->Prop
  |none=>True
  |some t=>t.pure R
def gO(row:List Bool):Option Tm->Prop
  |none=>True
  |some t=>t.inR row
def SE.pure(R:Nat)(e:SE):Prop:=Vk R e.a/\Vk R e.b
def SE.inR(row:List Bool)(e:SE):Prop:=gO row e.a/\gO row e.b
theorem Vj(hr:row.length=R){t s:Option Tm}(ht:Vk R t)(hs:Vk R s):s=bS row t↔s=t/\gO row t:=by
 cases t with
 |none=>simp[bS,gO]
 |some t=>
  cases s with
  |none=>simp[bS]
  |some s=>
   simp only[bS,q80,q53];exact Tm.ren_iff hr ht hs
variable {e : SE}
theorem SE.ren_iff(hr:row.length=R){f:SE}(he:e.pure R)(hf:f.pure R):f=e.ren row↔f=e/\e.inR row:=by
 have h1:=Vj hr he.1 hf.1;have h2:=Vj hr he.2 hf.2
 cases e with
 |mk r o k ba si a b=>
  cases f with
  |mk r' o' k' ba' si' a' b'=>
   simp only[SE.ren,SE.mk.injEq,SE.inR]at h1 h2|-;rw[h1,h2];constructor
   . rintro⟨e1,e2,e3,e4,e5,⟨e6,e7⟩,e8,e9⟩;exact⟨⟨e1,e2,e3,e4,e5,e6,e8⟩,e7,e9⟩
   . rintro⟨⟨e1,e2,e3,e4,e5,e6,e8⟩,e7,e9⟩;exact⟨e1,e2,e3,e4,e5,⟨e6,e7⟩,e8,e9⟩
theorem V6{R:Nat}{row:List Bool}(hr:row.length=R):∀{l m:List SE},(∀e∈l,e.pure R)->(∀e∈m,e.pure R)->(l=m.map (SE.ren row)↔l=m/\∀e∈m,e.inR row)
 | [],[],_,_=>by simp
 | [],e::m,_,_=>by simp
 |f::l,[],_,_=>by simp
 |f::l,e::m,hl,hm=>by
  have ih:=V6 hr (l:=l) (m:=m) (fun x hx=>hl x HI) (fun x hx=>hm x HI);have h1:=SE.ren_iff hr (hm e z145q) (hl f z145q)
  grind
def SS.ren(row:List Bool)(s:SS):SS:=⟨s.regs.map (Tm.ren row),s.effs.map (SE.ren row),s.time⟩
structure SS.pure(R:Nat)(s:SS):Prop where
  regs:∀t∈s.regs,t.pure R
  effs:∀e∈s.effs,e.pure R
theorem UB(row:List Bool)(l:List Tm)(z:Int):tget (l.map (Tm.ren row)) z=(tget l z).ren row:=by
 grind[tget,Tm.ren]
theorem fb(row:List Bool)(l:List Tm)(z:Int)(t:Tm):tset (l.map (Tm.ren row)) z (t.ren row)=(tset l z t).map (Tm.ren row):=by
 unfold tset;rw[List.map_set]
theorem OP(row:List Bool)(v:Nat):GL row v=.old v\/GL row v=.own v:=by
 grind[GL]
theorem QR(row:List Bool)(t:Tm):(t.ren row).isZero=t.isZero:=by
 cases t with
 |old v=>rcases OP row v with h|h<;>(show(GL row v).isZero=true;rw[h];rfl)
 |_=>rfl
theorem aZ(row:List Bool)(k:Int)(a b:Tm):Ez k (a.ren row) (b.ren row)=(Ez k a b).ren row:=by
 have hop:∀x y:Tm,(∀n,x≠ .cst n)\/(∀n,y≠ .cst n)->Ez k x y=.op k x y:=fun x y h=>by
  cases x<;>cases y<;>first|rfl|(exfalso;rcases h with h|h<;>exact h _ rfl)
 have hne:∀t:Tm,(∀n,t≠ .cst n)->∀n,t.ren row≠ .cst n:=fun t h n e=>by
  cases t with
  |old v=>rcases OP row v with g|g<;>(rw[show(Tm.old v).ren row=GL row v from rfl,g]at e;cases e)
  |cst m=>exact h m rfl
  |_=>cases e
 by_cases ha:∃x,a=.cst x
 . obtain⟨x,rfl⟩:=ha
   by_cases hb:∃y,b=.cst y
   . obtain⟨y,rfl⟩:=hb;show Ez k (.cst x) (.cst y)=_;simp only[Ez]
     cases trisky k (.cst y)<;>rfl
   . have hb':∀n,b≠ .cst n:=fun n e=>hb ⟨n,e⟩
     rw[hop _ _ (.inr hb'),hop _ _ (.inr (hne b hb'))];rfl
 . have ha':∀n,a≠ .cst n:=fun n e=>ha ⟨n,e⟩
   rw[hop _ _ (.inl ha'),hop _ _ (.inl (hne a ha'))];rfl
theorem WX(row:List Bool)(k:Int)(b:Tm):trisky k (b.ren row)=trisky k b:=by unfold trisky;rw[QR]
theorem Ha(row:List Bool)(s:SS)(z:Int)(t:Tm):(s.ren row).put z (t.ren row)=(s.put z t).ren row:=by
 grind[SS.put,SS.ren,fb]
theorem FO(row:List Bool)(s:SS)(e:SE):(s.ren row).eff (e.ren row)=(s.eff e).ren row:=by
 simp[SS.eff,SS.ren]
theorem Qo(row:List Bool)(s:SS)(t:Tac)(e:SE):(s.ren row).get t (e.ren row)=(s.get t e).ren row:=by
 unfold SS.get;rw[FO,<-Ha];simp[SS.ren,Tm.ren]
theorem Wo(row:List Bool)(s:SS)(t:Tac):(s.ren row).step t=(s.step t).ren row:=by
 have hg:∀z,tget (s.ren row).regs z=(tget s.regs z).ren row:=fun z=>UB row s.regs z
 unfold SS.step
 cases t.op==1 with
 |true=>exact Ha row s t.d (.cst t.n)
 |false=>
 cases t.op==2 with
 |true=>simp only[qZ7,qZ3];rw[hg];exact Ha row s t.d _
 |false=>
 cases t.op==3 with
 |true=>
  simp only[qZ7,qZ3];unfold SS.bin;have hd:(s.ren row).div t=(s.div t).ren row:=by
   unfold SS.div;rw[hg,hg,WX]
   cases trisky t.k (tget s.regs t.b)with
   |true=>exact FO row s ⟨true,3,t.k,0,0,some (tget s.regs t.a),some (tget s.regs t.b)⟩
   |false=>rfl
  rw[hd,hg,hg,aZ];exact Ha row (s.div t) t.d _
 |false=>
 cases t.op==4 with
 |true=>exact Ha row s t.d (.ld t.base s.time)
 |false=>
 cases t.op==5 with
 |true=>
  simp only[qZ7,qZ3];rw[hg];exact congrArg SS.tick (FO row s ⟨false,5,0,t.base,0,some (tget s.regs t.a),none⟩)
 |false=>
 cases t.op==6 with
 |true=>
  simp only[qZ7,qZ3];rw[hg];exact Qo row s t ⟨false,6,0,t.base,t.size,some (tget s.regs t.a),none⟩
 |false=>
 cases t.op==7 with
 |true=>
  simp only[qZ7,qZ3];rw[hg,hg];exact congrArg SS.tick (FO row s ⟨false,7,0,t.base,t.size,some (tget s.regs t.a),some (tget s.regs t.b)⟩)
 |false=>
 cases t.op==8 with
 |true=>exact Qo row s t ⟨false,8,0,0,0,none,none⟩
 |false=>
 cases t.op==9 with
 |true=>
  simp only[qZ7,qZ3];rw[hg];exact FO row s ⟨false,9,0,0,0,some (tget s.regs t.a),none⟩
 |false=>exact congrArg SS.tick (FO row s ⟨false,10,0,t.base,0,none,none⟩)
theorem fu(R:Nat)(row:List Bool)(l:List Tac):CI (I4 R row) l=(CI (Cv R) l).ren row:=by
 have h0:(⟨I4 R row,[],0⟩:SS)=(⟨Cv R,[],0⟩:SS).ren row:=by
  simp[SS.ren,I4,Cv,Tm.ren]
 unfold CI;rw[h0];generalize(⟨Cv R,[],0⟩:SS)=s
 induction l generalizing s with
 |nil=>rfl
 |cons t l ih=>rw[q85,q85,Wo,ih]
variable {l : List Tm}
theorem HP(h:∀t∈l,t.pure R)(z:Int):(tget l z).pure R:=by
 unfold tget
 cases e:l[z.toNat]? with
 |none=>exact trivial
 |some t=>exact h t (q33 e)
theorem aP(h:∀t∈l,t.pure R)(z:Int){t:Tm}(ht:t.pure R):∀x∈tset l z t,x.pure R:=fun x hx=>by
 grind[tset]
theorem W1{a b:Tm}(ha:a.pure R)(hb:b.pure R):(Ez k a b).pure R:=by
 have hop:(Tm.op k a b).pure R:=⟨ha,hb⟩
 cases a with
 |cst x=>
  cases b with
  |cst y=>
   simp only[Ez]
   cases trisky k (.cst y)with
   |true=>exact hop
   |false=>exact trivial
  |_=>exact hop
 |_=>exact hop
theorem SS.pure.put_pure(h:s.pure R)(z:Int){t:Tm}(ht:t.pure R):(s.put z t).pure R:=⟨aP h.regs z ht,h.effs⟩
theorem SS.pure.eff_pure(h:s.pure R)(he:e.pure R):(s.eff e).pure R:=⟨h.regs,fun x hx=>by
 have hx':x∈s.effs++[e]:=hx;simp only[q78,q47]at hx';rcases hx' with hx'|rfl
 . exact h.effs x hx'
 . exact he⟩
theorem SS.pure.step_pure(h:s.pure R)(t:Tac):(s.step t).pure R:=by
 have hg:=fun z=>HP h.regs z
 have hp:=fun(z:Int) (t:Tm) (ht:t.pure R)=>h.put_pure z ht
 unfold SS.step
 cases t.op==1 with
 |true=>exact hp _ (.cst t.n) trivial
 |false=>
 cases t.op==2 with
 |true=>exact hp _ _ (hg _)
 |false=>
 cases t.op==3 with
 |true=>
  have hd:(s.div t).pure R:=by
   unfold SS.div
   cases trisky t.k (tget s.regs t.b)with
   |true=>exact h.eff_pure ⟨hg _,hg _⟩
   |false=>exact h
  exact hd.put_pure _ (W1 (hg _) (hg _))
 |false=>
 cases t.op==4 with
 |true=>exact hp _ (.ld t.base s.time) trivial
 |false=>
 cases t.op==5 with
 |true=>exact⟨(h.eff_pure (e:=⟨false,5,0,t.base,0,some (tget s.regs t.a),none⟩) ⟨hg _,trivial⟩).regs,(h.eff_pure (e:=⟨false,5,0,t.base,0,some (tget s.regs t.a),none⟩) ⟨hg _,trivial⟩).effs⟩
 |false=>
 cases t.op==6 with
 |true=>exact(h.eff_pure (e:=⟨false,6,0,t.base,t.size,some (tget s.regs t.a),none⟩) ⟨hg _,trivial⟩).put_pure _ (t:=.unk s.effs.length) trivial
 |false=>
 cases t.op==7 with
 |true=>exact⟨(h.eff_pure (e:=⟨false,7,0,t.base,t.size,some (tget s.regs t.a),some (tget s.regs t.b)⟩) ⟨hg _,hg _⟩).regs,(h.eff_pure (e:=⟨false,7,0,t.base,t.size,some (tget s.regs t.a),some (tget s.regs t.b)⟩) ⟨hg _,hg _⟩).effs⟩
 |false=>
 cases t.op==8 with
 |true=>exact(h.eff_pure (e:=⟨false,8,0,0,0,none,none⟩) ⟨trivial,trivial⟩).put_pure _ (t:=.unk s.effs.length) trivial
 |false=>
 cases t.op==9 with
 |true=>exact h.eff_pure ⟨hg _,trivial⟩
 |false=>exact⟨(h.eff_pure (e:=⟨false,10,0,t.base,0,none,none⟩) ⟨trivial,trivial⟩).regs,(h.eff_pure (e:=⟨false,10,0,t.base,0,none,none⟩) ⟨trivial,trivial⟩).effs⟩
theorem Mr(R:Nat)(l:List Tac):(CI (Cv R) l).pure R:=by
 unfold CI;have h0:(⟨Cv R,[],0⟩:SS).pure R:=⟨fun t ht=>by
  simp only[Cv,qX3,q94]at ht;obtain⟨v,hv,rfl⟩:=ht;exact hv,fun e he=>by simp at he⟩
 generalize(⟨Cv R,[],0⟩:SS)=s at*
 induction l generalizing s with
 |nil=>exact h0
 |cons t l ih=>exact ih _ (h0.step_pure t)
def VR(R:Nat)(x y:Block)(c:Cert)(i:Int)(next:List Int):Prop:=
  (CI (Cv R) x.ins).effs=(CI (Cv R) y.ins).effs/\(∀e∈(CI (Cv R) y.ins).effs,e.inR (c.at' i))/\
  (x.fin=2->tget (CI (Cv R) x.ins).regs x.v=tget (CI (Cv R) y.ins).regs y.v/\(tget (CI (Cv R) y.ins).regs y.v).inR (c.at' i))/\
  ∀k∈next,∀j:Nat,(c.at' k)[j]?=some true->tget (CI (Cv R) x.ins).regs (j:Int)=tget (CI (Cv R) y.ins).regs (j:Int)/\(tget (CI (Cv R) y.ins).regs (j:Int)).inR (c.at' i)
theorem W7{x y:List Tm}:OJ x y row=true↔ ∀j:Nat,row[j]?=some true->tget x (j:Int)=tget y (j:Int):=by
 unfold OJ;rw[q67];constructor
 . intro h j hb;have:=h (true,j) (q33 (B8 hb));simpa using this
 . rintro h ⟨b,j⟩ hp
   obtain⟨i,hi⟩:=q27.1 hp;rw[q37,q22]at hi;obtain⟨b',hb',e⟩:=hi;simp only[qQ8,q98]at e;obtain⟨rfl,rfl⟩:=e
   cases b' with
   |false=>rfl
   |true=>simpa using h _ hb'
theorem Q7{c:Cert}{i:Int}{next:List Int}(hr:(c.at' i).length=R):Nn R x y c i next=true↔VR R x y c i next:=by
 have hx:=Mr R x.ins;have hy:=Mr R y.ins;unfold Nn VR;rw[fu,q66,q66,q56,q67];have h1:(CI (Cv R) x.ins).effs=((CI (Cv R) y.ins).ren (c.at' i)).effs↔_:=V6 hr hx.effs hy.effs;rw[h1,and_assoc];refine and_congr_right fun _=>and_congr_right fun _=>?_
 have h2:∀z z',tget (CI (Cv R) x.ins).regs z=tget ((CI (Cv R) y.ins).ren (c.at' i)).regs z'↔tget (CI (Cv R) x.ins).regs z=tget (CI (Cv R) y.ins).regs z'/\(tget (CI (Cv R) y.ins).regs z').inR (c.at' i):=fun z z'=>by
  rw[show((CI (Cv R) y.ins).ren (c.at' i)).regs=(CI (Cv R) y.ins).regs.map (Tm.ren (c.at' i))from rfl,UB];exact Tm.ren_iff hr (HP hy.regs _) (HP hx.regs _)
 refine and_congr ?_ (forall_congr' fun k=>imp_congr_right fun _=>?_)
 . rw[q81,q56,h2]
   by_cases hf:x.fin=2
   . simp[hf]
   . simp[hf]
 . rw[W7];exact forall_congr' fun j=>imp_congr_right fun _=>h2 _ _
structure Nd(old new:BFunc)(c:Cert):Prop where
  sh:vshaped old new=true
  len:c.same.length=old.blocks.length
  rows:∀r∈c.same,(r.length:Int)=old.regs
  b:∀(k:Nat) (x y:Block),old.blocks[k]?=some x->new.blocks[k]?=some y->VR old.regs.toNat x y c (k:Int) x.nexts
theorem ji{c:Cert}(h:∀r∈c.same,r.length=R)(hk:0<=k/\k<c.same.length):(c.at' k).length=R:=by
 grind[Af,Cert.at',List.mem_of_getElem?]
theorem W2{old new:BFunc}{c:Cert}:OG old new c=true↔Nd old new c:=by
 unfold OG;simp only[q66,q56,q67];have key:vshaped old new=true->c.same.length=old.blocks.length->(∀r∈c.same,(r.length:Int)=old.regs)->∀(k:Nat) (x:Block),old.blocks[k]?=some x->(c.at' (k:Int)).length=old.regs.toNat:=fun hs hl hr k x hx=>by
  have h0:=(Fy (Ii hs).so).r0;have hk:=(q05.1 hx).1;exact ji (fun r h=>by have:=hr r h;omega) z144q
 constructor
 . rintro⟨h1,h2,h3,h4⟩
   refine⟨h1,h2,h3,fun k x y hx hy=>?_⟩;unfold tblocks at h4;rw[q67]at h4;exact(Q7 (key h1 h2 h3 k x hx)).1 (h4 ((x,y),k) (q33 (B8 (Mi hx hy))))
 . rintro⟨h1,h2,h3,h4⟩
   refine⟨h1,h2,h3,?_⟩;unfold tblocks;rw[q67]
   rintro⟨⟨x,y⟩,i⟩ hp
   obtain⟨j,hj⟩:=q27.1 hp;rw[q37,q22]at hj;obtain⟨q,hq,e⟩:=hj;obtain⟨x',y'⟩:=q;simp only[qQ8,q98]at e;obtain⟨⟨rfl,rfl⟩,rfl⟩:=e;rw[q11]at hq;exact(Q7 (key h1 h2 h3 j x' hq.1)).2 (h4 j x' y' hq.1 hq.2)
theorem KD{old new:BFunc}{c:Cert}(ho:old.words)(hn:new.words):Ik old new c=true↔Nd old new c:=by
 grind[Qd,W2,Ik]
theorem XZ(h:x.fin=y.fin/\x.to=y.to/\x.els=y.els):x.nexts=y.nexts:=by
 grind[Block.nexts]
theorem G9{R:Nat}:∀{x:Tm},x.pure R->x.inR (List.replicate R true)
 | .old v,h=>by
  show(List.replicate R true)[v]?=some true;rw[q19];exact qK0 h
 | .own _,h=>h.elim
 | .op _ a b,h=>⟨G9 h.1,G9 h.2⟩
 | .cst _,_=>trivial
 | .ld _ _,_=>trivial
 | .unk _,_=>trivial
theorem Vn{x:Option Tm}(h:Vk R x):gO (List.replicate R true) x:=by
 cases x with
 |none=>trivial
 |some x=>exact G9 h
theorem ko(hk:0<=k/\k<f.blocks.length):(Y5 f).at' k=List.replicate f.regs.toNat true:=by
 grind[Cert.at',Y5]
structure Mach.Le(m m':Mach):Prop where
  words:m'.words=m.words
  out:m'.out=m.out
  read:m'.read=m.read
  fin:m'.fin=m.fin
  steps:m'.steps<=m.steps
def Mach.Sim(x y:Mach):Prop:=x.fin=5\/x.Le y
theorem Mach.Le.trans{x y z:Mach}(h:x.Le y)(h':y.Le z):x.Le z:=⟨h'.words.trans h.words,h'.out.trans h.out,h'.read.trans h.read,h'.fin.trans h.fin,qX2 h'.steps h.steps⟩
theorem Mach.Sim.trans{x y z:Mach}(h:x.Sim y)(h':y.Sim z):x.Sim z:=by
 rcases h with h|h
 . exact .inl h
 . rcases h' with h'|h'
   . exact .inl (h.fin.symm.trans h')
   . exact .inr (h.trans h')
theorem Mach.Le.refl(m:Mach):m.Le m:=⟨rfl,rfl,rfl,rfl,qZ0 _⟩
variable {call call' : Int -> Mach -> Mach} {s : ByteArray} {fuel : Int}
def Ek(call call':Int->Mach->Mach)(ok:Int->Prop):Prop:=∀i m m',ok i->m.fin=0->m.Le m'->(call i m).Sim (call' i m')
theorem Vt{ok:Int->Prop}(hc:Ek call call' ok)(t:Tac)(ht:t.op=10->ok t.base)(regs:List Int){m m':Mach}(h0:m.fin=0)(h:m.Le m'):
 (mone call s t regs m).1=(mone call' s t regs m').1/\(mone call s t regs m).2.Sim (mone call' s t regs m').2:=by
 obtain⟨w,o,r,st,f⟩:=m;obtain⟨w',o',r',st',f'⟩:=m';obtain⟨h1,h2,h3,h4,h5⟩:=h;simp only at h1 h2 h3 h4 h5;subst h1;subst h2;subst h3;subst h4;have hle:∀(a:List Int) (b:List UInt8) (c:Nat) (d:Int),Mach.Le ⟨a,b,c,st,d⟩ ⟨a,b,c,st',d⟩:=fun a b c d=>⟨rfl,rfl,rfl,rfl,h5⟩
 unfold mone
 cases t.op==1 with
 |true=>exact⟨rfl,.inr (hle _ _ _ _)⟩
 |false=>
 cases t.op==2 with
 |true=>exact⟨rfl,.inr (hle _ _ _ _)⟩
 |false=>
 cases t.op==3 with
 |true=>
  simp only[qZ7,qZ3]
  cases (wapp t.k (rget regs t.a) (rget regs t.b)).2==0<;>exact⟨rfl,.inr (hle _ _ _ _)⟩
 |false=>
 cases t.op==4 with
 |true=>exact⟨rfl,.inr (hle _ _ _ _)⟩
 |false=>
 cases t.op==5 with
 |true=>exact⟨rfl,.inr (hle _ _ _ _)⟩
 |false=>
 cases t.op==6 with
 |true=>
  exact mX
 |false=>
 cases t.op==7 with
 |true=>
  exact mX
 |false=>
 cases t.op==8 with
 |true=>
  simp only[qZ7,qZ3]
  cases decide (r'<s.size)<;>exact⟨rfl,.inr (hle _ _ _ _)⟩
 |false=>
 cases t.op==9 with
 |true=>
  simp only[qZ7,qZ3]
  cases decide (o'.length>=65536)<;>exact⟨rfl,.inr (hle _ _ _ _)⟩
 |false=>
 cases h10:t.op==10 with
 |true=>exact⟨rfl,hc _ _ _ (ht (by simpa using h10)) h0 (hle _ _ _ _)⟩
 |false=>exact⟨rfl,.inr (hle _ _ _ _)⟩
def qq(X Y:Bool×List Int×Mach):Prop:=X.1=false/\X.2.2.fin=5\/X.1=Y.1/\X.2.1=Y.2.1/\X.2.2.Le Y.2.2/\(X.1=true->X.2.2.fin=0)/\(X.1=false->X.2.2.fin≠0)
structure yQ where
  words:List Int
  out:List UInt8
  read:Nat
  cnt:Nat
structure EH where
  mems:List (List Int)
  unks:List Int
  core:yQ
variable (call : Int -> Mach -> Mach) (s : ByteArray) (ρ : List Int)
variable {call : Int -> Mach -> Mach} {s : ByteArray} {ρ ρ' : List Int}
variable {S : SS} {regs : List Int} {m : Mach} {h : EH}
def Bz(call:Int->Mach->Mach)(s:ByteArray):List Tac->List Int->Mach->Bool×List Int×Mach
  | [],regs,m=>(true,regs,m)
  |t::r,regs,m=>bif (mone call s t regs m).2.fin==0 then Bz call s r (mone call s t regs m).1 (mone call s t regs m).2 else(false,mone call s t regs m)
theorem EK{l:List α}{f:α->List AV}{x:α}(h:l[n.toNat]?=some x):(l.map f)[n.toNat]?=some (f x):=by rw[q54,h];rfl
theorem Q1(n:Nat):∀(i:Nat) (cs cs':List AV),(List.replicate n [AV.nil])[i]?=some cs->(List.replicate n [AV.lst false []])[i]?=some cs'->cs'.length=cs.length/\∀(j:Nat) (x y:AV),cs[j]?=some x->cs'[j]?=some y->y.cell1=true/\∀H v,Rel H A7 x v->Rel H A7 y v:=fun i cs cs' h1 h2=>by
 have e1:=q15 (q33 h1);have e2:=q15 (q33 h2);subst e1;subst e2;refine⟨rfl,fun j x y g1 g2=>?_⟩
 cases j with
 |zero=>simp at g1 g2;subst g1;subst g2;exact⟨rfl,fun H v h=>ca h⟩
 |succ j=>simp at g1
variable {s : DS}
theorem dinto_eq{c:Bool}(h:notBeen s.been b=c):BY b s=bif c then⟨s.been.set b.toNat true,s.way++[(b,0)]⟩else s:=by rw[BY,h]
theorem iz{c:Bool}(h:notBeen s.been b=c):TG b s es=bif c then Dg es s.way.length (DK (b,0))else es:=by rw[TG,h]
theorem jt(l:List Bool)(b:Int)(v:Bool):(l.map Bg).set (0+b.toNat) [AV.bool v]=(l.set b.toNat v).map Bg:=by
 rw[qQ8,List.map_set];rfl
variable {k : Nat} {p : Int × Int}
theorem SR{w:List (Int×Int)}{p0:Int×Int}(hp:w.getLast?=some p0)(es:List (List AV))(c:List AV):((es.length,w.length):Nat×Nat)=((es.set k c).length,(w.dropLast++[p]).length):=by
 have hpos:0<w.length:=by rw[HK hp];simp
 simp;omega
theorem Q3{next:List (List Int)}{been:List Bool}(h:been.length=next.length):WayIn next.length (DS.mk been []) ([]:List (List AV)):=by
 refine⟨qZ0 _,rfl,?_⟩;rw[<-h];show 0+Y8 been<=been.length;clear h
 induction been with
 |nil=>simp[Y8]
 |cons x r ih=>simp only[Y8,qQ0,qQ2,q70]at ih|-;cases x<;>simp<;>omega
variable {n : Nat}
theorem LJ(h:0<n)(h2:n<=100000000):AX .sub (.int .i64 (n:Int)) (.int .i64 1)=some (.int .i64 ((n-1:Nat):Int)):=by
 simp only[AX,BH,isShift,qZ3,qZ8];rw[Cq z144q z144q];congr 2;omega
structure FW where
  s:DS
  es:List (List AV)
  g:Nat
structure FWInv(next:List (List Int))(tgt:DS)(q:FW):Prop where
  ok:q.s.ok next
  way:WayIn next.length q.s q.es
  gas:TV next q.s<q.g
  tgt:Ju next q.g q.s=tgt
theorem FWInv.first{next:List (List Int)}{been:List Bool}(h:been.length=next.length):FWInv next (Ju next (TV next (FM been)+1) (FM been)) ⟨FM been,TG 0 (DS.mk been []) [],TV next (FM been)+1⟩:=
 ⟨dinto_ok ⟨h,fun p hp=>by cases hp⟩,(Q3 h).into,Nat.lt_succ_self _,rfl⟩
variable {q : FW} {tgt : DS}
theorem FWInv.next{next:List (List Int)}(h:FWInv next tgt q){s':DS}{es':List (List AV)}(hp:q.s.way.getLast?=some p)(he:F6 next q.s=s')(hw:WayIn next.length s' es'):FWInv next tgt ⟨s',es',q.g-1⟩/\q.g-1<q.g:=by
 have hne:q.s.way≠[]:=fun e=>by rw[e]at hp;simp at hp
 have h1:=V8 h.ok hne;have h2:=h.gas;have h3:=V7 h.ok;rw[he]at h1 h3;refine⟨⟨h3,hw,by show TV next s'<q.g-1;omega,?_⟩,by omega⟩;obtain⟨g,hg⟩:∃g,q.g=g+1:=⟨q.g-1,by omega⟩
 have h4:=h.tgt;rw[hg,Ss hne,he]at h4;rw[hg];exact h4
theorem iX{next:List (List Int)}{i:Int}(hp:s.way.getLast?=some (b,i))(h:i<(BR next b).length):F6 next s=BY (((BR next b)[i.toNat]?).getD 0) ⟨s.been,s.way.dropLast++[(b,i+1)]⟩:=by
 have h':decide (i<((BR next b).length:Int))=true:=by simpa using h
 simp only[F6,hp,h',qZ7]
theorem cN{next:List (List Int)}{i:Int}(hp:s.way.getLast?=some (b,i))(h:¬i<(BR next b).length):F6 next s=⟨s.been,s.way.dropLast⟩:=by
 have h':decide (i<((BR next b).length:Int))=false:=by simpa using h
 simp only[F6,hp,h',qZ3]
theorem Sw(b:Int)(s:DS):(BY b s).been.length=s.been.length:=by
 unfold BY;cases notBeen s.been b<;>simp
theorem cO(next:List (List Int))(s:DS):(F6 next s).been.length=s.been.length:=by
 unfold F6;split
 . rfl
 . rename_i b i e
   cases decide (i<(BR next b).length)with
   |true=>simp only[qZ7];rw[Sw]
   |false=>rfl
theorem V9(next:List (List Int)):∀(g:Nat) (s:DS),(Ju next g s).been.length=s.been.length
 |0,s=>rfl
 |g+1,s=>by
  unfold Ju;split
  . rfl
  . rw[V9 next g,cO]
theorem Kx(next:List (List Int))(been:List Bool):(HD next been).length=been.length:=by
 rw[HD,V9,FM,Sw]
theorem FWInv.done{next:List (List Int)}(h:FWInv next tgt q)(hn:q.s.way=[]):q.s=tgt:=by
 have:=h.tgt;rwa[Wb hn]at this
def iget(l:List Int)(z:Int):Int:=(l[z.toNat]?).getD 0
def TA(l:List Int)(z v:Int):List Int:=l.set z.toNat v
def bget(l:List Bool)(z:Int):Bool:=(l[z.toNat]?).getD false
def BS(l:List Int):List (List AV):=l.map fun n=>[AV.int .i64 n]
theorem BO(l:List Int):(BS l).length=l.length:=by simp[BS]
variable {l : List Int}
theorem PN(h:0<=z/\z<l.length):(BS l)[0+z.toNat]?=some [AV.int .i64 (iget l z)]:=by
 grind[Af,BS,iget]
theorem iA(h:0<=z/\z<l.length):(l.map fun n=>[AV.int .i64 n])[z.toNat]?=some [AV.int .i64 (iget l z)]:=by
 grind[Af,iget]
theorem qI{l:List Bool}(h:0<=z/\z<l.length):(l.map fun n=>[AV.bool n])[z.toNat]?=some [AV.bool (bget l z)]:=by
 grind[Af,bget]
theorem R9(l:List Int)(z v:Int):(BS l).set (0+z.toNat) [AV.int .i64 v]=BS (TA l z v):=by
 rw[qQ8,BS,BS,TA,List.map_set]
theorem LM(n:Nat):List.replicate n [AV.int .i64 0]=BS (List.replicate n 0):=by simp[BS]
theorem NI(l:List Int)(z v:Int):(TA l z v).length=l.length:=by simp[TA]
def Kk(w:List Int)(k:Int):List Int:=TA w k (iget w k+1)
theorem NQ(w:List Int)(k:Int):(Kk w k).length=w.length:=by simp[Kk,NI]
theorem Fl:∀(l:List Int) (w:List Int),(l.foldl Kk w).length=w.length
 | [],_=>rfl
 |k::r,w=>by rw[q85,Fl r,NQ]
def aN(m:Nat)(w:List Int):Prop:=∀v∈w,0<=v/\v<=m
variable {m : Nat} {w : List Int}
theorem R7(h:aN m w)(k:Int):0<=iget w k/\iget w k<=m:=by
 unfold iget
 cases e:w[k.toNat]? with
 |none=>simp
 |some v=>exact h v (q33 e)
theorem dg(h:aN m w)(k:Int):aN (m+1) (Kk w k):=fun v hv=>by
 have hk:=R7 h k;rcases q08 hv with hv|rfl
 . have:=h v hv;omega
 . omega
theorem K0:∀(l:List Int) {m:Nat} {w:List Int},aN m w->aN (m+l.length) (l.foldl Kk w)
 | [],_,_,h=>h
 |k::r,m,w,h=>by
  have:=K0 r (dg h k)
  grind
def BW(next:List (List Int))(reach:List Bool):Nat->List Int
  |0=>List.replicate next.length 0
  |k+1=>bif (reach[k]?).getD false then((next[k]?).getD []).foldl Kk (BW next reach k)else BW next reach k
theorem Co(next:List (List Int))(reach:List Bool):∀k,(BW next reach k).length=next.length
 |0=>by simp[BW]
 |k+1=>by
  unfold BW
  cases (reach[k]?).getD false with
  |true=>rw[qZ7,Fl,Co next reach k]
  |false=>exact Co next reach k
theorem Nj{next:List (List Int)}(h2:∀l∈next,l.length<=2)(reach:List Bool):∀k,aN (2*k) (BW next reach k)
 |0=>fun v hv=>by rw[BW]at hv;rw[q15 hv];omega
 |k+1=>by
  have ih:=Nj h2 reach k;unfold BW
  cases (reach[k]?).getD false with
  |false=>exact fun v hv=>by have:=ih v hv;omega
  |true=>
   have hl:((next[k]?).getD []).length<=2:=by
    cases e:next[k]? with
    |none=>simp
    |some l=>exact h2 l (q33 e)
   have:=K0 ((next[k]?).getD []) ih;exact fun v hv=>by have:=this v hv;omega
def waysF(next:List (List Int))(reach:List Bool):List Int:=BW next reach next.length
def takeOf(next:List (List Int))(reach:List Bool)(i:Nat)(b:Block):Int:=
  bif (reach[i]?).getD false&&(b.fin==1&&(b.to !=0&&(b.to !=(i:Int)&&iget (waysF next reach) b.to==1)))then b.to else -1
def BFunc.takes(f:BFunc)(reach:List Bool):List Int:=f.blocks.zipIdx.map fun p=>takeOf f.nexts reach p.2 p.1
def BFunc.takenAt(f:BFunc)(reach:List Bool):Nat->List Bool
  |0=>List.replicate f.blocks.length false
  |k+1=>match f.blocks[k]? with
    |some b=>bif takeOf f.nexts reach k b== -1 then f.takenAt reach k else(f.takenAt reach k).set b.to.toNat true
    |none=>f.takenAt reach k
theorem A4(f:BFunc)(reach:List Bool):(f.takes reach).length=f.blocks.length:=by simp[BFunc.takes]
variable {reach : List Bool}
theorem Mp(h:f.blocks[k]?=some x):(f.takes reach)[k]?=some (takeOf f.nexts reach k x):=by
 rw[BFunc.takes,q54,B8 h];rfl
theorem Cr(f:BFunc)(reach:List Bool):∀k,(f.takenAt reach k).length=f.blocks.length
 |0=>by simp[BFunc.takenAt]
 |k+1=>by
  have ih:=Cr f reach k
  grind[BFunc.takenAt,takeOf]
theorem Gw(h:f.blocks[k]?=some x):f.takenAt reach (k+1)=bif takeOf f.nexts reach k x== -1 then f.takenAt reach k else(f.takenAt reach k).set x.to.toNat true:=by
 rw[BFunc.takenAt,h]
def BFunc.leads(f:BFunc):Prop:=∀l∈f.nexts,∀k∈l,0<=k/\k<f.blocks.length
theorem MR(f:BFunc):∀l∈f.nexts,l.length<=2:=fun l hl=>by
 grind[BFunc.nexts,Block.nexts]
theorem Jl(h:f.leads)(hx:f.blocks[k]?=some x)(h1:x.fin=1\/x.fin=2):0<=x.to/\x.to<f.blocks.length:=
 h x.nexts (q33 (CL hx)) x.to (by rcases h1 with h1|h1<;>simp[Block.nexts,h1])
theorem cn(h:f.leads)(hx:f.blocks[k]?=some x)(h1:x.fin=2):0<=x.els/\x.els<f.blocks.length:=
 h x.nexts (q33 (CL hx)) x.els (by simp[Block.nexts,h1])
def chain(takes:List Int):Nat->Int->List Int
  |0,_=>[]
  |g+1,c=>bif iget takes c== -1 then []else iget takes c::chain takes g (iget takes c)
def ends(takes:List Int):Nat->Int->Bool
  |0,c=>iget takes c== -1
  |g+1,c=>iget takes c== -1||ends takes g (iget takes c)
def Bq(takes:List Int)(i:Int):List Int:=i::chain takes takes.length i
structure wO where
  c:Int
  acc:List Int
  g:Nat
structure FInv2(takes:List Int)(tgt:List Int)(q:wO):Prop where
  c:0<=q.c/\q.c<takes.length
  len:q.acc.length+q.g<=takes.length+1
  fin:ends takes q.g q.c=true
  tgt:q.acc++chain takes q.g q.c=tgt
theorem FInv2.first{takes:List Int}{i:Int}(hi:0<=i/\i<takes.length)(he:ends takes takes.length i=true):FInv2 takes (Bq takes i) ⟨i,[i],takes.length⟩:=⟨hi,by show 1+takes.length<=_;omega,he,rfl⟩
variable {q : wO} {tgt : List Int}
theorem FInv2.next{takes:List Int}(hin:∀v∈takes,v= -1\/(0<=v/\v<takes.length))(h:FInv2 takes tgt q)(hc:(iget takes q.c != -1)=true):
 FInv2 takes tgt ⟨iget takes q.c,q.acc++[iget takes q.c],q.g-1⟩/\q.g-1<q.g:=by
 have hne:(iget takes q.c== -1)=false:=by simpa[bne]using hc
 obtain⟨v,hv⟩:=Af (l:=takes) (k:=q.c.toNat) (by have:=h.c;omega);have hi:iget takes q.c=v:=by simp[iget,hv]
 have hlen:=h.len;have hfin:=h.fin;have htgt:=h.tgt;obtain⟨g,hg⟩:∃g,q.g=g+1:=by
  cases e:q.g with
  |zero=>rw[e]at hfin;simp only[ends,hne]at hfin;cases hfin
  |succ g=>exact⟨g,rfl⟩
 rw[hg]at hfin htgt hlen;simp only[ends,chain,hne,qQ6,qZ3]at hfin htgt;rw[hg];refine⟨⟨?_,?_,hfin,?_⟩,by simp⟩
 . rcases hin v (q33 hv)with e|e
   . rw[hi,e]at hne;simp at hne
   . rw[hi];exact e
 . grind
 . grind
theorem FInv2.done{takes:List Int}(h:FInv2 takes tgt q)(hc:(iget takes q.c != -1)=false):q.acc=tgt:=by
 have hne:(iget takes q.c== -1)=true:=by simpa[bne]using hc
 have htgt:=h.tgt
 cases e:q.g with
 |zero=>rw[e]at htgt;simpa[chain]using htgt
 |succ g=>rw[e]at htgt;simpa[chain,hne]using htgt
theorem I3(h:f.leads)(reach:List Bool):∀v∈f.takes reach,v= -1\/(0<=v/\v<(f.takes reach).length):=fun v hv=>by
 obtain⟨k,hk⟩:=q35 hv;have hlt:k<f.blocks.length:=by rw[<-A4 f reach];exact(q05.1 hk).1
 obtain⟨x,hx⟩:=Af hlt;rw[Mp hx]at hk
 cases hk
 rw[A4];unfold takeOf
 cases e:(reach[k]?).getD false&&(x.fin==1&&(x.to !=0&&(x.to !=(k:Int)&&iget (waysF f.nexts reach) x.to==1)))with
 |false=>exact .inl rfl
 |true=>
  simp only[q66,qZ4]at e;exact .inr (Jl h hx (.inl e.2.1))
def BFunc.headOf(f:BFunc)(k:Nat):Bool:=(f.reach[k]?).getD false&& !((f.takenAt f.reach f.blocks.length)[k]?).getD false
def BFunc.tk(f:BFunc):List Int:=f.takes f.reach
def BFunc.pathsTo(f:BFunc):Nat->List (List Int)
  |0=>[]
  |k+1=>bif f.headOf k then f.pathsTo k++[Bq f.tk k]else f.pathsTo k
def BFunc.numsTo(f:BFunc):Nat->List Int
  |0=>List.replicate f.blocks.length 0
  |k+1=>bif f.headOf k then TA (f.numsTo k) k (f.pathsTo k).length else f.numsTo k
def BFunc.tpaths(f:BFunc):List (List Int):=f.pathsTo f.blocks.length
def BFunc.nums(f:BFunc):List Int:=f.numsTo f.blocks.length
theorem B7(f:BFunc):∀k,(f.numsTo k).length=f.blocks.length
 |0=>by simp[BFunc.numsTo]
 |k+1=>by
  unfold BFunc.numsTo
  cases f.headOf k with
  |true=>rw[qZ7,NI,B7 f k]
  |false=>exact B7 f k
theorem Dr(f:BFunc):∀k,(f.pathsTo k).length<=k
 |0=>by simp[BFunc.pathsTo]
 |k+1=>by
  have ih:=Dr f k
  grind[BFunc.pathsTo]
def BFunc.blockAt(f:BFunc)(i:Int):Block:=(f.blocks[i.toNat]?).getD ⟨[],0,0,0,0⟩
def AT(p:List Int):Int:=p.getLast?.getD 0
def BFunc.joined(f:BFunc)(p:List Int):List Tac:=p.flatMap fun i=>(f.blockAt i).ins
def BFunc.newBlock(f:BFunc)(p:List Int):Block where
  ins:=f.joined p
  fin:=(f.blockAt (AT p)).fin
  v:=(f.blockAt (AT p)).v
  to:=bif (f.blockAt (AT p)).fin==1||(f.blockAt (AT p)).fin==2 then iget f.nums (f.blockAt (AT p)).to else(f.blockAt (AT p)).to
  els:=bif (f.blockAt (AT p)).fin==2 then iget f.nums (f.blockAt (AT p)).els else(f.blockAt (AT p)).els
def BFunc.tidy(f:BFunc):BFunc:=⟨f.regs,f.tpaths.map f.newBlock⟩
def oG(n:Nat)(p:List Int):Prop:=p≠[]/\∀i∈p,0<=i/\i<n
theorem L5{takes:List Int}(hin:∀v∈takes,v= -1\/(0<=v/\v<takes.length)):∀(g:Nat) (c:Int),0<=c/\c<takes.length->∀i∈chain takes g c,0<=i/\i<takes.length
 |0,_,_=>fun i hi=>by cases hi
 |g+1,c,hc=>fun i hi=>by
  unfold chain at hi
  cases e:iget takes c== -1 with
  |true=>rw[e]at hi;cases hi
  |false=>
   rw[e]at hi;obtain⟨v,hv⟩:=Af (l:=takes) (k:=c.toNat) z144q;have hv':iget takes c=v:=by simp[iget,hv]
   have hcv:0<=iget takes c/\iget takes c<takes.length:=by
    rcases hin v (q33 hv)with h|h
    . rw[hv',h]at e;simp at e
    . rw[hv'];exact h
   simp only[qZ3,q99]at hi;rcases hi with rfl|hi
   . exact hcv
   . exact L5 hin g _ hcv i hi
theorem Je{f:BFunc}(h:f.leads):∀k,k<=f.blocks.length->∀p∈f.pathsTo k,oG f.blocks.length p
 |0,_=>fun p hp=>by cases hp
 |k+1,hk=>fun p hp=>by
  unfold BFunc.pathsTo at hp
  cases e:f.headOf k with
  |false=>rw[e]at hp;exact Je h k z144q p hp
  |true=>
   rw[e]at hp;simp only[qZ7,q78,q47]at hp;rcases hp with hp|rfl
   . exact Je h k z144q p hp
   . have hl:f.tk.length=f.blocks.length:=A4 f _;refine⟨by simp[Bq],fun i hi=>?_⟩;simp only[Bq,q99]at hi;rcases hi with rfl|hi
     . omega
     . have:=L5 (I3 h f.reach) f.tk.length k (by show(0:Int)<=k/\(k:Int)<f.tk.length;omega) i hi;have hl':((f.takes f.reach).length:Int)=f.blocks.length:=by rw[A4]
       rw[hl']at this;exact this
structure BFunc.tame(f:BFunc):Prop where
  mild:f.blocks.length<=1000
  ins:∀x∈f.blocks,x.ins.length<=10000
  leads:f.leads
  ends:∀k,f.headOf k=true->ends f.tk f.tk.length k=true
theorem QN{l:List α}{i:Nat}{x y:α}(h:l[i]?=some x):(l.set i y)[i]?=some y:=by
 grind
def TH(n:Int):List AV:=[.int .i64 n]
variable {o : Oper} {e : Ax} {h : Ad}
theorem qf(hT:CE P T){t:TypeId}{x:Operand}{y:Operand}{c:List AV}{i j:Av}{u:Nat}(ho:o.op=.slice t x (some y) none none)(hx:An e x=some (.lst false (c::es)))(ht:T t=some i)(hk:i.k=.slice u)(hj:T u=some j)
 (hy:An e y=some (.int .i64 1)) (hu:∀cs∈c::es,cs.length=j.size):QLoc P o e h [] (.lst false es):=by
 have:=Jc (h:=h) hT 1 (c::es).length ho hx ht hk hj ⟨.i64,hy⟩ rfl z145q (qZ0 _) hu;rw[q20 (qZ0 _)]at this;exact this
variable {b : Block} {r : Bool}
theorem takeOf_no{next:List (List Int)}{i:Nat}(hr:reach[i]?=some r)(h:(r&&(b.fin==1&&(b.to !=0&&(b.to !=(i:Int)&&iget (waysF next reach) b.to==1))))=false):takeOf next reach i b= -1:=by
 grind[takeOf,iget,waysF]
theorem W6{next:List (List Int)}{i:Nat}(hr:reach[i]?=some r)(h:(r&&(b.fin==1&&(b.to !=0&&(b.to !=(i:Int)&&iget (waysF next reach) b.to==1))))=true):takeOf next reach i b=b.to:=by
 grind[takeOf,iget,waysF]
theorem fk(hx:f.blocks[k]?=some x)(h:takeOf f.nexts reach k x= -1):f.takenAt reach k=f.takenAt reach (k+1):=by
 rw[Gw hx,h];rfl
theorem bd(hx:f.blocks[k]?=some x)(h:takeOf f.nexts reach k x=x.to)(h0:0<=x.to):((f.takenAt reach k).map Bg).set (0+x.to.toNat) [AV.bool true]=(f.takenAt reach (k+1)).map Bg:=by
 have hne:(x.to== -1)=false:=by simp;omega
 rw[Gw hx,h,hne,qZ3,qQ8,List.map_set];rfl
variable {y : Int}
theorem Yu(h:l[j]?=some y)(w:List Int):(l.take (j+1)).foldl Kk w=Kk ((l.take j).foldl Kk w) y:=by
 rw[AY h,List.foldl_append];rfl
theorem aF{next:List (List Int)}(h:reach[k]?=some false):BW next reach k=BW next reach (k+1):=by
 simp[BW,h]
theorem kr{next:List (List Int)}(h:reach[k]?=some true)(hl:next[k]?=some l)(hj:l.length<=j):(l.take j).foldl Kk (BW next reach k)=BW next reach (k+1):=by
 simp[BW,h,hl,q20 hj]
def VJ(f:BFunc)(rest:List Int)(k:Nat):Bool:=(f.joined (rest.take k)).isEmpty
def IP(f:BFunc)(i0:Int)(rest:List Int)(k:Nat):List (List AV):=((f.blockAt i0).ins++f.joined (rest.take k)).map Tac.cells
variable {rest : List Int}
theorem NG{i:Int}(h:rest[k]?=some i):f.joined (rest.take (k+1))=f.joined (rest.take k)++(f.blockAt i).ins:=by
 rw[BFunc.joined,AY h,List.flatMap_append];simp[BFunc.joined]
theorem oF{i0:Int}{i:Int}(h:rest[k]?=some i):((VJ f rest k&&((f.blockAt i).ins.map Tac.cells).isEmpty,IP f i0 rest k++(f.blockAt i).ins.map Tac.cells):Bool×List (List AV))=(VJ f rest (k+1),IP f i0 rest (k+1)):=by
 simp only[VJ,IP,NG h,q77,q63];congr 1
 cases f.joined (rest.take k)<;>cases (f.blockAt i).ins<;>rfl
theorem Bv{i:Int}(h:0<=i/\i<f.blocks.length):f.blocks[i.toNat]?=some (f.blockAt i):=by
 grind[Af,BFunc.blockAt]
theorem KU{f:BFunc}(hf:∀x∈f.blocks,x.ins.length<=10000):∀(p:List Int),(f.joined p).length<=p.length*10000
 | []=>by simp[BFunc.joined]
 |i::r=>by
  have ih:=KU hf r
  grind[BFunc.blockAt,List.mem_of_getElem?,BFunc.joined,List.length_append]
theorem NH(f:BFunc)(i0:Int)(rest:List Int)(k:Nat):(∀cs∈IP f i0 rest k,cs.length=8)/\∀cs∈IP f i0 rest k,cs.all AV.isPure1=true:=by
 constructor<;>intro cs h<;>simp only[IP,qX3]at h<;>obtain⟨t,_,rfl⟩:=h<;>rfl
theorem R6(l:List Tac):(∀cs∈l.map Tac.cells,cs.length=8)/\∀cs∈l.map Tac.cells,cs.all AV.isPure1=true:=by
 constructor<;>intro cs h<;>simp only[qX3]at h<;>obtain⟨t,_,rfl⟩:=h<;>rfl
variable {p : List Int}
theorem PF(h:p≠[]):p[p.length-1]?=some (AT p):=by
 rw[<-List.getLast?_eq_getElem?,AT,List.getLast?_eq_some_getLast h];rfl
theorem Jm(h:p≠[]):AT p∈p:=q33 (PF h)
theorem L4(takes:List Int):∀(g:Nat) (c:Int),(chain takes g c).length<=g
 |0,_=>by simp[chain]
 |g+1,c=>by
  unfold chain
  cases iget takes c== -1 with
  |true=>simp
  |false=>simp only[qZ3,q70];have:=L4 takes g (iget takes c);omega
theorem EZ{f:BFunc}:∀(k:Nat),∀p∈f.pathsTo k,p.length<=f.blocks.length+1
 |0=>fun p hp=>by cases hp
 |k+1=>fun p hp=>by
  unfold BFunc.pathsTo at hp
  cases e:f.headOf k with
  |false=>rw[e]at hp;exact EZ k p hp
  |true=>
   rw[e]at hp;simp only[qZ7,q78,q47]at hp;rcases hp with hp|rfl
   . exact EZ k p hp
   . have:=L4 f.tk f.tk.length k;have hl:f.tk.length=f.blocks.length:=A4 f _;simp only[Bq,q70];omega
theorem EY(h:f.headOf k=true):f.pathsTo (k+1)=f.pathsTo k++[Bq f.tk k]:=by simp[BFunc.pathsTo,h]
theorem GS(h:f.headOf k=false):f.pathsTo (k+1)=f.pathsTo k:=by simp[BFunc.pathsTo,h]
theorem Pp(h:f.headOf k=true):f.numsTo (k+1)=TA (f.numsTo k) k (f.pathsTo k).length:=by simp[BFunc.numsTo,h]
theorem RD(h:f.headOf k=false):f.numsTo (k+1)=f.numsTo k:=by simp[BFunc.numsTo,h]
theorem Sf{t:Bool}(hr:f.reach[k]?=some r)(ht:(f.takenAt f.reach f.blocks.length)[k]?=some t):f.headOf k=(r&& !t):=by simp[BFunc.headOf,hr,ht]
theorem Lr(f:BFunc):f.reach.length=f.blocks.length:=by rw[BFunc.reach,Kx];simp[BFunc.nexts]
def NX(f:BFunc)(p:List Int)(j:Nat):Bool:=(f.blockAt (iget p j)).fin==1&&(f.blockAt (iget p j)).to==iget p ((j+1:Nat):Int)
def G5(f:BFunc)(p:List Int):Bool:=(List.range (p.length-1)).all (NX f p)
def IL(f:BFunc):List Tac->List Int->Bool
  |rest,[]=>rest.isEmpty
  |rest,i::r=>decide ((f.blockAt i).ins.length<=rest.length)&&(decide (rest.take (f.blockAt i).ins.length=(f.blockAt i).ins)&&IL f (rest.drop (f.blockAt i).ins.length) r)
def EM(p:List Int):Int:=p.head?.getD 0
def Dz(paths:List (List Int))(k:Int):List Int:=(paths[k.toNat]?).getD []
def D6(paths:List (List Int))(k i:Int):Bool:=decide (k>=0)&&(decide (k<paths.length)&&EM (Dz paths k)==i)
def J5(last b:Block)(paths:List (List Int)):Bool:=bif b.fin==1||b.fin==2 then D6 paths b.to last.to else b.to==last.to
def J6(last b:Block)(paths:List (List Int)):Bool:=bif b.fin==2 then D6 paths b.els last.els else b.els==last.els
def HA(last b:Block)(paths:List (List Int)):Bool:= !(b.fin !=last.fin)&&(!(b.v !=last.v)&&(J5 last b paths&&J6 last b paths))
def FB(n:Nat)(p:List Int):Bool:= !(p.length==0)&&p.all (fun i=> !(decide (i<0))&& !(decide (i>=n)))
def Ko(old new:BFunc)(paths:List (List Int))(q:List Int×Nat):Bool:=G5 old q.1&&(IL old (new.blockAt q.2).ins q.1&&HA (old.blockAt (AT q.1)) (new.blockAt q.2) paths)
def Ej(old new:BFunc)(paths:List (List Int)):Bool:=
  !(paths.length==0)&&(!(paths.length !=new.blocks.length)&&(!(old.regs !=new.regs)&&(paths.all (FB old.blocks.length)&&(!(EM (Dz paths 0) !=0)&&paths.zipIdx.all (Ko old new paths)))))
theorem Ip(h:FB n p=true):oG n p:=by
 grind[FB,List.all_eq_true,oG]
theorem Rn(h:k<n):(List.range n)[k]?=some k:=by simp[h]
theorem Se(h:p≠[]):p[0]?=some (EM p):=by
 cases p with
 |nil=>exact absurd rfl h
 |cons x r=>rfl
variable {paths : List (List Int)}
theorem MK{k:Int}(h:0<=k/\k<paths.length):paths[k.toNat]?=some (Dz paths k):=by
 grind[Af,Dz]
theorem VM(h:p[k]?=some y):iget p k=y:=by simp[iget,h]
theorem Ys{old new:BFunc}(h:¬(paths.length≠0/\paths.length=new.blocks.length/\old.regs=new.regs)):Ej old new paths=false:=by
 grind[Ej]
theorem Qe{old new:BFunc}(h:paths.all (FB old.blocks.length)=false):Ej old new paths=false:=by
 grind[Ej,FB]
theorem Yr{old new:BFunc}(h:(EM (Dz paths 0) !=0)=true):Ej old new paths=false:=by
 grind[Ej,EM,Dz]
theorem Yq{old new:BFunc}(h:paths.zipIdx.all (Ko old new paths)=false):Ej old new paths=false:=by
 grind[Ej,Ko]
theorem Yp{old new:BFunc}(h1:paths.length≠0)(h2:paths.length=new.blocks.length)(h3:old.regs=new.regs)(h4:paths.all (FB old.blocks.length)=true)(h5:(EM (Dz paths 0) !=0)=false)(h6:paths.zipIdx.all (Ko old new paths)=true):Ej old new paths=true:=by
 grind[Ej,FB,EM,Dz,Ko]
theorem H5(f:BFunc):∀(p:List Int) (l:List Tac),IL f l p=decide (l=f.joined p)
 | [],l=>by cases l<;>simp[IL,BFunc.joined]
 |i::r,l=>by
  have e:f.joined (i::r)=(f.blockAt i).ins++f.joined r:=by simp[BFunc.joined]
  rw[IL,H5 f r,e]
  by_cases h:l=(f.blockAt i).ins++f.joined r
  . subst h
    simp
  . rw[q89 h]
    by_cases h1:(f.blockAt i).ins.length<=l.length
    . by_cases h2:l.take (f.blockAt i).ins.length=(f.blockAt i).ins
      . by_cases h3:l.drop (f.blockAt i).ins.length=f.joined r
        . exact absurd (by rw[<-h3];conv=>lhs;rw[<-q32 (f.blockAt i).ins.length l,h2]) h
        . simp[h3]
      . simp[h2]
    . simp[h1]
def QJ(old:BFunc)(b:Block)(paths:List (List Int))(p:List Int):Bool:=G5 old p&&(IL old b.ins p&&HA (old.blockAt (AT p)) b paths)
theorem Re(old new:BFunc)(paths:List (List Int))(p:List Int)(k:Nat):Ko old new paths (p,k)=QJ old (new.blockAt k) paths p:=rfl
theorem LL{i:Int}(h:p[k]?=some i):f.joined p=f.joined (p.take k)++((f.blockAt i).ins++f.joined (p.drop (k+1))):=by
 have hp:p=p.take k++(i::p.drop (k+1)):=by
  obtain⟨h1,h2⟩:=q05.1 h;conv=>lhs;rw[<-q32 k p,q07 h1,h2]
 conv=>lhs;rw[hp]
 simp[BFunc.joined]
theorem bU{b:List Tac}{i:Int}(h:p[k]?=some i)(hj:j<(f.blockAt i).ins.length)(hl:b.length<=(f.joined (p.take k)).length+j):IL f b p=false:=by
 rw[H5,q16];intro e;rw[e,LL h,q48,q48]at hl;omega
variable {u : Tac}
theorem one_fail2{b:List Tac}{i:Int}{v:Tac}(h:p[k]?=some i)(hj:(f.blockAt i).ins[j]?=some u)(hb:b[(f.joined (p.take k)).length+j]?=some v)(hne:v≠u):IL f b p=false:=by
 rw[H5,q16];intro e;have hlt:=(q05.1 hj).1;rw[e,LL h,q02 z144q,Nat.add_sub_cancel_left,q06 hlt,hj]at hb
 cases hb
 exact hne rfl
theorem one_false{old:BFunc}(h:IL old b.ins p=false):QJ old b paths p=false:=by simp[QJ,h]
theorem XS{old:BFunc}(h:G5 old p=false):QJ old b paths p=false:=by simp[QJ,h]
theorem Vl{old:BFunc}(h:G5 old p=true)(h2:IL old b.ins p=true):QJ old b paths p=HA (old.blockAt (AT p)) b paths:=by simp[QJ,h,h2]
theorem XV(h:((List.range (p.length-1)).take k).all (NX f p)=true)(hk:k<p.length-1->NX f p k=true):((List.range (p.length-1)).take (k+1)).all (NX f p)=true:=by
 by_cases h1:k<p.length-1
 . exact Dw (Rn h1) h (hk h1)
 . rw[q20 Df]at h|-;exact h
variable {b : List Tac}
theorem bf{i:Int}(h:b.take ((f.joined (p.take k)).length+j)=f.joined (p.take k)++(f.blockAt i).ins.take j)(hj:(f.blockAt i).ins[j]?=some u)(hb:b[(f.joined (p.take k)).length+j]?=some u):
 b.take ((f.joined (p.take k)).length+(j+1))=f.joined (p.take k)++(f.blockAt i).ins.take (j+1):=by
 rw[<-qQ3,AY hb,AY hj,h,q63]
theorem W5{i:Int}(hk:p[k]?=some i)(h:b.take ((f.joined (p.take k)).length+j)=f.joined (p.take k)++(f.blockAt i).ins.take j)(hj:j=(f.blockAt i).ins.length):
 (f.joined (p.take k)).length+j=(f.joined (p.take (k+1))).length/\b.take (f.joined (p.take (k+1))).length=f.joined (p.take (k+1)):=by
 have e:=NG (f:=f) hk;have e2:(f.joined (p.take k)).length+j=(f.joined (p.take (k+1))).length:=by rw[e,q48,hj]
 refine⟨e2,?_⟩;rw[<-e2,h,e,hj,q20 (qZ0 _)]
theorem ik(h:b.take (f.joined p).length=f.joined p):IL f b p=((f.joined p).length==b.length):=by
 rw[H5]
 by_cases e:(f.joined p).length=b.length
 . rw[q20 z144q]at h;simp[h]
 . rw[q89 (fun h2=>e (by rw[h2]))];simp[e]
theorem ck(h:b.take (f.joined p).length=f.joined p):IL f b p= !((((f.joined p).length:Nat):Int) !=(((b.map Tac.cells).length:Nat):Int)):=by
 rw[ik h,q76]
 by_cases e:(f.joined p).length=b.length
 . simp[e]
 . have e2:¬(((f.joined p).length:Nat):Int)=((b.length:Nat):Int):=by omega
   have h1:((f.joined p).length==b.length)=false:=by simpa using e
   have h2:((((f.joined p).length:Nat):Int) !=((b.length:Nat):Int))=true:=by simpa using e2
   rw[h1,h2];rfl
def fol(f:BFunc):List Int->Prop
  |i::j::r=>(f.blockAt i).fin=1/\(f.blockAt i).to=j/\fol f (j::r)
  |_=>True
theorem Ka(i:Int)(r:List Int)(k:Nat):iget (i::r) ((k+1:Nat):Int)=iget r (k:Int):=by simp[iget]
theorem iP(f:BFunc):∀(p:List Int),(∀k,k<p.length-1->NX f p k=true)↔fol f p
 | []=>by simp[fol]
 | [i]=>by simp[fol]
 |i::j::r=>by
  have ih:=iP f (j::r);unfold fol;rw[<-ih];constructor
  . intro h;have h0:=h 0 z145q;simp only[NX,q66,qZ4]at h0;have e0:iget (i::j::r) ((0:Nat):Int)=i:=by simp[iget]
    have e1:iget (i::j::r) ((0+1:Nat):Int)=j:=by simp[iget]
    rw[e0,e1]at h0;refine⟨h0.1,h0.2,fun k hk=>?_⟩;have h1:=h (k+1) (by simp at hk|-;omega);simp only[NX]at h1|-;rwa[Ka,Ka]at h1
  . rintro⟨h1,h2,h3⟩ k hk
    cases k with
    |zero=>
     have e0:iget (i::j::r) ((0:Nat):Int)=i:=by simp[iget]
     have e1:iget (i::j::r) ((0+1:Nat):Int)=j:=by simp[iget]
     simp only[NX,e0,e1,h1,h2];simp
    |succ k=>
     have:=h3 k (by simp at hk|-;omega);simp only[NX]at this|-;rwa[Ka,Ka]
theorem LU(f:BFunc)(p:List Int):G5 f p=true↔fol f p:=by
 rw[<-iP,G5,q67]
 simp
structure Wp(old new:BFunc)(paths:List (List Int)):Prop where
  ne:paths.length≠0
  len:paths.length=new.blocks.length
  regs:old.regs=new.regs
  all:∀p∈paths,oG old.blocks.length p
  head:EM (Dz paths 0)=0
  fol:∀(k:Nat) (p:List Int),paths[k]?=some p->fol old p
  ins:∀(k:Nat) (p:List Int),paths[k]?=some p->(new.blockAt k).ins=old.joined p
  leads:∀(k:Nat) (p:List Int),paths[k]?=some p->HA (old.blockAt (AT p)) (new.blockAt k) paths=true
theorem X9(h:oG n p):FB n p=true:=by
 simp only[FB,q66,q61,q67,q16,q40];exact⟨fun e=>h.1 (q18.1 e),fun i hi=>by have:=h.2 i hi;omega⟩
theorem check_iff{old new:BFunc}:Ej old new paths=true↔Wp old new paths:=by
 simp only[Ej,q66,q61,q40,bne_eq_false_iff_eq,q67];constructor
 . rintro⟨h1,h2,h3,h4,h5,h6⟩
   have key:∀(k:Nat) (p:List Int),paths[k]?=some p->Ko old new paths (p,k)=true:=fun k p hp=>h6 (p,k) (q33 (B8 hp))
   refine⟨h1,h2,h3,fun p hp=>Ip (h4 p hp),h5,fun k p hp=>?_,fun k p hp=>?_,fun k p hp=>?_⟩;all_goals
    have:=key k p hp;simp only[Ko,q66]at this
   . exact(LU _ _).1 this.1
   . have h:=this.2.1;rw[H5]at h;simpa using h
   . exact this.2.2
 . intro h;refine⟨h.ne,h.len,h.regs,fun p hp=>X9 (h.all p hp),h.head,fun q hq=>?_⟩;obtain⟨p,k⟩:=q;obtain⟨i,hi⟩:=q35 hq;have hlt:i<paths.length:=by
    have:=(q05.1 hi).1;simpa using this
   obtain⟨x,hx⟩:=Af hlt;rw[B8 hx]at hi
   cases hi
   simp only[Ko,q66];refine⟨(LU _ _).2 (h.fol _ _ hx),?_,h.leads _ _ hx⟩;rw[H5];simpa using h.ins _ _ hx
variable {A B C : BFunc} {P Q : List (List Int)}
variable {b last : Block}
theorem NE(h:HA last b paths=true):b.fin=last.fin/\b.v=last.v/\(b.fin=1\/b.fin=2->D6 paths b.to last.to=true)/\(¬(b.fin=1\/b.fin=2)->b.to=last.to)/\(b.fin=2->D6 paths b.els last.els=true)/\(b.fin≠2->b.els=last.els):=by
 simp only[HA,q66,q61,bne_eq_false_iff_eq]at h;obtain⟨h1,h2,h3,h4⟩:=h;refine⟨h1,h2,fun e=>?_,fun e=>?_,fun e=>?_,fun e=>?_⟩
 . have:(b.fin==1||b.fin==2)=true:=by rcases e with e|e<;>simp[e]
   simpa only[J5,this,qZ7]using h3
 . have:(b.fin==1||b.fin==2)=false:=by simp at e|-;exact e
   simpa[J5,this]using h3
 . simpa[J6,e]using h4
 . have:(b.fin==2)=false:=by simpa using e
   simpa[J6,this]using h4
theorem co(h1:b.fin=last.fin)(h2:b.v=last.v)(h3:b.fin=1\/b.fin=2->D6 paths b.to last.to=true)(h4:¬(b.fin=1\/b.fin=2)->b.to=last.to)(h5:b.fin=2->D6 paths b.els last.els=true)(h6:b.fin≠2->b.els=last.els):HA last b paths=true:=by
 simp only[HA,q66,q61,bne_eq_false_iff_eq];refine⟨h1,h2,?_,?_⟩
 . unfold J5
   cases e:b.fin==1||b.fin==2 with
   |true=>exact h3 K6
   |false=>simp only[qZ3,qZ4];exact h4 K6
 . unfold J6
   cases e:b.fin==2 with
   |true=>exact h5 K6
   |false=>simp only[qZ3,qZ4];exact h6 K6
theorem Fo{k i:Int}(h:D6 paths k i=true):0<=k/\k<paths.length/\EM (Dz paths k)=i:=by
 simp only[D6,q66,q56,qZ4]at h;exact⟨h.1,h.2.1,h.2.2⟩
theorem Yx{k i:Int}(h1:0<=k)(h2:k<paths.length)(h3:EM (Dz paths k)=i):D6 paths k i=true:=by
 simp only[D6,q66,q56,qZ4];exact⟨h1,h2,h3⟩
variable {s : ByteArray}
variable {ok : Int -> Prop} {old new : BFunc}
theorem V5{n r:Int}(h:x.ends n r=true):x.fin=1\/x.fin=2\/x.fin=3:=by
 grind[Block.ends]
theorem Px(h:t∈f.joined p):∃i∈p,t∈(f.blockAt i).ins:=by
 grind[BFunc.joined]
theorem lw(hH:Wp old new paths){n w:Int}(h:old.one n w=true):new.one n w=true:=by
 obtain⟨h1,h2,h3,h4⟩:=Cs h;have hb:new.blocks.length≠0:=by rw[<-hH.len];exact hH.ne
 rw[LC (by rw[<-hH.regs];exact h1) (by rw[<-hH.regs];exact h2) hb,q67];intro x hx;obtain⟨k,hk⟩:=q35 hx;have hkl:k<paths.length:=by rw[hH.len];exact(q05.1 hk).1
 obtain⟨p,hp⟩:=Af hkl;have hxk:new.blockAt k=x:=by
  have:=Bv (f:=new) (i:=k) (by rw[<-hH.len];omega);rw[q55,hk]at this;exact(q86 this).symm
 have hin:=hH.all p (q33 hp);have hins:=hH.ins k p hp;have hle:=hH.leads k p hp;rw[hxk]at hins hle;have hlast:=hin.2 _ (Jm hin.1);have hold:=(h4 _ (q33 (Bv hlast))).1;obtain⟨l1,l2,l3,l4,l5,l6⟩:=NE hle;have hlen:(new.blocks.length:Int)=paths.length:=by rw[hH.len]
 simp only[Block.ok,q66,q67];refine⟨?_,fun t ht=>?_⟩
 . rw[hlen,<-hH.regs];have hfin:=V5 hold;unfold Block.ends at hold|-;rw[<-l1]at hold hfin;rcases hfin with e|e|e
   . have bt:=Fo (l3 (.inl e));have e6:=l6 (by rw[e];decide);simp[e,A3]at hold|-;rw[l2,e6];exact⟨⟨bt.1,bt.2.1⟩,hold.2⟩
   . have bt:=Fo (l3 (.inr e));have be:=Fo (l5 e);simp[e,A3]at hold|-;rw[l2];exact⟨⟨bt.1,bt.2.1⟩,⟨be.1,be.2.1⟩,hold.2.2⟩
   . have e4:=l4 (by rw[e];decide);have e6:=l6 (by rw[e];decide);simp[e]at hold|-;rw[l2,e4,e6];exact hold
 . rw[hins]at ht;obtain⟨i,hi,hti⟩:=Px ht;rw[<-hH.regs];exact(h4 _ (q33 (Bv (hin.2 i hi)))).2 t hti
def Mach.tick(m:Mach):Mach:={m with steps:=m.steps+1}
def kblk(call:Int->Mach->Mach)(s:ByteArray)(f:BFunc):Nat->Int->List Int->Mach->Mach
  |0,_,_,m=>{m with fin:=5}
  |g+1,i,regs,m=>
    match f.blocks[i.toNat]? with
    |none=>m
    |some k=>bif (Bz call s k.ins regs m.tick).1&& !(k.fin==3)then kblk call s f g (k.next (Bz call s k.ins regs m.tick).2.1) (Bz call s k.ins regs m.tick).2.1 (Bz call s k.ins regs m.tick).2.2 else(Bz call s k.ins regs m.tick).2.2
variable {c : Cert}
theorem lQ{k:Block}{i:Int}(hk:f.blocks[i.toNat]?=some k)(g:Nat)(regs:List Int)(m:Mach):kblk call s f (g+1) i regs m=
 bif (Bz call s k.ins regs m.tick).1&& !(k.fin==3)then kblk call s f g (k.next (Bz call s k.ins regs m.tick).2.1) (Bz call s k.ins regs m.tick).2.1 (Bz call s k.ins regs m.tick).2.2 else(Bz call s k.ins regs m.tick).2.2:=by
 rw[kblk,hk]
def jS:Int->Prop:=fun _=>True
theorem Mach.Le.tick{x y:Mach}(h:x.Le y):x.tick.Le y.tick:=⟨h.words,h.out,h.read,h.fin,Nat.succ_le_succ h.steps⟩
theorem Mach.Le.late{x y:Mach}(h:x.Le y):x.tick.Le y:=⟨h.words,h.out,h.read,h.fin,Nat.le_succ_of_le h.steps⟩
theorem LK(hc:Ek call call' jS):∀(l:List Tac) (regs:List Int) {m m':Mach},m.fin=0->m.Le m'->qq (Bz call s l regs m) (Bz call' s l regs m')
 | [],regs,m,m',h0,h=>.inr ⟨rfl,rfl,h,fun _=>h0,fun e=>by cases e⟩
 |t::r,regs,m,m',h0,h=>by
  unfold Bz;obtain⟨b1,b2⟩:=Vt (s:=s) hc t (fun _=>trivial) regs h0 h;rcases b2 with b2|b2
  . rw[show((mone call s t regs m).2.fin==0)=false by rw[b2];rfl];exact .inl ⟨rfl,b2⟩
  . rw[b2.fin,<-b1]
    cases hf:(mone call s t regs m).2.fin==0 with
    |false=>
     simp only[qZ3];exact .inr ⟨rfl,b1,b2,z130q,fun _=>by simpa using hf⟩
    |true=>
     simp only[qZ7];exact LK hc r _ (by simpa using hf) b2
theorem Hm:∀(l1 l2:List Tac) (regs:List Int) (m:Mach),Bz call s (l1++l2) regs m=bif (Bz call s l1 regs m).1 then Bz call s l2 (Bz call s l1 regs m).2.1 (Bz call s l1 regs m).2.2 else Bz call s l1 regs m
 | [],l2,regs,m=>rfl
 |t::r,l2,regs,m=>by
  simp only[q73,Bz]
  cases (mone call s t regs m).2.fin==0 with
  |false=>rfl
  |true=>exact Hm r l2 _ _
def Gk(call:Int->Mach->Mach)(s:ByteArray)(f:BFunc)(k:Block)(g:Nat)(regs:List Int)(m:Mach):Mach:=
  bif k.fin==3 then m else kblk call s f g (k.next regs) regs m
theorem Fh{i:Int}{k:Block}(hk:f.blocks[i.toNat]?=some k)(g:Nat)(regs:List Int)(m:Mach):kblk call s f (g+1) i regs m=
 bif (Bz call s k.ins regs m.tick).1 then Gk call s f k g (Bz call s k.ins regs m.tick).2.1 (Bz call s k.ins regs m.tick).2.2 else(Bz call s k.ins regs m.tick).2.2:=by
 rw[lQ hk,Gk]
 cases (Bz call s k.ins regs m.tick).1<;>cases k.fin==3<;>rfl
theorem MW{i:Int}(hi:0<=i/\i<f.blocks.length)(g:Nat)(regs:List Int)(m:Mach):kblk call s f (g+1) i regs m=
 bif (Bz call s (f.blockAt i).ins regs m.tick).1 then Gk call s f (f.blockAt i) g (Bz call s (f.blockAt i).ins regs m.tick).2.1 (Bz call s (f.blockAt i).ins regs m.tick).2.2 else(Bz call s (f.blockAt i).ins regs m.tick).2.2:=
 Fh (Bv hi) g regs m
theorem J9(hc:Ek call call' jS){f:BFunc}:∀(g:Nat) (i:Int) (regs:List Int) {m m':Mach},m.fin=0->m.Le m'->(kblk call s f g i regs m).Sim (kblk call' s f g i regs m')
 |0,_,_,_,_,_,_=>.inl rfl
 |g+1,i,regs,m,m',h0,h=>by
  cases hk:f.blocks[i.toNat]? with
  |none=>unfold kblk;rw[hk];exact .inr h
  |some k=>
   rw[Fh hk,Fh hk];have hs:=LK (s:=s) hc k.ins regs (m:=m.tick) (m':=m'.tick) h0 h.tick;generalize Bz call s k.ins regs m.tick=X at hs|-;generalize Bz call' s k.ins regs m'.tick=Y at hs|-;obtain⟨X1,X2,X3⟩:=X;obtain⟨Y1,Y2,Y3⟩:=Y;rcases hs with⟨h1,h2⟩|⟨h1,h2,h3,h4,h5⟩
   . simp only at h1 h2;subst h1;exact .inl h2
   . simp only at h1 h2 h3 h4 h5;subst h1;subst h2
     cases X1 with
     |false=>exact .inr h3
     |true=>
      simp only[qZ7];unfold Gk
      cases hfin:k.fin==3 with
      |true=>exact .inr h3
      |false=>exact J9 hc g _ _ (h4 rfl) h3
theorem RX(hc:Ek call call' jS):
 ∀(p:List Int),p≠[]->(∀i∈p,0<=i/\i<old.blocks.length)->fol old p->∀(g:Nat) (regs:List Int) (m m':Mach),m.fin=0->m.tick.Le m'->
  (kblk call s old g (EM p) regs m).fin=5\/
  ((Bz call' s (old.joined p) regs m').1=false/\(kblk call s old g (EM p) regs m).Le (Bz call' s (old.joined p) regs m').2.2)\/
  ((Bz call' s (old.joined p) regs m').1=true/\∃m2 g2,m2.Le (Bz call' s (old.joined p) regs m').2.2/\m2.fin=0/\g2<g/\
   kblk call s old g (EM p) regs m=Gk call s old (old.blockAt (AT p)) g2 (Bz call' s (old.joined p) regs m').2.1 m2)
 | [],h,_,_,_,_,_,_,_,_=>absurd rfl h
 |_,_,_,_,0,_,_,_,_,_=>.inl rfl
 | [i],_,hin,_,g1+1,regs,m,m',h0,h=>by
  have hi:=hin i z145q;have e:old.joined [i]=(old.blockAt i).ins:=by simp[BFunc.joined]
  have hs:=LK (s:=s) hc (old.blockAt i).ins regs (m:=m.tick) h0 h;rw[e,show EM [i]=i from rfl,show AT [i]=i from rfl,MW hi];generalize Bz call s (old.blockAt i).ins regs m.tick=X at hs|-;generalize Bz call' s (old.blockAt i).ins regs m'=Y at hs|-;obtain⟨X1,X2,X3⟩:=X;obtain⟨Y1,Y2,Y3⟩:=Y;rcases hs with⟨h1,h2⟩|⟨h1,h2,h3,h4,h5⟩
  . simp only at h1 h2;subst h1;exact .inl h2
  . simp only at h1 h2 h3 h4 h5;subst h1;subst h2
    cases X1 with
    |false=>exact .inr (.inl ⟨rfl,h3⟩)
    |true=>exact .inr (.inr ⟨rfl,X3,g1,h3,h4 rfl,Nat.lt_succ_self _,rfl⟩)
 |i::j::r,_,hin,hfo,g1+1,regs,m,m',h0,h=>by
  have hi:=hin i z145q;have e:old.joined (i::j::r)=(old.blockAt i).ins++old.joined (j::r):=by simp[BFunc.joined]
  have hs:=LK (s:=s) hc (old.blockAt i).ins regs (m:=m.tick) h0 h;have hl:AT (i::j::r)=AT (j::r):=by simp[AT]
  rw[e,show EM (i::j::r)=i from rfl,hl,MW hi,Hm];generalize Bz call s (old.blockAt i).ins regs m.tick=X at hs|-;generalize Bz call' s (old.blockAt i).ins regs m'=Y at hs|-;obtain⟨X1,X2,X3⟩:=X;obtain⟨Y1,Y2,Y3⟩:=Y;rcases hs with⟨h1,h2⟩|⟨h1,h2,h3,h4,h5⟩
  . simp only at h1 h2;subst h1;exact .inl h2
  . simp only at h1 h2 h3 h4 h5;subst h1;subst h2
    cases X1 with
    |false=>exact .inr (.inl ⟨rfl,h3⟩)
    |true=>
     simp only[qZ7];have hx0:=h4 rfl;have hn3:((old.blockAt i).fin==3)=false:=by rw[hfo.1];rfl
     have hnx:(old.blockAt i).next X2=j:=by simp[Block.next,hfo.1,hfo.2.1]
     have ec:Gk call s old (old.blockAt i) g1 X2 X3=kblk call s old g1 j X2 X3:=by rw[Gk,hn3,hnx];rfl
     have ih:=RX hc (j::r) z145q (fun x hx=>hin x (by simp at hx|-;exact .inr hx)) hfo.2.2 g1 X2 X3 Y3 hx0 h3.late;rw[show EM (j::r)=j from rfl]at ih;rw[ec];rcases ih with ih|ih|⟨ih1,m2,g2,q1,q2,q4,q5⟩
     . exact .inl ih
     . exact .inr (.inl ih)
     . exact .inr (.inr ⟨ih1,m2,g2,q1,q2,by omega,q5⟩)
theorem RV{paths:List (List Int)}(hH:Wp old new paths)(hend:∀x∈old.blocks,x.fin=1\/x.fin=2\/x.fin=3)(hc:Ek call call' jS):
 ∀(n g:Nat),g<=n->∀(g':Nat) (k:Int) (regs:List Int) (m m':Mach),m.fin=0->m.Le m'->g<=g'->0<=k/\k<paths.length->
  (kblk call s old g (EM (Dz paths k)) regs m).Sim (kblk call' s new g' k regs m')
 |n,0,_,_,_,_,_,_,_,_,_,_=>.inl rfl
 |0,g+1,hgn,_,_,_,_,_,_,_,_,_=>absurd hgn z144q
 |n+1,g+1,hgn,g',k,regs,m,m',h0,h,hg,hk=>by
  obtain⟨g1',rfl⟩:∃g1,g'=g1+1:=⟨g'-1,by omega⟩
  have hpk:=MK hk;have ek:((k.toNat:Nat):Int)=k:=q41 hk.1;have hin:=hH.all _ (q33 hpk);have hins:=hH.ins _ _ hpk;have hle:=hH.leads _ _ hpk;rw[ek]at hins hle;have hkn:0<=k/\k<new.blocks.length:=by rw[<-hH.len];exact hk
  have ps:=RX (call:=call) (call':=call') (s:=s) hc (Dz paths k) hin.1 hin.2 (hH.fol _ _ hpk) (g+1) regs m m'.tick h0 h.tick;rw[MW hkn,hins];generalize Bz call' s (old.joined (Dz paths k)) regs m'.tick=Y at ps|-;generalize hX:kblk call s old (g+1) (EM (Dz paths k)) regs m=X at ps|-;obtain⟨Y1,Y2,Y3⟩:=Y;rcases ps with ps|⟨p1,p2⟩|⟨p1,m2,g2,q1,q2,q4,q5⟩
  . exact .inl ps
  . simp only at p1;subst p1;exact .inr p2
  . simp only at p1 q1 q5;subst p1;simp only[qZ7];rw[q5];unfold Gk;obtain⟨l1,l2,l3,l4,l5,l6⟩:=NE hle;have hlast:=hin.2 _ (Jm hin.1);have hfin:=hend _ (q33 (Bv hlast));rw[l1]
    cases h3:(old.blockAt (AT (Dz paths k))).fin==3 with
    |true=>exact .inr q1
    |false=>
     simp only[qZ3];have h12:(new.blockAt k).fin=1\/(new.blockAt k).fin=2:=by
      rw[l1];rcases hfin with e|e|e
      . exact .inl e
      . exact .inr e
      . rw[e]at h3;cases h3
     have bt:=Fo (l3 h12);have key:0<=(new.blockAt k).next Y2/\(new.blockAt k).next Y2<paths.length/\(old.blockAt (AT (Dz paths k))).next Y2=EM (Dz paths ((new.blockAt k).next Y2)):=by
      unfold Block.next;rw[<-l1,<-l2]
      cases hc2:(new.blockAt k).fin==2&&rget Y2 (new.blockAt k).v==0 with
      |false=>exact⟨bt.1,bt.2.1,bt.2.2.symm⟩
      |true=>
       simp only[q66,qZ4]at hc2;have be:=Fo (l5 hc2.1);exact⟨be.1,be.2.1,be.2.2.symm⟩
     rw[key.2.2];exact RV hH hend hc n g2 z144q g1' _ _ _ _ q2 q1 z144q ⟨key.1,key.2.1⟩
def FSm(f g:BFunc):Prop:=∀(call:Int->Mach->Mach) (s:ByteArray) (G:Nat),Ek call call jS->∀m m',m.fin=0->m.Le m'->
  (kblk call s f G 0 (List.replicate f.regs.toNat 0) m).Sim (kblk call s g G 0 (List.replicate g.regs.toNat 0) m')
theorem Wq(f:BFunc):FSm f f:=fun call s G hc m m' h0 h=>J9 hc G _ _ h0 h
theorem FSm.trans{f g h:BFunc}(h1:FSm f g)(h2:FSm g h):FSm f h:=fun call s G hc m m' h0 hl=>(h1 call s G hc m m' h0 hl).trans (h2 call s G hc m' m' (hl.fin.trans h0) (Mach.Le.refl _))
theorem FSm.tidy{g:BFunc}(hH:Wp f g paths)(hend:∀x∈f.blocks,x.fin=1\/x.fin=2\/x.fin=3):FSm f g:=fun call s G hc m m' h0 hl=>by
 have:=RV (s:=s) hH hend hc G G (qZ0 _) G 0 (List.replicate f.regs.toNat 0) m m' h0 hl (qZ0 _) ⟨Int.le_refl _,by have:=hH.ne;omega⟩;rw[hH.head]at this;rw[<-hH.regs];exact this
variable {K : Nat}
structure OPass where
  kind:Int
  cert:Cert
  paths:List (List Int)
  f:BFunc
def OPass.holds(p:OPass)(f:BFunc):Bool:=
  bif p.kind==4 then p.cert.same.isEmpty&&Ej f p.f p.paths else decide (1<=p.kind/\p.kind<=4)&&(p.paths.isEmpty&&Ik f p.f p.cert)
def OPass.rholds(p:OPass)(f:BFunc):Bool:=
  bif p.kind==4 then p.cert.same.isEmpty&&Ej f p.f p.paths else decide (1<=p.kind/\p.kind<=4)&&(p.paths.isEmpty&&Fc f p.f p.cert)
def Xx(op:Int):Int:=bif use1 op then 1 else bif use2 op then 2 else 0
def DG(l:List Block):Nat:=(l.map fun x=>x.ins.length).sum
variable {l : List Block}
theorem TF(h:l[k]?=some x):DG (l.take (k+1))=DG (l.take k)+x.ins.length:=by
 rw[DG,AY h];simp[DG]
theorem No{l:List α}{p:α->Nat}:((l.take k).map p).sum<=(l.map p).sum:=by
 conv=>rhs;rw[<-q32 k l]
 rw[q77,q82];omega
theorem TE:DG (l.take k)<=DG l:=No
theorem c9(l:List Block):(l.map Block.count).sum=l.length+DG l:=by
 induction l with
 |nil=>rfl
 |cons x l ih=>simp only[qQ0,qQ2,ih,q70,DG,Block.count];omega
theorem E2(f:BFunc):f.count=f.blocks.length+DG f.blocks:=c9 f.blocks
theorem YH{y:Block}(h1:x.fin=y.fin)(h2:x.v=y.v)(h3:x.to=y.to)(h4:x.els=y.els)(h5:x.ins=y.ins):x=y:=by
 cases x;cases y;simp_all
def OPass.cells(p:OPass):List AV:=[.int .i64 p.kind,OZ p.cert.same,AO p.paths,.int .i64 p.f.regs,BZ p.f.blocks]
def Ds(l:List OPass):AV:=.lst false (l.map OPass.cells)
def io(ls:List (List OPass)):AV:=.lst false (ls.map fun l=>[Ds l])
structure Blocks.Lim(b:Blocks):Prop where
  n:b.funcs.length<=1048576
  c:b.count<=1048576
structure BFunc.Lim(f:BFunc):Prop where
  n:f.blocks.length<=1048576
  c:∀x∈f.blocks,x.ins.length<=1048576
def PA(f:BFunc):Bool:=decide (f.regs<=30)
def Hh(b:Blocks):Bool:=decide (b.funcs.length<=6)&&(decide (b.words<=400)&&(b.right&&(decide (b.count<=200)&&b.funcs.all PA)))
structure my(b:Blocks):Prop where
  n:b.funcs.length<=6
  w:b.words<=400
  r:b.right=true
  c:b.count<=200
  g:∀f∈b.funcs,f.regs<=30
theorem Xe{b:Blocks}(h:Hh b=true):my b:=by
 simp only[Hh,q66,q56]at h;exact⟨h.1,h.2.1,h.2.2.1,h.2.2.2.1,fun f hf=>q58 (q67.1 h.2.2.2.2 f hf)⟩
variable {l : List BFunc}
theorem il(h:l[k]?=some f)(h1:(l.take k).all PA=true)(h2:f.regs<=30):(l.take (k+1)).all PA=true:=by
 rw[q59,h,q92,h1];simp[PA,h2]
theorem qp(h:f∈l)(h2:¬f.regs<=30):l.all PA=false:=by
 rw[q64];intro e;exact h2 (q58 (q67.1 e f h))
def Ge(G:BFunc->Int->OPass):List Int->BFunc->List OPass
  | [],_=>[]
  |k::r,f=>G f k::Ge G r (G f k).f
def Mh(G:BFunc->Int->OPass):List Int->BFunc->BFunc
  | [],f=>f
  |k::r,f=>Mh G r (G f k).f
theorem GR(G:BFunc->Int->OPass):∀(ks:List Int) (f:BFunc),(Ge G ks f).length=ks.length
 | [],_=>rfl
 |k::r,f=>congrArg (· +1) (GR G r _)
theorem Ve{G:BFunc->Int->OPass}:∀{ks:List Int} {f:BFunc} {j:Nat} {k:Int},ks[j]?=some k->(Ge G ks f)[j]?=some (G (Mh G (ks.take j) f) k)
 |a::r,f,0,k,h=>by simp at h;subst h;rfl
 |a::r,f,j+1,k,h=>by
  show(Ge G r (G f a).f)[j]?=_;exact Ve (ks:=r) He
theorem LZ{G:BFunc->Int->OPass}:∀{ks:List Int} {f:BFunc} {j:Nat} {k:Int},ks[j]?=some k->Mh G (ks.take (j+1)) f=(G (Mh G (ks.take j) f) k).f
 |a::r,f,0,k,h=>by simp at h;subst h;simp[Mh]
 |a::r,f,j+1,k,h=>by
  show Mh G (r.take (j+1)) (G f a).f=_;exact LZ (ks:=r) He
def kind35(k:Int):Bool:=decide (1<=k/\k<=4)
end Go.Proofs.YtbbfelelocccmaaGreat.Sv
namespace Go.Proofs.YtbbfelelocccmaaGreat
open Go Go.ChangeShapes Go.WideShapes Go.ChangeAt Go.RowKit Sv
variable {H : Type} {enc : TypeId × Value -> H} {P : Program} {W : World} {t e : TypeId}
theorem bulk_one(d:DataW H):1<=Rows.uptoBulk d:=by
 cases d with
 |lit l=>cases l<;>simp[Rows.uptoBulk]
 |_=>simp[Rows.uptoBulk]
theorem bulk_part:∀{l:List (DataW H)} {i:Nat} {d:DataW H},l[i]?=some d->Rows.uptoBulk d<=Rows.uptoBulkAll l
 |x::l,0,d,h=>by simp at h;subst h;simp only[Rows.uptoBulkAll];omega
 |x::l,i+1,d,h=>by
  have:=bulk_part (l:=l) (i:=i) He;simp only[Rows.uptoBulkAll];omega
theorem bulk_sum:∀(l:List (DataW H)),(l.map Rows.uptoBulk).sum=Rows.uptoBulkAll l
 | []=>by simp[Rows.uptoBulkAll]
 |x::l=>by simp only[qQ0,qQ2,Rows.uptoBulkAll,bulk_sum l]
def DecR(enc:TypeId×Value->H)(P:Program)(W:World)(t:TypeId){α:Type}(f:α->List AV)(Q:α->Nat->Prop):Prop:=
  ∀(fuel:Nat) (cs:List Value) (x:DataW H×List MemPlace),DataW.trod enc P W 0 (fun _=>true) true fuel t cs=some x->(x.1.weights P t).all (· <=reachBytes)=true->∃a,Reads W cs (f a)/\Q a (Rows.uptoBulk x.1)
variable {α : Type}
theorem DecR.of{f:α->List AV}{Q:α->Prop}(h:Dec enc P W t f Q):DecR enc P W t f (fun a n=>Q a/\1<=n):=fun fuel cs x hx hw=>by
 obtain⟨a,h1,h2⟩:=h fuel cs x hx hw;exact⟨a,h1,h2,bulk_one _⟩
def PartsQ{α:Type}(Q:α->Nat->Prop)(l:List α)(n:Nat):Prop:=∃ns:List Nat,ns.length=l.length/\ns.sum+1<=n/\∀(i:Nat) (a:α) (m:Nat),l[i]?=some a->ns[i]?=some m->Q a m
variable {n : Nat}
theorem PartsQ.all{Q:α->Nat->Prop}{l:List α}(h:PartsQ Q l n):∀a∈l,∃m,Q a m/\m+1<=n:=fun a ha=>by
 obtain⟨ns,h1,h2,h3⟩:=h;obtain⟨i,hi⟩:=q35 ha;obtain⟨m,hm⟩:=Af (l:=ns) (k:=i) (by have:=(q05.1 hi).1;omega);have:m<=ns.sum:=by
  have:=PE (p:=id) (q33 hm);simpa using this
 exact⟨m,h3 i a m hi hm,by omega⟩
theorem sum_le_of{α:Type}{μ:α->Nat}:∀{l:List α} {ns:List Nat},ns.length=l.length->(∀(i:Nat) (a:α) (m:Nat),l[i]?=some a->ns[i]?=some m->μ a<=m)->(l.map μ).sum<=ns.sum
 | [],_,_,_=>by simp
 |a::l,[],h,_=>by simp at h
 |a::l,m::ns,h,hq=>by
  have h1:=hq 0 a m rfl rfl;have h2:=sum_le_of (l:=l) (ns:=ns) He fun i b k hb hk=>hq (i+1) b k (by simpa using hb) (by simpa using hk)
  simp only[qQ0,qQ2];omega
theorem PartsQ.sum{α:Type}{Q:α->Nat->Prop}{l:List α}{n:Nat}(h:PartsQ Q l n)(μ:α->Nat)(hμ:∀a m,Q a m->μ a<=m):(l.map μ).sum+1<=n:=by
 obtain⟨ns,h1,h2,h3⟩:=h;have:=sum_le_of (μ:=μ) h1 fun i a m ha hm=>hμ a m (h3 i a m ha hm)
 omega
theorem sum_ones{α:Type}:∀(l:List α),(l.map fun _=>1).sum=l.length
 | []=>rfl
 |a::l=>by simp only[qQ0,qQ2,q70,sum_ones l];omega
theorem PartsQ.len{Q:α->Nat->Prop}{l:List α}(h:PartsQ Q l n)(h1:∀a m,Q a m->1<=m):l.length+1<=n:=by
 have:=h.sum (fun _=>1) h1;rwa[sum_ones]at this
theorem DecR.slice{α:Type}{f:α->List AV}{Q:α->Nat->Prop}(ht:P.underlying t=some (.slice e))(hc:0<P.cellsOf e)(he:DecR enc P W e f Q):
 DecR enc P W t (fun l:List α=>[.lst false (l.map f)]) (fun l n=>l.length*P.bytesOf e<=reachBytes/\PartsQ Q l n):=fun fuel cs x h hw=>by
 rcases DataW.trod_slice ht h with⟨rfl,rfl⟩|⟨a,len,cap,elems,rest,n,rfl,rfl,rfl,hb,hl,hm,hlen,hel,hsp,hns⟩
 . exact⟨[],.one (.lst0 _ _ _ _ EU (qZ1 _) (fun _=>rfl) trivial) rfl,by simp,[],rfl,by simpa using bulk_one _,fun i a m h=>by simp at h⟩
 simp only[DataW.weights,ht,qQ1,q92,q66,q56,q76]at hw;obtain⟨w1,w2,w3⟩:=hw;have key:∀i,i<len->∃y,∃cs',W.cells? 0 (a.add (i*P.cellsOf e)) (P.cellsOf e)=some cs'/\Reads W cs' (f y)/\∃d,(elems.map (·.1))[i]?=some d/\Q y (Rows.uptoBulk d):=fun i hi=>by
  have h1:=hel i hi;have hlt:i<elems.length:=by omega
  rw[q13 hlt]at h1;rw[Option.bind_eq_some_iff]at h1;obtain⟨cs',c1,c2⟩:=h1;have hd:(elems.map (·.1))[i]?=some elems[i].1:=by rw[q54,q13 hlt];rfl
  obtain⟨y,y1,y2⟩:=he _ _ _ c2 (weightsAll_get w2 (i:=i) hd);exact⟨y,cs',c1,y1,_,hd,y2⟩
 obtain⟨l,l1,l2⟩:=Jr len key;have hQ:PartsQ Q l (Rows.uptoBulk (.slice (elems.map (·.1)) (rest.map (·.1)))):=by
  refine⟨(elems.map (·.1)).map Rows.uptoBulk,by simp[l1,hlen],?_,fun i y m hy hm=>?_⟩
  . rw[bulk_sum];simp only[Rows.uptoBulk];omega
  . obtain⟨cs',_,_,d,hd,q⟩:=l2 i y hy;rw[q54,hd]at hm
    cases hm
    exact q
 exact zt15
variable {T : Nat -> Option Av}
theorem DecR.slice'{f:α->List AV}{Q:α->Nat->Prop}{i j:Av}{u:Nat}(hT:CE P T)(hi:T t=some i)(hk:i.k=.slice u)(hj:T u=some j)(hp:0<j.size)(he:DecR enc P W u f Q):
 DecR enc P W t (fun l:List α=>[.lst false (l.map f)]) (fun l n=>l.length*j.bytes<=reachBytes/\PartsQ Q l n):=by
 obtain⟨info,d,e1,e2,e3,e4,e5,e6⟩:=Am (hT _ _ hi);have hd:=BF (P:=P) (d:=d) (e3▸hk);subst hd;have:=DecR.slice (enc:=enc) (W:=W) e2 (by rw[G8 hT hj];exact hp) he;rwa[Qf hT hj]at this
theorem struct_partsR{i:Av}{fs:List (Nat×Nat)}(hT:CE P T)(hi:T t=some i)(hk:i.k=.struct fs){fuel:Nat}{cs:List Value}{x:DataW H×List MemPlace}(h:DataW.trod enc P W 0 (fun _=>true) true fuel t cs=some x)(hw:(x.1.weights P t).all (· <=reachBytes)=true):
 cs.length=i.size/\∀(i off u:Nat),fs[i]?=some (off,u)->∀{α:Type} {f:α->List AV} {Q:α->Nat->Prop},DecR enc P W u f Q->∃a,Reads W ((cs.drop off).take (P.cellsOf u)) (f a)/\∃m,m+1<=Rows.uptoBulk x.1/\Q a m:=by
 obtain⟨info,d,e1,e2,e3,e4,e5,e6⟩:=Am (hT _ _ hi);obtain⟨A,rfl,rfl,_⟩:=Fx (P:=P) (d:=d) (e3▸hk);obtain⟨xs,n,rfl,rfl,hl,hxl,hx⟩:=DataW.trod_struct e2 h;refine⟨by rw[hl,G8 hT hi],fun j off u hj α f Q hd=>?_⟩;rw[q54,q22]at hj;obtain⟨F,hF,hF2⟩:=hj;simp only[q98]at hF2;obtain⟨rfl,rfl⟩:=hF2;have hFa:A[j]?=some F:=by simpa using hF
 have hjlt:j<xs.length:=by rw[hxl];exact(q03.1 hFa).1
 have h1:=hx j F hFa;rw[q13 hjlt]at h1;simp only[DataW.weights,e2]at hw;have hd2:(xs.map (·.1))[j]?=some xs[j].1:=by rw[q54,q13 hjlt];rfl
 obtain⟨a,a1,a2⟩:=hd _ _ _ h1 (weightsEach_get hw (i:=j) (by rw[q54,hF];rfl) hd2);refine⟨a,a1,_,?_,a2⟩;have:=bulk_part hd2;simp only[Rows.uptoBulk];omega
variable {d : DataW H}
theorem arg_oneR{f:α->List AV}{Q:α->Nat->Prop}{v:Value}{ps:List MemPlace}(h:DataW.Trod enc P W 0 (fun _=>true) true t v d ps)(hw:(d.weights P t).all (· <=reachBytes)=true)(hd:DecR enc P W t f Q):∃a,Reads W v.cells.toList (f a)/\Q a (Rows.uptoBulk d):=by
 obtain⟨fuel,hf⟩:=h;exact hd _ _ _ hf hw
theorem upto_get{ds gs:List (DataW H)}{i:Nat}(h:Rows.uptoSmall H (ds++gs)=true)(hd:ds[i]?=some d):Rows.uptoBulk d<=1048576:=by
 have h1:Rows.uptoBulkAll (ds++gs)<=1048576:=q58 h;have h2:=bulk_part (l:=ds++gs) (i:=i) (d:=d) (by rw[q06 (q05.1 hd).1];exact hd);omega
theorem decBlockR:DecR enc Tryz.prog W 80 Block.cells (fun x n=>x.Ok/\x.count<=n):=fun fuel cs x h hw=>by
 obtain⟨a,a1,a2⟩:=decBlock fuel cs x h hw;obtain⟨hl,hp⟩:=struct_partsR Ai rfl rfl h hw;obtain⟨x0,a0,m0,b0,c0,d0⟩:=hp 0 _ _ rfl (DecR.slice' Ai rfl rfl rfl (q68 _) (DecR.of decTac));obtain⟨x1,a1',_,_,b1,_⟩:=hp 1 _ _ rfl (DecR.of (Cb Ai rfl rfl));obtain⟨x2,a2',_,_,b2,_⟩:=hp 2 _ _ rfl (DecR.of (Cb Ai rfl rfl));obtain⟨x3,a3,_,_,b3,_⟩:=hp 3 _ _ rfl (DecR.of (Cb Ai rfl rfl));obtain⟨x4,a4,_,_,b4,_⟩:=hp 4 _ _ rfl (DecR.of (Cb Ai rfl rfl));have k0:=Hd Ai rfl rfl (Reads.nil W cs) a0 (qZ1 _);have k1:=Hd Ai rfl rfl k0 a1' QU;have k2:=Hd Ai rfl rfl k1 a2' QU;have k3:=Hd Ai rfl rfl k2 a3 QU;have k4:=Hd Ai rfl rfl k3 a4 QU;refine⟨⟨x0,x1,x2,x3,x4⟩,k4.all hl,⟨c0,fun t ht=>?_,DC b1,DC b2,DC b3,DC b4⟩,?_⟩
 . obtain⟨m,hm,_⟩:=d0.all t ht;exact hm.1
 . have:=d0.len (fun a m h=>h.2);simp only[Block.count];omega
theorem decBFuncR:DecR enc Tryz.prog W 41 BFunc.cells (fun f n=>f.Ok/\f.count+1<=n):=fun fuel cs x h hw=>by
 obtain⟨hl,hp⟩:=struct_partsR Ai rfl rfl h hw;obtain⟨x0,a0,_,_,b0,_⟩:=hp 0 _ _ rfl (DecR.of (Cb Ai rfl rfl));obtain⟨x1,a1,m1,b1,c1,d1⟩:=hp 1 _ _ rfl (DecR.slice' Ai rfl rfl rfl (q68 _) decBlockR);have k0:=Hd Ai rfl rfl (Reads.nil W cs) a0 (qZ1 _);have k1:=Hd Ai rfl rfl k0 a1 QU;refine⟨⟨x0,x1⟩,k1.all hl,⟨DC b0,c1,fun y hy=>?_⟩,?_⟩
 . obtain⟨m,hm,_⟩:=d1.all y hy;exact hm.1
 . have:=d1.sum Block.count (fun a m h=>h.2);show(x1.map Block.count).sum+1<=_;omega
theorem sum_add1{α:Type}{p:α->Nat}:∀(l:List α),(l.map fun a=>p a+1).sum=(l.map p).sum+l.length
 | []=>rfl
 |a::l=>by simp only[qQ0,qQ2,q70,sum_add1 l];omega
theorem decBlocksR:DecR enc Tryz.prog W 24 Blocks.cells (fun b n=>b.Ok/\b.count+b.funcs.length<=n):=fun fuel cs x h hw=>by
 obtain⟨hl,hp⟩:=struct_partsR Ai rfl rfl h hw;obtain⟨x0,a0,_,_,b0,_⟩:=hp 0 _ _ rfl (DecR.of (Cb Ai rfl rfl));obtain⟨x1,a1,m1,b1,c1,d1⟩:=hp 1 _ _ rfl (DecR.slice' Ai rfl rfl rfl (q68 _) decBFuncR);have k0:=Hd Ai rfl rfl (Reads.nil W cs) a0 (qZ1 _);have k1:=Hd Ai rfl rfl k0 a1 QU;refine⟨⟨x0,x1⟩,k1.all hl,⟨DC b0,c1,fun y hy=>?_⟩,?_⟩
 . obtain⟨m,hm,_⟩:=d1.all y hy;exact hm.1
 . have:=d1.sum (fun f=>f.count+1) (fun a m h=>h.2);rw[sum_add1]at this;show(x1.map BFunc.count).sum+x1.length<=_;omega
theorem lim_row{b:Blocks}(h:b.Ok/\b.count+b.funcs.length<=n)(hn:n<=1048576):b.Lim:=⟨by omega,by omega⟩
end Go.Proofs.YtbbfelelocccmaaGreat
namespace Go.Proofs.YtbbfelelocccmaaGreat
open Go.ChangeShapes Go.WideShapes Go.ChangeAt Go.RowKit Sv
variable {H : Type} {enc : TypeId × Value -> H} {W : World}
end Go.Proofs.YtbbfelelocccmaaGreat
namespace Go.Proofs.YtbbfelelocccmaaGreat.Sv
open Go
def AV.sure:AV->Option Value
  | .bool b=>some (.bool b)
  | .int k n=>some (.int k n)
  | .str s=>some (.string s)
  | .fn f [] []=>some (.func f #[] #[])
  | .val v=>some v
  |_=>none
def UF:List AV->Option (List Value)
  | []=>some []
  |x::xs=>match x.sure,UF xs with
    |some v,some vs=>some (v::vs)
    |_,_=>none
def AV.whole:AV->Option Value
  | .agg cs=>(UF cs).map fun l=>.agg l.toArray
  |x=>x.sure
variable {v u : Value} {x : AV} {H : AA} {ι : Bp}
theorem UE(h:Rel H ι x v)(e:x.sure=some u):v=u:=by
 cases h with
 |bool=>simpa[AV.sure]using e
 |int=>simpa[AV.sure]using e
 |str=>simpa[AV.sure]using e
 |val=>simpa[AV.sure]using e
 |fn _ f xs cs us vs hx hl h1 h2=>
  cases xs with
  |cons=>simp[AV.sure]at e
  |nil=>
   cases cs with
   |cons=>simp[AV.sure]at e
   |nil=>
    have e1:us= #[]:=Array.eq_empty_of_size_eq_zero (by simpa using hx.symm);have e2:vs= #[]:=Array.eq_empty_of_size_eq_zero (by simpa using hl.symm);subst e1;subst e2;simpa[AV.sure]using e
 |_=>simp[AV.sure]at e
theorem sureL_get:∀{xs:List AV} {l:List Value},UF xs=some l->xs.length=l.length/\∀(j:Nat) (x:AV),xs[j]?=some x->∃u,l[j]?=some u/\x.sure=some u
 | [],l,h=>by simp[UF]at h;subst h;exact⟨rfl,fun j x h=>by simp at h⟩
 |x::xs,l,h=>by
  unfold UF at h;split at h
  . rename_i v vs h1 h2;simp at h;subst h;obtain⟨a1,a2⟩:=sureL_get h2;refine⟨by simp[a1],fun j y hj=>?_⟩
    cases j with
    |zero=>simp at hj;subst hj;exact⟨v,rfl,h1⟩
    |succ j=>obtain⟨u,u1,u2⟩:=a2 j y (by simpa using hj);exact⟨u,by simpa using u1,u2⟩
  . cases h
theorem aC(h:Rel H ι x v)(e:x.whole=some u):v=u:=by
 cases x with
 |agg cs=>
  obtain⟨us,rfl,hl,hr⟩:=h.agg_inv;simp only[AV.whole,q22]at e;obtain⟨l,h1,rfl⟩:=e;obtain⟨a1,a2⟩:=sureL_get h1;congr 1;apply Array.ext Df;intro i h1 h2;obtain⟨x,hx⟩:∃x,cs[i]?=some x:=⟨cs[i]'z144q,by simp[hl,h1]⟩
  obtain⟨w,w1,w2⟩:=a2 i x hx;have:=UE (hr i x us[i] hx (by simp[h1])) w2;rw[this];rw[q05]at w1;obtain⟨_,w1⟩:=w1;simp[w1]
 |_=>exact UE h e
variable {P : Program} {T : Nat -> Option Av} {o : Oper} {e : Ax} {h : Ad}
theorem ff{d:TypeDesc}(h:IT P d≠ .other):∀m,d≠ .interface m:=fun m e=>by subst e;exact h rfl
variable {t : TypeId} {x : Operand}
theorem Ls(hT:CE P T){y:AV}{i:Av}(ho:o.op=.makeInterface t x)(hx:An e x=some y)(hy:y.whole=some u)(ht:T t=some i)(hk:i.k≠ .other):QLoc P o e h [] (.val (.iface t u)):=by
 intro H ι a w s hs g1 g2;have hx':An s.env x=some y:=by rw[g1 x Bx,hx]
 have hv:=aC (Ao hs hx') hy;obtain⟨info,d,e1,e2,e3,e4,e5,e6⟩:=Am (hT _ _ ht);have hd:=ff (P:=P) (d:=d) (e3▸hk);refine⟨.iface t u,.val _ _ rfl,?_⟩;simp only[execOp,ho,hv,Instr.makeInterface,qQ9,Aq e2,q57]
 cases d with
 |interface m=>exact absurd rfl (hd m)
 |_=>rfl
variable {f : FuncId} {r x0 : AV} {xs : List AV} {fn : Func} {recv : Operand} {name : String} {args : Array Operand} {tys : Array TypeId}
theorem LD(ho:o.op=.call {callee:=.invoke recv name,args:=args,argTypes:=tys})
 (hr:An e recv=some (.val (.iface t v))) (hm:∀w,(method (P.types.size+Made.depth) t v name).run P w=.ok (f,v) w) (hv:∀H,Rel H A7 x0 v)
 (hf:P.funcs[f]?=some fn) (hn:(fn.name== "runtime.NumGoroutine")=false) (hb:fn.body.isSome=true)
 (hx:A8 e args.toList=some xs) (hp:xs.all AV.isPure=true) (hc:APure P f (x0::xs) (fun r'=>r'=r)):OLoc P o e h [] [] (some r):=by
 intro H ι a w s Q hs g1 g2;have hx':A8 s.env args.toList=some xs:=by
  exact dM
 have hr':An s.env recv=some (.val (.iface t v)):=by rw[g1 recv Fu,hr]
 have hre:=((Ao hs hr').val_inv).1;have hra:=Cl hs hx';have hra':RelAll H A7 (x0::xs) (#[v]++args.map a.eval):=by
  have h1:RelAll H A7 [x0] #[v]:=⟨rfl,fun j x u h1 h2=>by
   cases j with
   |zero=>simp at h1 h2;subst h1;subst h2;exact hv H
   |succ j=>simp at h1⟩
  exact CF h1 ⟨hra.1,fun j x u h1 h2=>GQ (q67.1 hp x (q33 h1)) (hra.2 j x u h1 h2)⟩
 have hcall:=hc H w _ hra' (MV hs.heap);have hexec:(execOp a.eval o).run P w=.ok (.enter f (#[v]++args.map a.eval)) w:=by
  have h0:(#[Value.iface t v]++args.map a.eval)[0]?=some (.iface t v):=by
   rw[q04 z145q];rfl
  have hex:(#[Value.iface t v]++args.map a.eval).extract 1 (#[Value.iface t v]++args.map a.eval).size=args.map a.eval:=by
   apply Array.ext';exact nF
  simp only[execOp,ho,resolve,hre,invoke,qQ9,qX1,q57,h0,hex,callMethod,run_program,hm w,Cp hf hn hb]
 exact n5
variable {y : Operand}
theorem bV(ho:o.op=.call {callee:=.value y,args:=args,argTypes:=tys})
 (hy:An e y=some (.val (.func (.func f) #[] #[]))) (hf:P.funcs[f]?=some fn) (hn:(fn.name== "runtime.NumGoroutine")=false) (hb:fn.body.isSome=true)
 (hx:A8 e args.toList=some xs) (hp:xs.all AV.isPure=true) (hc:APure P f xs (fun r'=>r'=r)):OLoc P o e h [] [] (some r):=by
 intro H ι a w s Q hs g1 g2;have hx':A8 s.env args.toList=some xs:=by
  exact dM
 have hy':An s.env y=some (.val (.func (.func f) #[] #[])):=by rw[g1 y Fu,hy]
 have hye:=((Ao hs hy').val_inv).1;have hra:=Cl hs hx';have hra':RelAll H A7 xs (args.map a.eval):=⟨hra.1,fun j x v h1 h2=>GQ (q67.1 hp x (q33 h1)) (hra.2 j x v h1 h2)⟩;have hcall:=hc H w _ hra' (MV hs.heap);have hexec:(execOp a.eval o).run P w=.ok (.enter f (args.map a.eval)) w:=by
  simp only[execOp,ho,resolve,hye,Deferred.ofValue,invoke,qQ9,qX1,q57,Array.append_empty,Array.empty_append,Cp hf hn hb]
 exact n5
def jk(k:Int)(f:Nat):Value:=.agg #[.int .i64 k,.func (.func f) #[] #[]]
def ZI(k:Int):Value:=bif k==1 then .iface 97 (jk 1 41)else bif k==2 then .iface 97 (jk 2 42)else bif k==3 then .iface 97 (jk 3 43)else bif k==4 then .iface 99 (.agg #[.int .i64 4])else .nilIface
variable {k : Int}
theorem lP(h1:k≠1)(h2:k≠2)(h3:k≠3)(h4:k≠4):kind35 k=false:=by
 rw[kind35,q16];omega
theorem gF(h1:k≠1)(h2:k≠2)(h3:k≠3)(h4:k≠4):ZI k=.nilIface:=by
 have a1:(k==1)=false:=q40.2 h1;have a2:(k==2)=false:=q40.2 h2;have a3:(k==3)=false:=q40.2 h3;have a4:(k==4)=false:=q40.2 h4;simp[ZI,a1,a2,a3,a4]
theorem PJ(h:kind35 k=true):k=1\/k=2\/k=3\/k=4:=by
 have:=q58 h;omega
theorem UY(h:Rel H ι .nil v):Rel H ι (.lst false []) v:=by
 rw[h.nil_inv];exact .lst0 _ _ none 0 EU (qZ1 _) (fun _=>rfl) trivial
variable {q : AV} {j : Av} {t' : TypeId} {u' : Nat}
theorem bW(hT:CE P T){i i':Av}{u:Nat}{es2:List (List AV)}{R:List Nat}(b:Nat)
 (ho:o.op=.call {callee:=.builtin .append,args:= #[x,y],argTypes:= #[t,t']}) (hx:An e x=some .nil) (hy:An e y=some q) (hi:T t=some i) (hk:i.k=.slice u) (hj:T u=some j) (hi':T t'=some i') (hk':i'.k=.slice u')
 (hb:h b=some .free) (hz:j.zero.length=j.size) (hp:0<j.size) (hsrc:SrcOf h q R es2) (hu2:∀cs∈es2,cs.length=j.size) (hne:0<es2.length)
 (hby:es2.length*j.bytes<=140737488355328) (hml:es2.length<=maxLen):
 OLoc P o e h (b::R) [(b,.row false j.size es2)] (some (.ref b es2.length 0 es2.length)):=by
 refine El hb z145q hp fun H ι a w s hs g1 g2=>?_
 have hx':An s.env x=some .nil:=by rw[g1 x Fu,hx]
 have hy':An s.env y=some q:=by rw[g1 y Fu,hy]
 have hsrc':=hsrc.agree (h':=s.h) (fun c hc=>g2 c K4);obtain⟨info,d,e1,e2,e3,e4,e5,e6⟩:=Am (hT _ _ hi);obtain⟨infou,du,f1,f2,f3,f4,f5,f6⟩:=Am (hT _ _ hj);obtain⟨info',d',e1',e2',e3',e4',e5',e6'⟩:=Am (hT _ _ hi');have hd:=BF (P:=P) (d:=d) (e3▸hk);subst hd;have hd':=BF (P:=P) (d:=d') (e3'▸hk');subst hd';obtain⟨z,hz1,hz2⟩:=En f6 hz hp;have hzl:z.cells.size=j.size:=by rw[<-hz];simpa using(DX (H:=H) (ι:=A7) hz2).1.symm
 have hvx:=Ao hs hx';have hvy:=Ao hs hy';generalize hva:a.eval x=va at hvx;generalize hvb:a.eval y=vb at hvy;have hexec:∀(v:Value) (w':World),(Builtin.append_ #[t,t'] o.type #[va,vb]).run P w=.ok v w'->(execOp a.eval o).run P w=.ok (.value v) w':=fun v w' hrun=>by
  exact aj
 obtain⟨news,hsrcw,hnews⟩:=Ms hs.heap hsrc' hvy e2' hp hu2 w rfl;rw[<-f4]at hsrcw;have hnl:news.length=es2.length*j.size:=by rw[hsrcw.newsLen,f4]
 have h63:((0+es2.length:Nat):Int)<=9223372036854775807:=by
  exact YL
 obtain⟨base,hv,hold⟩:∃(base:Option Addr),va=.slice base 0 0/\(Builtin.firstCells infou.size 0 (.slice base 0 0)).run P w.drew=.ok ([]:List Value).toArray w.drew:=by
  have:=hvx.nil_inv;subst this;exact⟨none,rfl,by simp[Builtin.firstCells,loadCells,loadCellsFrom]⟩
 exact rN
def FL(T:Nat->Option Av)(t:Nat):Option Av:=match T t with
  |some i=>match i.k with
    | .slice u=>T u
    |_=>none
  |none=>none
theorem Cd{t:Nat}(h:FL T t=some j):∃i u,T t=some i/\i.k=.slice u/\T u=some j:=by
 unfold FL at h;split at h
 . rename_i i hi;split at h
   . rename_i u hk;exact⟨i,u,hi,hk,h⟩
   . cases h
 . cases h
def GX(h:Ad)(b:Nat):Bool:=match h b with
  |some .free=>true
  |_=>false
variable {b : Nat}
theorem C7(e:GX h b=true):h b=some .free:=by
 unfold GX at e;split at e
 . assumption
 . cases e
def IW(i:Av):Bool:=Nat.beq i.zero.length i.size&&(Nat.blt 0 i.size&&i.zero.all AV.cell1)
theorem ET{i:Av}(h:IW i=true):i.zero.length=i.size/\0<i.size/\i.zero.all AV.cell1=true:=by
 unfold IW at h;rw[q66,q66]at h;exact⟨q25 h.1,by have:=h.2.1;simpa[qZ6]using this,h.2.2⟩
def qi(P:Program)(T:Nat->Option Av)(o:Op)(e:Ax)(h:Ad):Option (List Nat×AV):=
  match o with
  | .indexAddr t x y=>match An e x,An e y with
    |some (.lst ex es),some (.int k n)=>match FL T t,decide (0<=n),es[n.toNat]? with
      |some j,true,some cs=>match Nat.beq cs.length j.size with
        |true=>some ([],.loc cs)
        |false=>none
      |_,_,_=>none
    |some (.ref b m off len),some (.int k n)=>match FL T t,h b,decide (0<=n),decide (n<len)with
      |some j,some (.row p sz es),true,true=>match Nat.beq m es.length,Nat.beq sz j.size with
        |true,true=>some ([b],.ptr b m (off+n.toNat) 0)
        |_,_=>none
      |_,_,_,_=>none
    |some p,some (.int k n)=>match T t with
      |some i=>match i.k with
        | .array len u=>match T u,decide (0<=n),decide (n<len)with
          |some j,true,true=>match Ji p (n.toNat*j.size)with
            |some r=>some ([],r)
            |none=>none
          |_,_,_=>none
        |_=>none
      |none=>none
    |_,_=>none
  | .build t parts=>match BM e parts.toList,T t with
    |some ps,some i=>match i.k with
      | .struct fs=>match IW i,Fe T fs ps,JE T fs,partCells fs ps i.zero with
        |true,true,true,some r=>some ([],.agg r)
        |_,_,_,_=>none
      |_=>none
    |_,_=>none
  | .makeFunc f first captured=>match A8 e first.toList,A8 e captured.toList with
    |some xs,some cs=>some ([],.fn f xs cs)
    |_,_=>none
  | .makeInterface t x=>match An e x,T t with
    |some y,some i=>match y.whole,i.k with
      |some u,.struct _=>some ([],.val (.iface t u))
      |_,_=>none
    |_,_=>none
  | .unOp .neg t x=>match An e x with
    |some (.int k n)=>some ([],.int k (k.wrap (0-n)))
    |_=>none
  | .slice t x none (some y) none=>match An e x,An e y with
    |some (.ref b n 0 len),some (.int k z)=>match FL T t,h b,decide (0<=z),decide (z.toNat<=len)with
      |some j,some (.row p sz es),true,true=>match Nat.beq n es.length with
        |true=>some ([b],.ref b n 0 z.toNat)
        |false=>none
      |_,_,_,_=>none
    |some (.lst ex es),some (.int k z)=>match FL T t,decide (0<=z),decide (z.toNat<=es.length)with
      |some j,true,true=>match es.all (fun cs=>Nat.beq cs.length j.size)with
        |true=>some ([],.lst (ex&&Nat.beq z.toNat es.length) ((es.take z.toNat).drop 0))
        |false=>none
      |_,_,_=>none
    |_,_=>none
  |_=>none
variable {R : List Nat}
theorem qEv2_spec(hT:CE P T)(hq:qi P T o.op e h=some (R,r)):QLoc P o e h R r:=by
 unfold qi at hq;split at hq
 . rename_i t x y ho;split at hq
   . rename_i ex es k n hx hy;split at hq
     . rename_i j cs hj h0 hn;split at hq
       . rename_i hs;simp only[q53,q98]at hq;obtain⟨rfl,rfl⟩:=hq;obtain⟨i,u,a1,a2,a3⟩:=Cd hj;exact Ak hT ho hx hy a1 a2 a3 (q58 h0) hn (q25 hs)
       . cases hq
     . cases hq
   . rename_i b m off len k n hx hy;split at hq
     . rename_i j p sz es hj hb h0 hn;split at hq
       . rename_i h1 h2;simp only[q53,q98]at hq;obtain⟨rfl,rfl⟩:=hq;obtain⟨i,u,a1,a2,a3⟩:=Cd hj;exact Ae hT ho hx hy a1 a2 a3 hb (q25 h1) (q25 h2) (q58 h0) (q58 hn)
       . cases hq
     . cases hq
   . rename_i p k n _ _ hx hy;split at hq
     . rename_i i hi;split at hq
       . rename_i len u hk;split at hq
         . rename_i j hj h0 hn;split at hq
           . rename_i r' hr;simp only[q53,q98]at hq;obtain⟨rfl,rfl⟩:=hq;exact U5 hT ho hx hy hi hk hj (q58 h0) (q58 hn) hr
           . cases hq
         . cases hq
       . cases hq
     . cases hq
   . cases hq
 . rename_i t parts ho;split at hq
   . rename_i ps i hp hi;split at hq
     . rename_i fs hk;split at hq
       . rename_i r' hz hf ha hr;simp only[q53,q98]at hq;obtain⟨rfl,rfl⟩:=hq;obtain⟨z1,z2,z3⟩:=ET hz;exact Lt hT ho hp hi hk z1 z2 hf ha hr
       . cases hq
     . cases hq
   . cases hq
 . rename_i f first captured ho
   split at hq
   . rename_i xs cs hx hc;simp only[q53,q98]at hq;obtain⟨rfl,rfl⟩:=hq;exact GO ho hx hc
   . cases hq
 . rename_i t x ho;split at hq
   . rename_i y i hx hi;split at hq
     . rename_i u fs hy hk;simp only[q53,q98]at hq;obtain⟨rfl,rfl⟩:=hq;exact Ls hT ho hx hy hi (by rw[hk];intro h;cases h)
     . cases hq
   . cases hq
 . rename_i t x ho;split at hq
   . rename_i k n hx;simp only[q53,q98]at hq;obtain⟨rfl,rfl⟩:=hq;exact vV ho hx
   . cases hq
 . rename_i t x y ho;split at hq
   . rename_i b n len k z hx hy;split at hq
     . rename_i j p sz es hj hb h0 hz;split at hq
       . rename_i h1;simp only[q53,q98]at hq;obtain⟨rfl,rfl⟩:=hq;obtain⟨i,u,a1,a2,a3⟩:=Cd hj;exact FZ hT ho hx hy a1 a2 a3 hb (q25 h1) (by have:=q58 h0;omega) (q58 hz)
       . cases hq
     . cases hq
   . rename_i ex es k z hx hy;split at hq
     . rename_i j hj h0 hz;split at hq
       . rename_i h1;simp only[q53,q98]at hq;obtain⟨rfl,rfl⟩:=hq;obtain⟨i,u,a1,a2,a3⟩:=Cd hj;exact Jc hT 0 z.toNat ho hx a1 a2 a3 rfl ⟨k,by rw[hy,q41 (q58 h0)]⟩ (qZ1 _) (q58 hz) (fun cs hc=>q25 (q67.1 h1 cs hc))
       . cases hq
     . cases hq
   . cases hq
 . cases hq
def OCallR(P:Program)(o:Oper)(e:Ax)(h:Ad)(R:AV->Ad->Prop):Prop:=
  ∀(H:AA) (ι:Bp) (a:Act) (w:World) (n:Nat) (Q:Exit->Act->World->Prop),Sim H ι ⟨n,e,h⟩ a w->
    o.wp P a w (fun a' w'=>∃v r h' H' ι',R r h'/\a'=a.put o.dst v/\Rel H' ι' r v/\HeapRel H' ι' h' w'/\Step H ι h w H' ι' h' w') Q
variable {R : AV -> Ad -> Prop}
theorem Pm{us:Act->Array Value}(hus:∀H ι a w n,Sim H ι ⟨n,e,h⟩ a w->RelAll H ι xs (us a))(hex:∀H ι a w n,Sim H ι ⟨n,e,h⟩ a w->(execOp a.eval o).run P w=.ok (.enter f (us a)) w)
 (hcall:ACall P f xs h R):OCallR P o e h R:=by
 intro H ι a w n Q hs;have hcalls:=hcall H ι w _ (hus H ι a w n hs) hs.heap;unfold Oper.wp;rw[hex H ι a w n hs];exact nj
theorem v9(ho:o.op=.call {callee:=.value (.func f),args:=args,argTypes:=tys})(hf:P.funcs[f]?=some fn)(hnm:(fn.name== "runtime.NumGoroutine")=false)(hb:fn.body.isSome=true)
 (hx:A8 e args.toList=some xs) (hcall:ACall P f xs h R):OCallR P o e h R:=
 Pm (us:=fun a=>args.map a.eval) (fun H ι a w n hs=>Cl hs hx) (fun H ι a w n hs=>by simp[execOp,ho,resolve,Act.eval,Deferred.ofValue,invoke,Cp hf hnm hb]) hcall
theorem v8{fs cs:List AV}(ho:o.op=.call {callee:=.value x,args:=args,argTypes:=tys})(hfn:An e x=some (.fn (.func f) fs cs))(hf:P.funcs[f]?=some fn)(hnm:(fn.name== "runtime.NumGoroutine")=false)(hb:fn.body.isSome=true)
 (hx:A8 e args.toList=some xs) (hcall:ACall P f (fs++xs++cs) h R):OCallR P o e h R:=by
 intro H ι a w n Q hs;have hvf:=Ao hs hfn;obtain⟨us,vs,hve,k1,k2,k3,k4⟩:=hvf.fn_inv;have hraa:=CF (CF ⟨k1,k3⟩ (Cl hs hx)) ⟨k2,k4⟩;have hcalls:=hcall H ι w _ hraa hs.heap;have hexec:(execOp a.eval o).run P w=.ok (.enter f (us++args.map a.eval++vs)) w:=by
  exact na
 unfold Oper.wp;rw[hexec];exact nj
theorem vZ(ho:o.op=.call {callee:=.value x,args:=args,argTypes:=tys})(hfn:An e x=some (.val (.func (.func f) #[] #[])))(hf:P.funcs[f]?=some fn)(hnm:(fn.name== "runtime.NumGoroutine")=false)(hb:fn.body.isSome=true)
 (hx:A8 e args.toList=some xs) (hcall:ACall P f xs h R):OCallR P o e h R:=
 Pm (us:=fun a=>args.map a.eval) (fun H ι a w n hs=>Cl hs hx) (fun H ι a w n hs=>by
  have hye:=((Ao hs hfn).val_inv).1;simp only[execOp,ho,resolve,hye,Deferred.ofValue,invoke,qQ9,qX1,q57,Array.append_empty,Array.empty_append,Cp hf hnm hb]) hcall
theorem v7(ho:o.op=.call {callee:=.invoke recv name,args:=args,argTypes:=tys})
 (hr:An e recv=some (.val (.iface t v))) (hm:∀w,(method (P.types.size+Made.depth) t v name).run P w=.ok (f,v) w) (hv:∀H,Rel H A7 x0 v)
 (hf:P.funcs[f]?=some fn) (hnm:(fn.name== "runtime.NumGoroutine")=false) (hb:fn.body.isSome=true)
 (hx:A8 e args.toList=some xs) (hcall:ACall P f (x0::xs) h R):OCallR P o e h R:=
 Pm (us:=fun a=> #[v]++args.map a.eval) (fun H ι a w n hs=>by
  have h1:RelAll H ι [x0] #[v]:=⟨rfl,fun j x u h1 h2=>by
   cases j with
   |zero=>simp at h1 h2;subst h1;subst h2;exact(hv H).mono (KLe.refl _) (LLe.none _)
   |succ j=>simp at h1⟩
  exact CF h1 (Cl hs hx)) (fun H ι a w n hs=>by
  have hre:=((Ao hs hr).val_inv).1;have h0:(#[Value.iface t v]++args.map a.eval)[0]?=some (.iface t v):=by
   rw[q04 z145q];rfl
  have hex:(#[Value.iface t v]++args.map a.eval).extract 1 (#[Value.iface t v]++args.map a.eval).size=args.map a.eval:=by
   apply Array.ext';exact nF
  simp only[execOp,ho,resolve,hre,invoke,qQ9,qX1,q57,h0,hex,callMethod,run_program,hm w,Cp hf hnm hb]) hcall
variable {K : Al -> Prop} {ops : Array Oper}
theorem Up{H':AA}{ι':Bp}{hn:Ad}{w w':World}(hpost:∀e a2 w2,Post H' ι' hn w' (Ce K fun _ _=>False) e a2 w2->Post H ι h w (Ce K fun _ _=>False) e a2 w2):
 ∀(l:List Oper) (a1:Act) (w1:World),wpList P ops (Post H' ι' hn w' (Ce K fun _ _=>False)) l a1 w1->wpList P ops (Post H ι h w (Ce K fun _ _=>False)) l a1 w1:=by
 intro l
 induction l with
 |nil=>exact fun a1 w1 hp=>hpost _ _ _ hp
 |cons o' l ih=>
  intro a1 w1 hp;exact zt65
variable {n : Nat}
theorem AOps.inn{rest:List Oper}(d:Nat)(hd:o.dst=some d)(hb:Nat.blt d n=true)(hg:A0 ops o e=some true)
 (ho:OCallR P o e h (fun r hn=>AOps P ops rest ⟨n,Aa e d r,hn⟩ K)):AOps P ops (o::rest) ⟨n,e,h⟩ K:=by
 intro H ι a w hs;unfold wpList;rw[DI hs hg];simp only[qZ8];refine .inl (qX8 (fun a' w' hx=>?_) (ho H ι a w n _ hs));obtain⟨v,r,hn,H',ι',hr,rfl,h1,h2,h3⟩:=hx;have hs':=hs.put (d:=o.dst) (r:=some r) h2 h3 (fun x ex=>by cases ex;exact h1) (NC hd hb);exact mO
def fv(h:Ad):AV->Option (List Nat×List (List AV))
  | .lst ex es=>some ([],es)
  | .nil=>some ([],[])
  | .ref b n off len=>match h b with
    |some (.row p sz es)=>match Nat.beq n es.length with
      |true=>some ([b],(es.drop off).take len)
      |false=>none
    |_=>none
  |_=>none
variable {es : List (List AV)}
theorem Xb{R:List Nat}(e:fv h q=some (R,es)):SrcOf h q R es:=by
 unfold fv at e;split at e
 . simp only[q53,q98]at e;obtain⟨rfl,rfl⟩:=e;exact .lst _ _
 . simp only[q53,q98]at e;obtain⟨rfl,rfl⟩:=e;exact .nil
 . split at e
   . rename_i hb;split at e
     . rename_i h1;simp only[q53,q98]at e;obtain⟨rfl,rfl⟩:=e;exact .ref _ _ _ _ _ _ _ hb (q25 h1)
     . cases e
   . cases e
 . cases e
def jB(n:Nat)(es:List (List AV)):Bool:=es.all fun cs=>Nat.beq cs.length n
theorem JD(h:jB n es=true):∀cs∈es,cs.length=n:=fun cs hc=>q25 (q67.1 h cs hc)
def T5(p:Bool)(es:List (List AV)):Bool:= !p||es.all fun cs=>cs.all AV.isPure1
theorem Mb{p:Bool}(h:T5 p es=true):p=true->∀cs∈es,cs.all AV.isPure1=true:=fun hp cs hc=>by
 unfold T5 at h;rw[hp,qQ7,qQ6]at h;exact q67.1 h cs hc
abbrev jC:=List Nat×List (Nat×AObj)×Option AV×Nat
def appEv(T:Nat->Option Av)(h:Ad)(k:Nat)(t t':TypeId)(p q:AV):Option jC:=
  match FL T t,FL T t',fv h q with
  |some j,some _,some (R,es2)=>match IW j,jB j.size es2 with
    |true,true=>match p with
      | .nil=>match GX h k,Nat.blt 0 es2.length,Nat.ble (es2.length*j.bytes) 140737488355328,Nat.ble es2.length maxLen with
        |true,true,true,true=>some (k::R,[(k,.row false j.size es2)],some (.ref k es2.length 0 es2.length),k+1)
        |_,_,_,_=>none
      | .ref b n 0 len=>match h b with
        |some (.row pu sz es)=>match Nat.beq n es.length,Nat.beq sz j.size,T5 pu es2 with
          |true,true,true=>match Nat.beq len n with
            |true=>match Nat.ble ((es.length+es2.length)*j.bytes) 140737488355328,Nat.ble (es.length+es2.length) maxLen with
              |true,true=>some (b::R,[(b,.row pu sz (es++es2))],some (.ref b (n+es2.length) 0 (n+es2.length)),k)
              |_,_=>none
            |false=>match es2,Nat.ble len n,Nat.ble ((es.length+1)*j.bytes) 140737488355328,Nat.ble (es.length+1) maxLen with
              | [cs2],true,true,true=>some (b::R,[(b,.row pu sz (Dg es len cs2))],some (.ref b (Dg es len cs2).length 0 (len+1)),k)
              |_,_,_,_=>none
          |_,_,_=>none
        |_=>none
      |_=>none
    |_,_=>none
  |_,_,_=>none
variable {k k' : Nat} {r : Option AV} {W : List (Nat × AObj)}
theorem appEv_spec(hT:CE P T){p:AV}{R:List Nat}(ho:o.op=.call {callee:=.builtin .append,args:= #[x,y],argTypes:= #[t,t']})(hx:An e x=some p)(hy:An e y=some q)
 (hv:appEv T h k t t' p q=some (R,W,r,k')):OLoc P o e h R W r:=by
 unfold appEv at hv;split at hv
 . rename_i j j' R0 es2 hj hj' hs;obtain⟨i,u,a1,a2,a3⟩:=Cd hj;obtain⟨i',u',b1,b2,b3⟩:=Cd hj';have hsrc:=Xb hs;split at hv
   . rename_i hz hl;obtain⟨z1,z2,z3⟩:=ET hz;split at hv
     . split at hv
       . rename_i c1 c2 c3 c4;simp only[q53,q98]at hv;obtain⟨rfl,rfl,rfl,rfl⟩:=hv;exact bW hT k ho hx hy a1 a2 a3 b1 b2 (C7 c1) z1 z2 hsrc (JD hl) (by simpa[qZ6]using c2) (q28 c3) (q28 c4)
       . cases hv
     . rename_i b n len;split at hv
       . rename_i pu sz es hb;split at hv
         . rename_i c1 c2 c3;split at hv
           . rename_i c4;have c4:=q25 c4;subst c4;split at hv
             . rename_i c5 c6;simp only[q53,q98]at hv;obtain⟨rfl,rfl,rfl,rfl⟩:=hv;have c2':=q25 c2;exact o_append hT ho hx hy a1 a2 a3 b1 b2 hb (q25 c1) c2' z1 z2 hsrc (by rw[c2'];exact JD hl) (Mb c3) rfl (q28 c5) (q28 c6)
             . cases hv
           . split at hv
             . rename_i cs2 c5 c6 c7;simp only[q53,q98]at hv;obtain⟨rfl,rfl,rfl,rfl⟩:=hv;have c2':=q25 c2;exact MN hT ho hx hy a1 a2 a3 b1 b2 hb (q25 c1) (q28 c5) c2' z1 z2 hsrc (by rw[c2'];exact JD hl _ z145q) (fun hp=>Mb c3 hp _ z145q) (q28 c6) (q28 c7)
             . cases hv
         . cases hv
       . cases hv
     . cases hv
   . cases hv
 . cases hv
def wR(T:Nat->Option Av)(dst:Option Nat)(o:Op)(e:Ax)(h:Ad)(k:Nat):Option jC:=
  match o with
  | .alloc t=>match T t,GX h k with
    |some i,true=>match IW i with
      |true=>some ([k],[(k,.row false i.size [i.zero])],some (.ptr k 1 0 0),k+1)
      |false=>none
    |_,_=>none
  | .box t x=>match An e x,GX h k with
    |some p,true=>match Nat.blt 0 p.cells.length,p.cells.all AV.cell1 with
      |true,true=>some ([k],[(k,.row false p.cells.length [p.cells])],some (.ptr k 1 0 0),k+1)
      |_,_=>none
    |_,_=>none
  | .store t x y=>match dst,An e x,An e y,T t with
    |none,some (.ptr b m k0 off),some q,some i=>match h b with
      |some (.row p sz es)=>match es[k0]?,Nat.beq m es.length,Nat.beq q.cells.length i.size,Nat.ble (off+i.size) sz,q.cells.all AV.cell1,(!p||q.cells.all AV.isPure1)with
        |some cs,true,true,true,true,true=>some ([b],[(b,.row p sz (es.set k0 (D0 cs off q.cells)))],none,k)
        |_,_,_,_,_,_=>none
      |_=>none
    |_,_,_,_=>none
  | .buildSlice t len parts=>match BM e parts.toList,FL T t,GX h k with
    |some ps,some j,true=>match IW j,decide (parts.toList.map (·.1)=List.range parts.toList.length),Nat.beq parts.toList.length len,FV j.size ps,(partVals ps).all (·.all AV.cell1),Nat.ble (len*j.size) 16777216 with
      |true,true,true,true,true,true=>some ([k],[(k,.row false j.size (partVals ps))],some (.ref k len 0 len),k+1)
      |_,_,_,_,_,_=>none
    |_,_,_=>none
  | .makeSlice t x y=>match An e x,An e y,FL T t,GX h k with
    |some (.int _ zi),some (.int _ zj),some j,true=>match IW j,decide (0<=zi),decide (0<=zj),Nat.ble zi.toNat zj.toNat,Nat.ble (j.bytes*zj.toNat) 281474976710656,Nat.ble zj.toNat maxLen with
      |true,true,true,true,true,true=>some ([k],[(k,.row false j.size (List.replicate zi.toNat j.zero))],some (.ref k zi.toNat 0 zi.toNat),k+1)
      |_,_,_,_,_,_=>none
    |_,_,_,_=>none
  | .call ⟨.builtin .append,args,tys⟩=>match args.toList,tys.toList with
    | [x,y],[t,t']=>match An e x,An e y with
      |some p,some q=>appEv T h k t t' p q
      |_,_=>none
    |_,_=>none
  |_=>none
theorem Oo{α:Type}{a:Array α}{x y:α}(h:a.toList=[x,y]):a= #[x,y]:=Array.ext' h
theorem xEv_spec(hT:CE P T){R:List Nat}(hv:wR T o.dst o.op e h k=some (R,W,r,k')):OLoc P o e h R W r:=by
 unfold wR at hv;split at hv
 . rename_i t ho;split at hv
   . rename_i i hi hf;split at hv
     . rename_i hz;simp only[q53,q98]at hv;obtain⟨rfl,rfl,rfl,rfl⟩:=hv;obtain⟨z1,z2,z3⟩:=ET hz;exact It hT k ho hi (C7 hf) z1 z2 z3
     . cases hv
   . cases hv
 . rename_i t x ho;split at hv
   . rename_i p hx hf;split at hv
     . rename_i c1 c2;simp only[q53,q98]at hv;obtain⟨rfl,rfl,rfl,rfl⟩:=hv;exact ZK k ho hx (C7 hf) rfl (by simpa[qZ6]using c1) c2
     . cases hv
   . cases hv
 . rename_i t x y ho;split at hv
   . rename_i b m k0 off q i hd hx hy hi;split at hv
     . rename_i p sz es hb;split at hv
       . rename_i cs c1 c2 c3 c4 c5 c6;simp only[q53,q98]at hv;obtain⟨rfl,rfl,rfl,rfl⟩:=hv;exact o_store hT ho hd hx hy hi hb (q25 c2) c1 (q25 c3) (q28 c4) c5 (fun hp=>by rw[hp]at c6;simpa using c6)
       . cases hv
     . cases hv
   . cases hv
 . rename_i t len parts ho;split at hv
   . rename_i ps j hp hj hf;obtain⟨i,u,a1,a2,a3⟩:=Cd hj;split at hv
     . rename_i c1 c2 c3 c4 c5 c6;simp only[q53,q98]at hv;obtain⟨rfl,rfl,rfl,rfl⟩:=hv;obtain⟨z1,z2,z3⟩:=ET c1;exact o_litRow hT k false ho hp a1 a2 a3 z1 z2 (q58 c2) (q25 c3) c4 c5 EU c6 (C7 hf)
     . cases hv
   . cases hv
 . rename_i t x y ho;split at hv
   . rename_i k1 zi k2 zj j hx hy hj hf;obtain⟨i,u,a1,a2,a3⟩:=Cd hj;split at hv
     . rename_i c1 c2 c3 c4 c5 c6;simp only[q53,q98]at hv;obtain⟨rfl,rfl,rfl,rfl⟩:=hv;obtain⟨z1,z2,z3⟩:=ET c1;exact AJ hT k false ho hx hy (q41 (q58 c2)).symm (q41 (q58 c3)).symm a1 a2 a3 (C7 hf) z1 z2 z3 (q28 c4) (q28 c5) (q28 c6)
     . cases hv
   . cases hv
 . rename_i args tys ho;split at hv
   . rename_i x y t t' ha ht;split at hv
     . rename_i p q hx hy;exact appEv_spec hT (ho.trans (by rw[Oo ha,Oo ht])) hx hy hv
     . cases hv
   . cases hv
 . cases hv
theorem gQ(hT:CE P T){i:Av}{u:Nat}(b:Nat)(ho:o.op=.range t x)(hx:An e x=some (.val (.map none)))(hi:T t=some i)(hk:i.k=.map u u')(hb:h b=some .free):OLoc P o e h [b] [(b,.iter0)] (some (.ptr b 0 0 0)):=by
 intro H ι a w s Q hs h1 h2;have hb':s.h b=some .free:=by rw[h2 b z145q,hb]
 have hx':An s.env x=some (.val (.map none)):=by rw[h1 x Bx,hx]
 have hv:=((Ao hs hx').val_inv).1;obtain⟨info,d,e1,e2,e3,e4,e5,e6⟩:=Am (hT _ _ hi);have hd:=Il (P:=P) (d:=d) (e3▸hk);subst hd;obtain⟨u1,u2⟩:=hs.heap.upd (o':=.iter0) (r':=⟨w.heap.size,0,0,1⟩) (w':=w.alloc (.mapIter none 0 #[] 0)) hb' rfl (.inl rfl) (fun _=>.inl (qZ0 _)) (fun rb hlt _=>heap_alloc_old w _ hlt) z145q rfl rfl
  ⟨rfl,rfl,by simp[Ent.solid],heap_alloc_new w _⟩
 have hrun:(execOp a.eval o).run P w=.ok (.value (.pointer (some ⟨w.heap.size,0,none⟩))) (w.alloc (.mapIter none 0 #[] 0)):=by
  simp[execOp,ho,Instr.range,hv,Aq e2]
 unfold Oper.wp;rw[hrun];refine⟨_,H,_,rfl,fun x ex=>?_,u1,u2⟩
 cases ex
 have:=Rel.ptrL (H:=H) (D1 ι b ⟨w.heap.size,0,0,1⟩) b 0 0 0 _ (Br _ _ _) rfl;simpa using this
theorem ln(ho:o.op=.next x false)(hx:An e x=some (.ptr b 0 0 0))(hb:h b=some .iter0):QLoc P o e h [b] (.tup [.bool false]):=by
 intro H ι a w s hs h1 h2;have hb':s.h b=some .iter0:=by rw[h2 b z145q,hb]
 have hx':An s.env x=some (.ptr b 0 0 0):=by rw[h1 x Bx,hx]
 obtain⟨r,r1,⟨r2,r2n,r3,r4⟩,r5⟩:=hs.heap.obj b _ hb' rfl;have hv:a.eval x=.pointer (some ⟨r.rb,0,none⟩):=by
  have hv:=Ao hs hx';generalize a.eval x=v at hv
  cases hv with
  |ptrL _ _ _ _ _ r' e1 e2=>rw[r1]at e1;cases e1;simp
  |ptrS _ _ _ _ _ r' ad e1 e2=>
   rw[r1]at e1;cases e1;omega
 refine⟨.tuple #[.bool false],.tup _ _ _ rfl (fun j x v h1 h2=>?_),?_⟩
 . cases j with
   |zero=>simp at h1 h2;subst h1;subst h2;exact .bool _ _
   |succ j=>simp at h1
 . have hg:(getObj r.rb).run P w=.ok (.mapIter none 0 #[] 0) w:=by simp[getObj,Sem.run,r4]
   simp[execOp,ho,hv,Instr.next,hg]
def Ux(K:IntKind):List (AV×AV)->Option Ft
  | []=>some []
  |(.int K' z,v)::r=>match decide (K'=K),Ux K r with
    |true,some m=>some ((z,v)::m)
    |_,_=>none
  |_::_=>none
theorem JK{K:IntKind}:∀{l:List (AV×AV)} {m:Ft},Ux K l=some m->l=kvs K m
 | [],m,h=>by simp[Ux]at h;subst h;rfl
 |(k,v)::r,m,h=>by
  cases k with
  |int K' z=>
   unfold Ux at h;split at h
   . rename_i m' h1 h2;simp only[q53]at h;subst h;have:=q58 h1;subst this;rw[JK h2];rfl
   . cases h
  |_=>simp[Ux]at h
def intOf:TK->Option IntKind
  | .int K=>some K
  |_=>none
variable {K : IntKind}
theorem KV{k:TK}(h:intOf k=some K):k=.int K:=by
 cases k<;>simp[intOf]at h
 subst h;rfl
def RP(T:Nat->Option Av)(t:Nat):Option (IntKind×Nat):=match T t with
  |some i=>match i.k with
    | .map kt et=>match T kt with
      |some j=>match intOf j.k with
        |some K=>some (K,et)
        |none=>none
      |none=>none
    |_=>none
  |none=>none
variable {t et : Nat}
theorem KS(h:RP T t=some (K,et)):∃i j kt,T t=some i/\i.k=.map kt et/\T kt=some j/\j.k=.int K:=by
 unfold RP at h;split at h
 . rename_i i hi;split at h
   . rename_i kt et' hk;split at h
     . rename_i j hj;split at h
       . rename_i K' hK;simp only[q53,q98]at h;obtain⟨rfl,rfl⟩:=h;exact⟨i,j,kt,hi,hk,hj,KV hK⟩
       . cases h
     . cases h
   . cases h
 . cases h
def TD(T:Nat->Option Av)(t:Nat):Bool:=match T t with
  |some i=>match i.k with
    | .map _ _=>true
    |_=>false
  |none=>false
theorem TC(h:TD T t=true):∃i k u,T t=some i/\i.k=.map k u:=by
 unfold TD at h;split at h
 . rename_i i hi;split at h
   . rename_i k u hk;exact⟨i,k,u,hi,hk⟩
   . cases h
 . cases h
def SH(P:Program)(et:Nat):Option AV:=match(P.info? et).bind (·.zero)with
  |some zv=>JA zv
  |none=>none
theorem Nh{z0:AV}(h:SH P et=some z0):∃zv,(P.info? et).bind (·.zero)=some zv/\JA zv=some z0:=by
 unfold SH at h;split at h
 . rename_i zv hz;exact⟨zv,hz,h⟩
 . cases h
def qh(P:Program)(T:Nat->Option Av)(o:Op)(e:Ax)(h:Ad):Option (List Nat×AV):=
  match o with
  | .next x false=>match An e x with
    |some (.ptr b 0 0 0)=>match h b with
      |some .iter0=>some ([b],.tup [.bool false])
      |_=>none
    |_=>none
  | .lookup t x y true=>match An e x,An e y,RP T t with
    |some (.map b),some (.int K z),some (K',et)=>match h b,SH P et,decide (K'=K)with
      |some (.map l),some z0,true=>match Ux K l with
        |some m=>some ([b],.tup [(VA z m).getD z0,.bool (VA z m).isSome])
        |none=>none
      |_,_,_=>none
    |_,_,_=>none
  | .binOp .eql t x y _=>match An e x,An e y,T t with
    |some (.bool a),some (.bool b),some i=>match i.k with
      | .bool=>some ([],.bool (a==b))
      |_=>none
    |some (.agg xs),some (.agg ys),some i=>match i.k,Oh P t,eqCells xs ys with
      | .struct fs,true,some r=>match Dv T fs xs,Dv T fs ys with
        |true,true=>some ([],.bool r)
        |_,_=>none
      |_,_,_=>none
    |_,_,_=>none
  | .binOp .neq t x y _=>match An e x,An e y,T t with
    |some (.bool a),some (.bool b),some i=>match i.k with
      | .bool=>some ([],.bool (a !=b))
      |_=>none
    |some (.agg xs),some (.agg ys),some i=>match i.k,Oh P t,eqCells xs ys with
      | .struct fs,true,some r=>match Dv T fs xs,Dv T fs ys with
        |true,true=>some ([],.bool (!r))
        |_,_=>none
      |_,_,_=>none
    |_,_,_=>none
  |_=>none
variable {R : List Nat} {r : AV}
theorem qEv3_spec(hT:CE P T)(hq:qh P T o.op e h=some (R,r)):QLoc P o e h R r:=by
 unfold qh at hq;split at hq
 . rename_i x ho;split at hq
   . rename_i b hx;split at hq
     . rename_i hb;simp only[q53,q98]at hq;obtain⟨rfl,rfl⟩:=hq;exact ln ho hx hb
     . cases hq
   . cases hq
 . rename_i t x y ho;split at hq
   . rename_i b K z K' et hx hy ht;split at hq
     . rename_i l z0 hb hz hK;split at hq
       . rename_i m hm;simp only[q53,q98]at hq;obtain⟨rfl,rfl⟩:=hq;have hK:=q58 hK;subst hK;obtain⟨i,j,kt,a1,a2,a3,a4⟩:=KS ht;obtain⟨zv,z1,z2⟩:=Nh hz;exact O8 hT ho hx hy (by rw[hb,JK hm]) a1 a2 a3 a4 z1 z2
       . cases hq
     . cases hq
   . cases hq
 . rename_i t x y t' ho;split at hq
   . rename_i a b i hx hy hi;split at hq
     . rename_i hk;simp only[q53,q98]at hq;obtain⟨rfl,rfl⟩:=hq;exact U8 hT false ho hx hy hi hk
     . cases hq
   . rename_i xs ys i hx hy hi;split at hq
     . rename_i fs r' hk hp hr;split at hq
       . rename_i h1 h2;simp only[q53,q98]at hq;obtain⟨rfl,rfl⟩:=hq;exact ES hT false ho hx hy hp hi hk h1 h2 hr
       . cases hq
     . cases hq
   . cases hq
 . rename_i t x y t' ho;split at hq
   . rename_i a b i hx hy hi;split at hq
     . rename_i hk;simp only[q53,q98]at hq;obtain⟨rfl,rfl⟩:=hq;exact U8 hT true ho hx hy hi hk
     . cases hq
   . rename_i xs ys i hx hy hi;split at hq
     . rename_i fs r' hk hp hr;split at hq
       . rename_i h1 h2;simp only[q53,q98]at hq;obtain⟨rfl,rfl⟩:=hq;exact ES hT true ho hx hy hp hi hk h1 h2 hr
       . cases hq
     . cases hq
   . cases hq
 . cases hq
def pG(T:Nat->Option Av)(dst:Option Nat)(o:Op)(e:Ax)(h:Ad)(k:Nat):Option jC:=
  match o with
  | .range t x=>match An e x,GX h k,TD T t with
    |some (.val (.map none)),true,true=>some ([k],[(k,.iter0)],some (.ptr k 0 0 0),k+1)
    |_,_,_=>none
  | .makeMap t none=>match RP T t,GX h k with
    |some (K,_),true=>some ([k],[(k,.map (kvs K []))],some (.map k),k+1)
    |_,_=>none
  | .mapUpdate t x y u=>match dst,An e x,An e y,An e u,RP T t with
    |none,some (.map b),some (.int K z),some q,some (K',_)=>match h b,q.isPure,decide (K'=K)with
      |some (.map l),true,true=>match Ux K l with
        |some m=>some ([b],[(b,.map (kvs K (Kj z q m)))],none,k)
        |none=>none
      |_,_,_=>none
    |_,_,_,_,_=>none
  | .call ⟨.builtin .delete,args,tys⟩=>match dst,args.toList,tys.toList with
    |none,[x,y],[t,_]=>match An e x,An e y,RP T t with
      |some (.map b),some (.int K z),some (K',_)=>match h b,decide (K'=K)with
        |some (.map l),true=>match Ux K l with
          |some m=>some ([b],[(b,.map (kvs K (kdel z m)))],none,k)
          |none=>none
        |_,_=>none
      |_,_,_=>none
    |_,_,_=>none
  |_=>none
theorem xEv3_spec(hT:CE P T){r:Option AV}(hv:pG T o.dst o.op e h k=some (R,W,r,k')):OLoc P o e h R W r:=by
 unfold pG at hv;split at hv
 . rename_i t x ho;split at hv
   . rename_i hx hf hm;simp only[q53,q98]at hv;obtain⟨rfl,rfl,rfl,rfl⟩:=hv;obtain⟨i,kk,u,a1,a2⟩:=TC hm;exact gQ hT k ho hx a1 a2 (C7 hf)
   . cases hv
 . rename_i t ho;split at hv
   . rename_i K et hm hf;simp only[q53,q98]at hv;obtain⟨rfl,rfl,rfl,rfl⟩:=hv;exact J1 K k ho (C7 hf)
   . cases hv
 . rename_i t x y u ho;split at hv
   . rename_i b K z q K' et hd hx hy hu hm;split at hv
     . rename_i l hb hp hK;split at hv
       . rename_i m hl;simp only[q53,q98]at hv;obtain⟨rfl,rfl,rfl,rfl⟩:=hv;have hK:=q58 hK;subst hK;obtain⟨i,j,kt,a1,a2,a3,a4⟩:=KS hm;exact o_mapUpdate hT ho hd hx hy hu hp (by rw[hb,JK hl]) a1 a2 a3 a4
       . cases hv
     . cases hv
   . cases hv
 . rename_i args tys ho;split at hv
   . rename_i x y t tk hd ha ht;split at hv
     . rename_i b K z K' et hx hy hm;split at hv
       . rename_i l hb hK;split at hv
         . rename_i m hl;simp only[q53,q98]at hv;obtain⟨rfl,rfl,rfl,rfl⟩:=hv;have hK:=q58 hK;subst hK;obtain⟨i,j,kt,a1,a2,a3,a4⟩:=KS hm;exact Pn hT (ho.trans (by rw[Oo ha,Oo ht])) hd hx hy (by rw[hb,JK hl]) a1 a2 a3 a4
         . cases hv
       . cases hv
     . cases hv
   . cases hv
 . cases hv
end Go.Proofs.YtbbfelelocccmaaGreat.Sv
