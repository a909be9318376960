/-
  THE SOLVER IS BUILT, AND CALLED: own work.
-/
import Derived.Test.YtbbfelelocccmaaGreatPOptimizeHolds5
import Derived.Test.YtbbfelelocccmaaGreatPOptimizeHolds3
import Derived.Test.YtbbfelelocccmaaGreatPOptimizeHolds4
import Derived.Test.YtbbfelelocccmaaGreatPOptimizeHolds2
set_option linter.unusedVariables false
set_option linter.unusedSimpArgs false
set_option maxRecDepth 100000
set_option maxHeartbeats 2000000
namespace Go.Proofs.YtbbfelelocccmaaGreat.Sv
open Go
variable {P : Program} {o : Oper} {e : A3} {h : Aj} {g : FuncId} {fn : Func} {args : Array Operand} {tys : Array TypeId} {xs : List AV} {r : AV}
theorem Uj(z:Nat){q:AObj}
 (ho:o.op=.call {callee:=.value (.func g),args:=args,argTypes:=tys}) (hf:P.funcs[g]?=some fn) (hn:(fn.name== "runtime.NumGoroutine")=false) (hb:fn.body.isSome=true) (hx:BA e args.toList=some xs)
 (hxa:xs.all (AV.avoid (mem [z]))=true) (hz:h z=some .free) (hq:q.avoid (mem [z])=true) (hra:r.avoid (mem [z])=true)
 (hcall:ACall P g xs (Af hNew z .free) (fun r' h'=>r'=r/\HSub (Af hNone z q) h')):OLoc P o e h [z] [(z,q)] (some r):=
 Mh (hc:=Af hNew z .free) (hw:=Af hNone z q) [z] [(z,q)] ho hf hn hb hx hxa ⟨⟨.free,hz,rfl⟩,trivial⟩ (by simp[PX]) (OD hz (R3 h)) ⟨⟨q,AB _ _ _,AB _ _ _,hq⟩,trivial⟩ hra hcall
def Wk(x y:AV):Prop:=(x.cell1=true->y.cell1=true)/\∀H ι v,Rel H ι x v->Rel H ι y v
theorem Wk.refl(x:AV):Wk x x:=⟨fun h=>h,fun _ _ _ h=>h⟩
theorem Wk.nil(b:Nat):Wk .nil (Bo b []):=⟨fun _=>rfl,fun H ι v h=>kZ h⟩
def WkAll:List AV->List AV->Prop
  | [],[]=>True
  |x::xs,y::ys=>Wk x y/\WkAll xs ys
  |_,_=>False
theorem WkAll.len:∀{xs ys:List AV},WkAll xs ys->ys.length=xs.length
 | [],[],_=>rfl
 |x::xs,y::ys,h=>by rw[q70,q70,WkAll.len h.2]
theorem WkAll.get:∀{xs ys:List AV},WkAll xs ys->∀(j:Nat) (x y:AV),xs[j]?=some x->ys[j]?=some y->Wk x y
 | [],[],_,j,x,y,h1,h2=>by simp at h1
 |a::xs,b::ys,h,0,x,y,h1,h2=>by cases h1;cases h2;exact h.1
 |a::xs,b::ys,h,j+1,x,y,h1,h2=>WkAll.get h.2 j x y h1 h2
variable {cs : List AV}
theorem Qo{cs':List AV}(h:WkAll cs cs'):∀(i:Nat) (ds ds':List AV),[cs][i]?=some ds->[cs'][i]?=some ds'->ds'.length=ds.length/\∀(j:Nat) (x y:AV),ds[j]?=some x->ds'[j]?=some y->(x.cell1=true->y.cell1=true)/\∀H ι v,Rel H ι x v->Rel H ι y v:=fun i ds ds' h1 h2=>by
 cases i with
 |zero=>cases h1;cases h2;exact⟨h.len,fun j x y g1 g2=>h.get j x y g1 g2⟩
 |succ i=>simp at h1
variable {n : Nat}
theorem Qp{x:AV}{g:Nat->AV}(h:∀b,Wk x (g b)):∀(i:Nat) (ds ds':List AV),(List.replicate n [x])[i]?=some ds->(AH g n)[i]?=some ds'->ds'.length=ds.length/\∀(j:Nat) (x y:AV),ds[j]?=some x->ds'[j]?=some y->(x.cell1=true->y.cell1=true)/\∀H ι v,Rel H ι x v->Rel H ι y v:=fun i ds ds' h1 h2=>by
 grind[YN,List.mem_of_getElem?,Wk,AH]
abbrev SBb(f:BFunc)(R k:Nat):List AV:=[Ax f.nexts,.ref 7 f.blocks.length 0 f.blocks.length,Bo 8 ((f.blocks.take k).map (Y8 R)),Bo 9 ((f.blocks.take k).map (Y7 R)),Bo 3 (AH (rG 0 (nw R)) k),Bo 4 (AH (rG 1 (nw R)) k),.nil,.ref 5 f.blocks.length 0 f.blocks.length]
variable {k0 : Nat}
theorem K2(f:BFunc)(R:Nat)(h:10<=k0){a b c d:List (List AV)}:(AObj.row false 8 [[Ax f.nexts,AV.ref 7 f.blocks.length 0 f.blocks.length,Bo 8 a,Bo 9 b,Bo 3 c,Bo 4 d,AV.nil,AV.ref 5 f.blocks.length 0 f.blocks.length]]).avoid (kf k0)=true:=by
 have hk:∀c,c<10->kf k0 c=true:=fun c hc=>uc Ab
 show(List.all [_,_,_,_,_,_,_,_] (AV.avoid (kf k0))&&true)=true;simp only[qQ1,qX7,qQ4,q66];exact⟨rfl,hk 7 Ab,Cb _ (hk 8 Ab),Cb _ (hk 9 Ab),Cb _ (hk 3 Ab),Cb _ (hk 4 Ab),rfl,hk 5 Ab⟩
variable {d k : Nat} {A A' : Nat -> List Nat}
theorem wA(h:∀c,A' c=if c=d then A c++[k]else A c):(AH (SJ A) n).set (0+d) [Bo (3*d+2+16) ((A d).map Cg++[Cg k])]=AH (SJ A') n:=by
 grind[Jm,DY,SJ,AH,Bo,Cg]
variable {r0 r1 : Nat -> AObj}
theorem vA(hd:d<n)(h:∀c,A' c=if c=d then A c++[k]else A c)(x:Nat):F3 r0 r1 (rA n A') x=if x=3*d+2 then BU 1 ((A d).map Cg++[Cg k])else F3 r0 r1 (rA n A) x:=by
 have e:rA n A'=L5 (rA n A) d (BU 1 ((A' d).map Cg)):=HX hd fun c hc=>by rw[h,qZ9 hc]
 grind[AbC,F3,rA,BU,Cg]
theorem Xw(h:∀c,A c=A' c):rA n A=rA n A':=by rw[funext h]
variable {b : Nat}
theorem vB(h:b<n):F3 r0 r1 (rA n A) (3*b+2)=BU 1 ((A b).map Cg):=(Adn _ _ _ _).trans (FR h)
variable {R : Nat} {I : BB} {r2 : Nat -> AObj}
theorem pR:F3 (rI k R I) r1 r2 (3*k+0)=.free:=(AbE _ _ _ _).trans (L9 (qZ0 _))
variable {O : BB}
theorem pQ:F3 r0 (rI k R O) r2 (3*k+1)=.free:=(AbD _ _ _ _).trans (L9 (qZ0 _))
abbrev B0:BB:=fun _ _=>false
theorem lu(x:Nat):F3 (rI (k+1) R B0) r1 r2 x=if x=3*k+0 then F8 R (fun _=>false)else F3 (rI k R B0) r1 r2 x:=by
 unfold rI;rw[Kr,ut]
theorem lr(x:Nat):F3 r0 (rI (k+1) R B0) r2 x=if x=3*k+1 then F8 R (fun _=>false)else F3 r0 (rI k R B0) r2 x:=by
 unfold rI;rw[Kr,ur]
theorem rI_start{x:Nat}:F3 (rI 0 R B0) (rI 0 R B0) (rA n (fun _=>[])) x=.free:=by
 unfold F3 rI rA DD;rw[qZ9 (Nat.not_lt_zero _)];split
 . rfl
 . split
   . rfl
   . split<;>rfl
variable {x : Block} {f : BFunc}
theorem ky(hx:f.blocks[k]?=some x):[Ax f.nexts,AV.ref 7 f.blocks.length 0 f.blocks.length,Bo 8 ((f.blocks.take k).map (Y8 R)++[Y8 R x]),Bo 9 ((f.blocks.take k).map (Y7 R)++[Y7 R x]),Bo 3 (AH (rG 0 (nw R)) k++[[rG 0 (nw R) k]]),Bo 4 (AH (rG 1 (nw R)) k++[[rG 1 (nw R) k]]),AV.nil,AV.ref 5 f.blocks.length 0 f.blocks.length]=SBb f R (k+1):=by
 have e:∀g:Block->List AV,(f.blocks.take k).map g++[g x]=(f.blocks.take (k+1)).map g:=fun g=>by
  rw[q59,hx,q77];rfl
 rw[e (Y8 R),e (Y7 R),<-Lv,<-Lv]
theorem Ta(hx:f.blocks[k]?=some x)(g:Block->List AV):(f.blocks.take k).map g++[g x]=(f.blocks.take (k+1)).map g:=by
 rw[q59,hx,q77];rfl
theorem pE(h:0<f.blocks.length):SBb f R f.blocks.length=[Ax f.nexts,AV.ref 7 f.blocks.length 0 f.blocks.length,.ref 8 f.blocks.length 0 f.blocks.length,.ref 9 f.blocks.length 0 f.blocks.length,.ref 3 f.blocks.length 0 f.blocks.length,.ref 4 f.blocks.length 0 f.blocks.length,AV.nil,AV.ref 5 f.blocks.length 0 f.blocks.length]:=by
 have e:∀(t:Nat) (g:Block->List AV),Bo t ((f.blocks.take f.blocks.length).map g)=.ref t f.blocks.length 0 f.blocks.length:=fun t g=>by
  rw[q71];have:=QL (b:=t) (es:=f.blocks.map g) (k:=0) (by rw[q76];exact h)
  grind
 show [_,_,Bo 8 _,Bo 9 _,Bo 3 _,Bo 4 _,_,_]=_;rw[e,e,cD h,cD h]
theorem cC{l:List Block}{g:Block->List AV}(h:0<l.length):BU 1 (l.map g)=.row true 1 (l.map g):=by
 cases l with
 |nil=>simp at h
 |cons x l=>rfl
variable {α : Type}
theorem Lf{l:List α}{g:α->List AV}(h:∀x,(g x).length=1):∀cs∈l.map g,cs.length=1:=fun cs hc=>by
 grind
theorem H5{l:List α}{g:α->List AV}(h:∀x,(g x).all AV.isPure1=true):∀cs∈l.map g,cs.all AV.isPure1=true:=fun cs hc=>by
 grind
def kS:Nat->Bool:=fun c=>(Nat.ble 2 c&&Nat.blt c 10)||Nat.ble 16 c
def M7(h g:Aj):Aj:=fun c=>bif kS c then g c else h c
theorem mL(x:Nat):kS (x+16)=true:=by
 unfold kS;rw[show Nat.ble 16 (x+16)=true by rw[qZ5];omega];simp
variable {c : Nat}
theorem mM(h:kS c=false):c=0\/c=1\/(10<=c/\c<16):=by
 unfold kS at h;simp only[q38,Bool.and_eq_false_iff]at h;obtain⟨h1,h2⟩:=h;have h3:¬16<=c:=fun e=>by rw[<-qZ5]at e;rw[e]at h2;cases h2
 rcases h1 with h1|h1
 . have:¬2<=c:=fun e=>by rw[<-qZ5]at e;rw[e]at h1;cases h1
   omega
 . have:¬c<10:=fun e=>by
    have:Nat.blt c 10=true:=by unfold Nat.blt;rw[qZ5];omega
    rw[this]at h1;cases h1
   omega
theorem P2(h:kS c=true):(2<=c/\c<10)\/16<=c:=by
 unfold kS at h
 (simp_all;done)
theorem M6(h g:Aj)(x:Nat):M7 h g (x+16)=g (x+16):=by unfold M7;rw[mL];rfl
theorem I6{g:Aj}(hc:kS c=true):M7 h g c=g c:=by unfold M7;rw[hc];rfl
theorem VV{g:Aj}(hc:kS c=false):M7 h g c=h c:=by unfold M7;rw[hc];rfl
theorem iE(f:BFunc)(R:Nat)(es:List (List AV))(len:Nat)(w:Nat->Bool):∀i,i<8->(Y9 (ra f R es len w) i).avoid kS=true:=fun i hi=>by
 have h3:∀q b,(rG q (nw R) b).avoid kS=true:=fun q b=>by
  simp[rG,AV.avoid,AV.flat,mL]
 have h7:∀A b,(SJ A b).avoid kS=true:=fun A b=>Cb _ (mL _)
 rcases(by omega:i=0\/i=1\/i=2\/i=3\/i=4\/i=5\/i=6\/i=7)with rfl|rfl|rfl|rfl|rfl|rfl|rfl|rfl
 . rfl
 . exact Ak (fun b _=>h3 0 b)
 . exact Ak (fun b _=>h3 1 b)
 . rfl
 . rfl
 . exact Ak (fun b _=>h7 _ b)
 . rfl
 . rfl
variable {i : Nat}
theorem oy(f:BFunc)(R:Nat)(es:List (List AV))(len:Nat)(w:Nat->Bool)(F:Nat->AObj)(hi:i<8):HS f R es len w F (2+i)=some (Y9 (ra f R es len w) i):=by
 exact rl
variable {es : List (List AV)} {w : Nat -> Bool} {F : Nat -> AObj}
theorem SP{len:Nat}(hF:∀x,(F x).avoid kS=true)(hc:kS c=true):∃q,HS f R es len w F c=some q/\q.avoid kS=true:=by
 rcases P2 hc with h|h
 . obtain⟨i,rfl⟩:∃i,c=2+i:=⟨c-2,by omega⟩
   exact⟨_,oy f R es len w F Ab,iE f R es len w i Ab⟩
 . obtain⟨x,rfl⟩:∃x,c=x+16:=⟨c-16,by omega⟩
   exact⟨_,Ay _ _ _,hF x⟩
def LowS(h:Aj):Nat->List AObj->Prop
  |_,[]=>True
  |i,o::L=>h i=some o/\LowS h (i+1) L
theorem LowS.get{h:Aj}:∀{L:List AObj} {i c:Nat},LowS h i L->c<L.length->h (i+c)=some (Y9 L c)
 |o::L,i,0,hl,_=>hl.1
 |o::L,i,c+1,hl,hc=>by
  have:=LowS.get (L:=L) (i:=i+1) (c:=c) hl.2 (by simpa using hc);rw[show i+(c+1)=i+1+c by omega];exact this
theorem ov{len:Nat}(h1:LowS h 2 (ra f R es len w))(h2:∀x,h (x+16)=some (F x))(hc:kS c=true):h c=HS f R es len w F c:=by
 rcases P2 hc with hh|hh
 . obtain⟨i,rfl⟩:∃i,c=2+i:=⟨c-2,by omega⟩
   rw[oy f R es len w F Ab];exact h1.get (by show i<8;omega)
 . obtain⟨x,rfl⟩:∃x,c=x+16:=⟨c-16,by omega⟩
   rw[h2];exact(Ay _ _ _).symm
theorem vW{len:Nat}(h1:LowS h 2 (ra f R es len w))(h2:∀x,h (x+16)=some (F x)):HSub (M7 hNone (HS f R es len w F)) h:=fun c o ho=>by
 cases e:kS c with
 |true=>rw[I6 e]at ho;rw[ov h1 h2 e];exact ho
 |false=>rw[VV e]at ho;cases ho
theorem Q9:D7 (fun b=>decide (b<k)) ((List.range k).map Cg) k k=(List.range (k+1)).map Cg:=by
 unfold D7 Eo;simp[q79]
theorem NU(k:Nat):Dn (fun b=>decide (b<k)) k true=fun b=>decide (b<k+1):=funext fun c=>by
 grind[Dn]
theorem UA(k:Nat):EN (fun b=>decide (b<k)) k k=k+1:=by
 unfold EN;simp
theorem mV{len:Nat}(h1:LowS h 2 (ra f R es len w))(h2:∀x,h (x+16)=some (F x)):FE h kS=HS f R es len w F:=funext fun c=>by
 unfold FE
 cases e:kS c with
 |true=>exact ov h1 h2 e
 |false=>
  rcases mM e with rfl|rfl|hc
  . rfl
  . rfl
  . show some AObj.free=Jq (nb (.free:: .free::ra f R es len w)) F c;rw[Mq _ _ Ab];show some AObj.free=some (Y9 (.free:: .free::ra f R es len w) c);rw[Li (by show 10<=c;omega)]
theorem Rp{es':List (List AV)}{len len':Nat}{w':Nat->Bool}{F':Nat->AObj}
 (ho:o.op=.call {callee:=.value (.func g),args:=args,argTypes:=tys}) (hf:P.funcs[g]?=some fn) (hn:(fn.name== "runtime.NumGoroutine")=false) (hb:fn.body.isSome=true) (hx:BA e args.toList=some xs)
 (hxa:xs.all (AV.avoid kS)=true) (h1:LowS h 2 (ra f R es len w)) (h2:∀x,h (x+16)=some (F x)) (hF:∀x,(F x).avoid kS=true) (hF':∀x,(F' x).avoid kS=true) (hra:r.avoid kS=true)
 (hcall:ACall P g xs (HS f R es len w F) (fun r' h'=>r'=r/\HSub (HS f R es' len' w' F') h')):PI P o e h (M7 h (HS f R es' len' w' F')) r:=
 Nh (hw:=HS f R es' len' w' F') kS ho hf hn hb hx hxa (fun b hb=>by rw[ov h1 h2 hb];exact SP hF hb) (mV h1 h2) (fun b hb=>VV hb)
  (fun b hb=>by obtain⟨q,q1,q2⟩:=SP (f:=f) (R:=R) (es:=es') (len:=len') (w:=w') hF' hb;exact⟨q,q1,(I6 hb).trans q1,q2⟩) hra hcall
theorem GF(l:List α):l=[]\/∃L b,l=L++[b]:=by
 cases h:l.reverse with
 |nil=>left;exact List.reverse_eq_nil_iff.1 h
 |cons b r=>right;exact⟨r.reverse,b,by rw[<-List.reverse_reverse l,h,List.reverse_cons]⟩
theorem Zr(n:Nat):WaitI n (fun b=>decide (b<0)) []:=by
 refine⟨List.nodup_nil,fun b=>by simp,?_⟩
 induction n with
 |zero=>rfl
 |succ n ih=>rw[q79,q77,q82,ih];simp
theorem Kg{n:Nat}:∀k,k<=n->WaitI n (fun b=>decide (b<k)) (List.range k)
 |0,_=>Zr n
 |k+1,h=>by
  have:=(Kg (n:=n) k Ab).push (b:=k) Ab Aq;rw[NU,<-q79]at this;exact this
theorem MS(n:Nat):StackI n ((List.range n).map Cg) (List.range n):=by
 refine⟨?_,by simp,by simp⟩;rw[q20 Aq]
theorem Nd{L:List Nat}(h:L.length<=1000000):A8 .sub (.int .i64 (((L++[b]).length:Nat):Int)) (.int .i64 1)=some (.int .i64 (L.length:Int)):=by
 grind[A8,BP,isShift,B8]
variable {a : Nat}
theorem qj{F F':Nat}(h:F'<F)(ha:a<=n):F'*(n+1)+a<F*(n+1)+b:=by
 have h1:(F'+1)*(n+1)<=F*(n+1):=q34 _ h
 grind
theorem qk{F F':Nat}(h:F'<=F)(ha:a<b):F'*(n+1)+a<F*(n+1)+b:=by
 have h1:F'*(n+1)<=F*(n+1):=q34 _ h;omega
structure LQ where
  I:BB
  O:BB
  w:Nat->Bool
  ws:List Nat
  es:List (List AV)
structure LQI(f:BFunc)(R:Nat)(q:LQ):Prop where
  k:LInv f R q.I q.O q.w []
  wt:WaitI f.blocks.length q.w q.ws
  st:StackI f.blocks.length q.es q.ws
def lmu(f:BFunc)(R:Nat)(q:LQ):Nat:=KG f.blocks.length (64*nw R) q.I*(f.blocks.length+1)+q.ws.length
def lq0(n:Nat):LQ:=⟨B0,B0,fun b=>decide (b<n),List.range n,(List.range n).map Cg⟩
theorem LQI.first(f:BFunc)(R:Nat):LQI f R (lq0 f.blocks.length):=⟨LInv.first fun b hb=>q96 hb,Kg _ (qZ0 _),MS _⟩
structure LP where
  w:Nat->Bool
  ws:List Nat
  es:List (List AV)
  j:Nat
structure LPI(f:BFunc)(R:Nat)(I O:BB)(b:Nat)(p:LP):Prop where
  k:LInv f R I O p.w ((AM f b).drop p.j)
  wt:WaitI f.blocks.length p.w p.ws
  st:StackI f.blocks.length p.es p.ws
variable {p : LP}
theorem LPI.next(h:LPI f R I O b p)(ha:(AM f b)[p.j]?=some a):LPI f R I O b ⟨LN p.w a,IX p.w p.ws a,D7 p.w p.es p.ws.length a,p.j+1⟩:=by
 have hlt:=Lx (q33 ha);have hk:=h.k;rw[q07 (q05.1 ha).1,(q05.1 ha).2]at hk;exact⟨hk.wait,h.wt.wait hlt,h.st.wait h.wt hlt⟩
theorem LPI.done(h:LPI f R I O b p)(hj:(AM f b).length<=p.j):LQI f R ⟨I,O,p.w,p.ws,p.es⟩:=by
 have hk:=h.k;rw[List.drop_eq_nil_iff.2 hj]at hk;exact⟨hk,h.wt,h.st⟩
theorem bx(f:BFunc)(c:Nat):(AM f c).length<=2*f.blocks.length+2:=by
 have:=Mv f f.blocks.length 0 c
 grind[Ep,AM]
theorem GW{l:List (List Bool)}{x:List Bool}(h:l[k]?=some x):(l.take k).map D3++[D3 x]=(l.take (k+1)).map D3:=by
 rw[q59,h,q77];rfl
theorem R1(h:k<f.blocks.length):(Fx f)[k]?=some (LU f k):=by simp[Fx,h]
theorem Pn(h:f.blocks[k]?=some x):(JC f)[k]?=some (V2 f x):=by simp[JC,h]
theorem Pi(h:13<=k0){a b:List (List AV)}:(AObj.row false 2 [[Bo 11 a,Bo 12 b]]).avoid (kf k0)=true:=by
 have hk:∀c,c<13->kf k0 c=true:=fun c hc=>uc Ab
 show(List.all [_,_] (AV.avoid (kf k0))&&true)=true
 grind[Cb,Bo,kf]
structure Site where
  at_:Nat
  r:Bool
  s:Bool
def FJ(G:Nat->Bool):List Tac->Nat->List Tac
  | [],_=>[]
  |t::l,j=>bif G j then FJ G l (j+1)else t::FJ G l (j+1)
theorem V8(G:Nat->Bool)(l2:List Tac):∀(l1:List Tac) (j:Nat),FJ G (l1++l2) j=FJ G l1 j++FJ G l2 (j+l1.length)
 | [],j=>by simp[FJ]
 |t::l,j=>by
  rw[q73,FJ,FJ,V8 G l2 l (j+1),q70]
  grind
theorem Ll{G G':Nat->Bool}:∀(l:List Tac) (j:Nat),(∀i,j<=i->i<j+l.length->G i=G' i)->FJ G l j=FJ G' l j
 | [],_,_=>rfl
 |t::l,j,h=>by
  rw[FJ,FJ,h j (qZ0 _) Aq,Ll l (j+1) fun i h1 h2=>h i Ab Em]
theorem P1(G:Nat->Bool):∀(l:List Tac) (j:Nat),(FJ G l j).length<=l.length
 | [],_=>qZ0 _
 |t::l,j=>by
  have:=P1 G l (j+1)
  grind[FJ]
theorem X6:∀(l:List Tac) (j:Nat),FJ (fun _=>false) l j=l
 | [],_=>rfl
 |t::l,j=>by rw[FJ,X6 l (j+1)];rfl
variable {l : List Tac} {p : Nat} {t : Tac}
theorem UE{G:Nat->Bool}(h:l[p]?=some t):FJ G l 0=FJ G (l.take p) 0++(bif G p then FJ G (l.drop (p+1)) (p+1)else t::FJ G (l.drop (p+1)) (p+1)):=by
 have hp:=(q05.1 h).1;have e:l=l.take p++t::l.drop (p+1):=by
  have:=q07 hp;rw[(q05.1 h).2]at this;rw[<-this,q32]
 grind[V8,FJ]
def Ik(z:Bool)(v:Nat):List Tac->Nat->List Site
  | [],j=>bif z then [⟨j,true,false⟩]else []
  |t::l,j=>bif t.uses.contains (v:Int)||t.sets==(v:Int)then⟨j,t.uses.contains (v:Int),t.sets==(v:Int)⟩::Ik z v l (j+1)else Ik z v l (j+1)
theorem Gb(z:Bool)(v:Nat)(t:Tac)(l:List Tac)(j:Nat):Ik z v (t::l) j=bif t.uses.contains (v:Int)||t.sets==(v:Int)then⟨j,t.uses.contains (v:Int),t.sets==(v:Int)⟩::Ik z v l (j+1)else Ik z v l (j+1):=rfl
def Bj(x:Block)(v:Nat):List Site:=Ik (Ei x v) v x.ins 0
def leftS(G:Nat->Bool)(n:Nat)(s:Site):Bool:=s.at_==n|| !G s.at_
def Ef(G:Nat->Bool)(n:Nat):List Site->Bool->Bool
  | [],z=>z
  |s::l,z=>bif leftS G n s then s.r||(!s.s&&Ef G n l z)else Ef G n l z
def Eh(G:Nat->Bool)(n:Nat):List Site->Nat
  | []=>0
  |s::l=>bif leftS G n s then(bif s.r then 1 else 2)else Eh G n l
theorem Ky{G G':Nat->Bool}{n:Nat}{z:Bool}:∀{l:List Site},(∀s∈l,leftS G n s=leftS G' n s)->Ef G n l z=Ef G' n l z
 | [],_=>rfl
 |s::l,h=>by
  rw[Ef,Ef,h s (q99.2 (.inl rfl)),Ky fun s hs=>h s (q99.2 (.inr hs))]
theorem JD{G:Nat->Bool}{n v:Nat}{e z:Bool}:∀{l:List Tac} {j:Nat},j+l.length=n->Ef G n (Ik e v l j) z=need v (FJ G l j) (e||z)
 | [],j,h=>by
  grind[Ik,Ef,FJ,need,leftS]
 |t::l,j,h=>by
  have ih:=JD (G:=G) (n:=n) (v:=v) (e:=e) (z:=z) (l:=l) (j:=j+1) (by simp at h;omega)
  grind[Ik,FJ,Ef,need,leftS]
theorem Yx{G:Nat->Bool}{n:Nat}{z:Bool}:∀{l:List Site},Eh G n l=1->Ef G n l z=true
 | [],h=>by cases h
 |s::l,h=>by
  have ih:=Yx (G:=G) (n:=n) (z:=z) (l:=l)
  grind[Eh,Ef,leftS]
theorem Sc{G:Nat->Bool}{n:Nat}{z:Bool}:∀{l:List Site},Eh G n l=0->Ef G n l z=z
 | [],h=>rfl
 |s::l,h=>by
  have ih:=Sc (G:=G) (n:=n) (z:=z) (l:=l)
  grind[Eh,Ef,leftS]
theorem Yw{G:Nat->Bool}{n:Nat}{z:Bool}:∀{l:List Site},(∀s∈l,(s.r||s.s)=true)->Eh G n l=2->Ef G n l z=false
 | [],_,h=>by cases h
 |s::l,hs,h=>by
  have ih:=Yw (G:=G) (n:=n) (z:=z) (l:=l) (fun s h=>hs s (q99.2 (.inr h)))
  grind[Eh,Ef,leftS]
theorem U1{G:Nat->Bool}{n:Nat}:∀{l:List Site},Eh G n l=0\/Eh G n l=1\/Eh G n l=2
 | []=>.inl rfl
 |s::l=>by
  have ih:=U1 (G:=G) (n:=n) (l:=l)
  grind[Eh,leftS]
theorem QQ{z:Bool}{v:Nat}:∀{l:List Tac} {j:Nat},∀s∈Ik z v l j,(s.r||s.s)=true
 | [],j,s,h=>by
  grind[Ik]
 |t::l,j,s,h=>by
  unfold Ik at h
  cases e:t.uses.contains (v:Int)||t.sets==(v:Int)with
  |false=>rw[e]at h;exact QQ s h
  |true=>
   rw[e]at h;rcases q99.1 h with rfl|h
   . exact e
   . exact QQ s h
theorem MU{z:Bool}{v:Nat}:∀{l:List Tac} {j k:Nat} {s:Site},(Ik z v l j)[k]?=some s->
 (s.at_=j+l.length/\s.r=true/\s.s=false/\z=true/\k+1=(Ik z v l j).length)\/∃p t,s.at_=j+p/\l[p]?=some t/\s.r=t.uses.contains (v:Int)/\s.s=(t.sets==(v:Int))/\(Ik z v l j).drop (k+1)=Ik z v (l.drop (p+1)) (j+p+1)
 | [],j,k,s,h=>by
  grind[Ik]
 |t::l,j,k,s,h=>by
  have key:∀k',(Ik z v l (j+1))[k']?=some s->(s.at_=j+(t::l).length/\s.r=true/\s.s=false/\z=true/\k'+1=(Ik z v l (j+1)).length)\/∃p u,s.at_=j+p/\(t::l)[p]?=some u/\s.r=u.uses.contains (v:Int)/\s.s=(u.sets==(v:Int))/\(Ik z v l (j+1)).drop (k'+1)=Ik z v ((t::l).drop (p+1)) (j+p+1):=fun k' h'=>by
   rcases MU h' with⟨h1,h2,h3,h4,h5⟩|⟨p,u,h1,h2,h3,h4,h5⟩
   . exact .inl ⟨by rw[h1,q70];omega,h2,h3,h4,h5⟩
   . refine .inr ⟨p+1,u,by omega,h2,h3,h4,?_⟩;rw[h5,List.drop_succ_cons];congr 1;omega
  rw[Gb]at h|-
  cases e:t.uses.contains (v:Int)||t.sets==(v:Int)with
  |false=>rw[e]at h;simp only[qZ3]at h|-;exact key k h
  |true=>
   rw[e]at h;simp only[qZ7]at h|-
   cases k with
   |zero=>
    simp only[List.getElem?_cons_zero,q53]at h;subst h;exact .inr ⟨0,t,rfl,rfl,rfl,rfl,by simp⟩
   |succ k=>
    rw[q17]at h;rcases key k h with⟨h1,h2,h3,h4,h5⟩|h1
    . exact .inl ⟨h1,h2,h3,h4,by rw[q70,h5]⟩
    . rw[List.drop_succ_cons];exact .inr h1
theorem kv{z:Bool}{v:Nat}:∀{l:List Tac} {j p:Nat} {t:Tac},l[p]?=some t->t.sets=(v:Int)->∃k s,(Ik z v l j)[k]?=some s/\s.at_=j+p/\s.s=true/\(Ik z v l j).drop (k+1)=Ik z v (l.drop (p+1)) (j+p+1)
 | [],j,p,t,h,_=>by simp at h
 |u::l,j,0,t,h,hs=>by
  simp only[List.getElem?_cons_zero,q53]at h;subst h;have e:(u.sets==(v:Int))=true:=by rw[hs];simp
  rw[Gb,e,qX6,qZ7];exact⟨0,_,rfl,rfl,rfl,by simp⟩
 |u::l,j,p+1,t,h,hs=>by
  obtain⟨k,s,h1,h2,h3,h4⟩:=kv (z:=z) (l:=l) (j:=j+1) (p:=p) HN hs;have e2:Ik z v ((u::l).drop (p+1+1)) (j+(p+1)+1)=Ik z v (l.drop (p+1)) (j+1+p+1):=by
   grind
  rw[Gb]
  cases e:u.uses.contains (v:Int)||u.sets==(v:Int)with
  |false=>rw[qZ3];exact⟨k,s,h1,by omega,h3,by rw[e2];exact h4⟩
  |true=>rw[qZ7];exact⟨k+1,s,h1,by omega,h3,by rw[e2,List.drop_succ_cons];exact h4⟩
theorem ZQ{z:Bool}{v:Nat}:∀{l:List Tac} {j:Nat},∀s∈Ik z v l j,j<=s.at_/\s.at_<=j+l.length
 | [],j,s,h=>by
  grind[Ik]
 |t::l,j,s,h=>by
  unfold Ik at h;have key:s∈Ik z v l (j+1)->j<=s.at_/\s.at_<=j+(t::l).length:=fun h'=>by
   have:=ZQ s h';simp only[q70];omega
  grind
abbrev GG:=Nat->Nat->Bool
def Dh(f:BFunc)(G:GG):BFunc:={f with blocks:=f.blocks.zipIdx.map fun p=>p.1.mid (FJ (G p.2) p.1.ins 0)}
variable {G : GG}
theorem Hc(h:f.blocks[b]?=some x):(Dh f G).blocks[b]?=some (x.mid (FJ (G b) x.ins 0)):=by
 simp[Dh,h]
theorem P9{y:Block}(h:(Dh f G).blocks[b]?=some y):∃x,f.blocks[b]?=some x/\y=x.mid (FJ (G b) x.ins 0):=by
 simp only[Dh,q54,q37,Option.map_map]at h
 grind
theorem ED(f:BFunc)(G:GG):(Dh f G).blocks.length=f.blocks.length:=by simp[Dh]
theorem ie(f:BFunc):Dh f (fun _ _=>false)=f:=by
 have:(Dh f (fun _ _=>false)).blocks=f.blocks:=by
  refine q62 fun i=>?_
  cases e:f.blocks[i]? with
  |none=>
   rw[q09]at e|-;rw[ED];exact e
  |some x=>rw[Hc e,X6];rfl
 cases f
 grind[Dh]
def ER(G:GG)(b p:Nat):GG:=fun c q=>G c q||(c==b&&q==p)
theorem Lb(G:GG)(b p:Nat):ER G b p b p=true:=by simp[ER]
theorem HA{q:Nat}(h:¬(c=b/\q=p)):ER G b p c q=G c q:=by
 unfold ER
 grind
theorem nG(hx:f.blocks[b]?=some x)(ht:x.ins[p]?=some t)(hG:G b p=false):
 Dh f (ER G b p)=(Dh f G).putB b (x.mid (FJ (G b) (x.ins.take p) 0++FJ (G b) (x.ins.drop (p+1)) (p+1))):=by
 have e:(Dh f (ER G b p)).blocks=(Dh f G).blocks.set b (x.mid (FJ (G b) (x.ins.take p) 0++FJ (G b) (x.ins.drop (p+1)) (p+1))):=by
  refine q62 fun c=>?_
  rw[q60]
  by_cases hc:b=c
  . subst hc;have hlt:b<(Dh f G).blocks.length:=by rw[ED];exact(q05.1 hx).1
    rw[qK0 rfl,qK0 hlt,Hc hx,UE ht,Lb,qZ7];have hlp:(x.ins.take p).length<=p:=by rw[q69];exact Nat.min_le_left _ _
    rw[Ll (G:=ER G b p b) (G':=G b) (x.ins.take p) 0 fun i _ hi=>HA Ab,Ll (G:=ER G b p b) (G':=G b) (x.ins.drop (p+1)) (p+1) fun i hi _=>HA Ab]
  . rw[qZ9 hc]
    cases e:f.blocks[c]? with
    |none=>
     have h1:(Dh f (ER G b p)).blocks[c]?=none:=by rw[q09]at e|-;rw[ED];exact e
     have h2:(Dh f G).blocks[c]?=none:=by rw[q09]at e|-;rw[ED];exact e
     rw[h1,h2]
    |some y=>
     rw[Hc e,Hc e,Ll (G:=ER G b p c) (G':=G c) y.ins 0 fun i _ _=>HA Ab]
 have:∀(g h:BFunc),g.blocks=h.blocks->g.regs=h.regs->g=h:=fun g h h1 h2=>by cases g;cases h;simp only at h1 h2;rw[h1,h2]
 exact this _ _ e rfl
variable {v : Nat}
theorem nI(hx:f.blocks[b]?=some x)(ht:x.ins[p]?=some t)(hG:G b p=false)(hp:t.pure=true)(hv:t.sets=(v:Int))
 (hd:need v (FJ (G b) (x.ins.drop (p+1)) (p+1)) (ET (Dh f G) x v)=false):
 He (Dh f G) (Dh f (ER G b p)) b (x.mid (FJ (G b) x.ins 0)) (FJ (G b) (x.ins.take p) 0) t (FJ (G b) (x.ins.drop (p+1)) (p+1)) v where
 hx:=Hc hx
 hi:=by show FJ (G b) x.ins 0=_;rw[UE ht,hG];rfl
 pure:=hp
 hv:=hv
 dead:=hd
 hg:=nG hx ht hG
def OW(g:BFunc)(w:Nat):Prop:=∀h c x l1 t l2,¬He g h c x l1 t l2 w
variable {l1 l2 : List Tac}
theorem wl{g:BFunc}(h:He f g c x l1 t l2 v){w:Nat}(hw:t.uses.contains (w:Int)=false)(hvw:v≠w)(hn:OW f w):OW g w:=by
 intro k d y m1 u m2 h2;have hg:=h.hg
 by_cases hcd:c=d
 . subst hcd;have hy:=h2.hx;rw[hg,Fi h.hx]at hy
   cases hy
   have he:l1++l2=m1++u::m2:=h2.hi
   -- where the two lie
   rcases List.append_eq_append_iff.1 he with⟨a,ha1,ha2⟩|⟨a,ha1,ha2⟩
   . -- u lies behind t
     subst ha1;refine hn _ c x (l1++t::a) u m2 {hx:=h.hx,hi:=by rw[h.hi,ha2];simp,pure:=h2.pure,hv:=h2.hv,dead:=?_,hg:=rfl};exact Gt (BW (P7 h ⟨rfl,rfl,rfl⟩ hw)) h2.dead
   . cases a with
     |nil=>
      simp only[q91,List.nil_append]at ha1 ha2;subst ha1;refine hn _ c x (l1++[t]) u m2 {hx:=h.hx,hi:=by rw[h.hi,<-ha2];simp,pure:=h2.pure,hv:=h2.hv,dead:=?_,hg:=rfl};exact Gt (BW (P7 h ⟨rfl,rfl,rfl⟩ hw)) h2.dead
     |cons q a=>
      simp only[q73,q88]at ha2;obtain⟨e1,e2⟩:=ha2;subst e1;subst ha1;refine hn _ c x m1 u (a++t::l2) {hx:=h.hx,hi:=by rw[h.hi];simp,pure:=h2.pure,hv:=h2.hv,dead:=?_,hg:=rfl};refine Gt (fun e=>?_) h2.dead;rw[e2];exact BW (P7 h ⟨rfl,rfl,rfl⟩ hw) (Ou hw e)
 . have hy:=h2.hx;rw[hg,Iv hcd]at hy;exact hn _ d y m1 u m2 {hx:=hy,hi:=h2.hi,pure:=h2.pure,hv:=h2.hv,dead:=Gt (BW (P7 h ⟨rfl,rfl,rfl⟩ hw)) h2.dead,hg:=rfl}
theorem cH(z:Bool)(v:Nat):∀(l:List Tac) (j:Nat),(Ik z v l j).length<=l.length+1
 | [],j=>by cases z<;>simp[Ik]
 |t::l,j=>by
  have ih:=cH z v l (j+1)
  grind[Gb,Ik]
def firstG(f:BFunc)(G:GG)(v b:Nat):Nat:=((f.blocks[b]?).map fun x=>Eh (G b) x.ins.length (Bj x v)).getD 0
theorem HL(h:f.blocks[b]?=some x):firstG f G v b=Eh (G b) x.ins.length (Bj x v):=by unfold firstG;rw[h];rfl
theorem OC(hx:f.blocks[b]?=some x)(z:Bool):need v (FJ (G b) x.ins 0) (Ei x v||z)=Ef (G b) x.ins.length (Bj x v) z:=(JD Aq).symm
theorem iB(h:a∈AM f c):∃x,f.blocks[a]?=some x/\(c:Int)∈x.nexts:=by
 grind[AM,S9]
def OL(n:Nat)(w:Nat->Bool):Nat:=((List.range n).map fun b=>if w b then 0 else 1).sum
theorem NC{w:Nat->Bool}{b:Nat}(h:w b=false):∀{n:Nat},b<n->OL n (Dn w b true)+1=OL n w
 |0,hb=>by omega
 |n+1,hb=>by
  unfold OL;rw[q79,q77,q77,q82,q82];simp only[qQ0,qX9,qQ2,List.sum_nil,qX5]
  by_cases hn:b=n
  . subst hn;rw[D9,h];have:((List.range b).map fun c=>if Dn w b true c then 0 else 1)=(List.range b).map fun c=>if w c then 0 else 1:=q42 fun c hc=>by
     rw[DK _ (fun e=>by subst e;exact Nat.lt_irrefl _ (q94.1 hc))]
    rw[this];simp
  . rw[DK _ (fun e=>hn e.symm)];have ih:=NC h (n:=n) Ab;unfold OL at ih;omega
structure BfI(f:BFunc)(G:GG)(v:Nat)(inn:Nat->Bool)(todo:List Nat)(b0:Nat)(rest:List Nat):Prop where
  sound:∀b,inn b=true->b<f.blocks.length/\Fa (Dh f G) v b
  src:∀b,b<f.blocks.length->firstG f G v b=1->inn b=true
  cl:∀c,inn c=true->c∉todo->∀a y,f.blocks[a]?=some y->(c:Int)∈y.nexts->firstG f G v a=0->inn a=true\/(c=b0/\a∈rest)
  tod:∀c∈todo,inn c=true
  cnt:todo.length+OL f.blocks.length inn<=f.blocks.length
variable {inn : Nat -> Bool} {todo : List Nat}
theorem BfI.pop{b1:Nat}(h:BfI f G v inn (todo++[b]) b1 []):BfI f G v inn todo b (AM f b):=
 ⟨h.sound,h.src,fun c hc hn a y hy hm ha=>by
  by_cases hcb:c=b
  . subst hcb;exact .inr ⟨rfl,SH hy (q31.2 hm)⟩
  . exact(h.cl c hc (fun e=>by
     rcases q78.1 e with e|e
     . exact hn e
     . exact hcb (q47.1 e)) a y hy hm ha).elim .inl (fun e=>by cases e.2),fun c hc=>h.tod c (q78.2 (.inl hc)),by have:=h.cnt;simp at this;omega⟩
variable {rest : List Nat}
theorem BfI.skip(h:BfI f G v inn todo b (a::rest))(hs:¬(firstG f G v a=0/\inn a=false)):BfI f G v inn todo b rest:=
 ⟨h.sound,h.src,fun c hc hn a' y hy hm ha=>(h.cl c hc hn a' y hy hm ha).elim .inl fun⟨e1,e2⟩=>by
  rcases q99.1 e2 with rfl|e2
  . grind
  . exact .inr ⟨e1,e2⟩,h.tod,h.cnt⟩
theorem BfI.push(h:BfI f G v inn todo b (a::rest))(hb:inn b=true)(hab:a∈AM f b)(h0:firstG f G v a=0)(hi:inn a=false):
 BfI f G v (Dn inn a true) (todo++[a]) b rest:=by
 obtain⟨x,hx,hm⟩:=iB hab;have hlt:=(q05.1 hx).1;refine⟨fun c hc=>?_,fun c hc h1=>?_,fun c hc hn a' y hy hm' ha=>?_,fun c hc=>?_,?_⟩
 . by_cases hca:c=a
   . subst hca;refine⟨hlt,.thru (d:=(b:Int)) (Hc hx) ?_ hm (by rw[q55];exact(h.sound b hb).2)⟩;show need v (FJ (G c) x.ins 0) true=true;have:=OC (G:=G) (v:=v) hx true;rw[qX6]at this;rw[this,Sc (by rw[<-HL hx];exact h0)]
   . rw[DK _ hca]at hc;exact h.sound c hc
 . by_cases hca:c=a
   . grind
   . rw[DK _ hca];exact h.src c hc h1
 . have hcn:c∉todo:=fun e=>hn (q78.2 (.inl e))
   have hca:c≠a:=fun e=>hn (q78.2 (.inr (q47.2 e)))
   rw[DK _ hca]at hc;rcases h.cl c hc hcn a' y hy hm' ha with h1|⟨e1,e2⟩
   . left
     by_cases e:a'=a
     . subst e;rw[D9]
     . rw[DK _ e];exact h1
   . rcases q99.1 e2 with rfl|e2
     . left;rw[D9]
     . exact .inr ⟨e1,e2⟩
 . by_cases hca:c=a
   . subst hca;rw[D9]
   . rw[DK _ hca];rcases q78.1 hc with hc|hc
     . exact h.tod c hc
     . exact absurd (q47.1 hc) hca
 . have:=h.cnt;have e:=NC hi hlt
   grind
theorem BfI.any{b':Nat}(h:BfI f G v inn todo b []):BfI f G v inn todo b' []:=
 ⟨h.sound,h.src,fun c hc hn a y hy hm ha=>(h.cl c hc hn a y hy hm ha).elim .inl (fun e=>(by cases e.2)),h.tod,h.cnt⟩
theorem BfI.done(hs:f.sane){b0:Nat}(h:BfI f G v inn [] b0 [])(hb:b<f.blocks.length):inn b=Za (Dh f G) v b:=by
 rw[Bool.eq_iff_iff,inB_iff];refine⟨fun e=>(h.sound b e).2,fun hl=>?_⟩;refine RM (I:=inn) (fun c y hy hn=>?_) hl;obtain⟨x,hx,rfl⟩:=P9 hy;have hlt:=(q05.1 hx).1;have hn':need v (FJ (G c) x.ins 0) (Ei x v||x.nexts.any fun d=>inn d.toNat)=true:=hn;rw[OC hx]at hn';rcases U1 (G:=G c) (n:=x.ins.length) (l:=Bj x v)with h0|h1|h2
 . rw[Sc h0]at hn';obtain⟨d,hd,hid⟩:=q74.1 hn';have h0':=(hs.next x (q33 hx) d hd).1;refine(h.cl d.toNat hid Aq c x hx (by rw[q41 h0'];exact hd) (by rw[HL hx];exact h0)).elim id fun e=>by cases e.2
 . exact h.src c hlt (by rw[HL hx];exact h1)
 . have e:=Yw (z:=x.nexts.any fun d=>inn d.toNat) (fun s hs=>QQ s hs) h2;exact absurd (hn'.symm.trans e) Aq
def Jp(inn:Nat->Bool)(x:Block):Bool:=x.nexts.any fun d=>inn d.toNat
structure Fu where
  G:GG
  w:Nat->Bool
  ws:List Nat
  es:List (List AV)
def H3(st:Fu)(u:Nat):Fu:=⟨st.G,LN st.w u,IX st.w st.ws u,D7 st.w st.es st.ws.length u⟩
def CB(b p:Nat)(us:List Int)(st:Fu):Fu:=us.foldl (fun st u=>H3 st u.toNat) ⟨ER st.G b p,st.w,st.ws,st.es⟩
def LR(x:Block)(b:Nat)(st:Fu×Bool)(s:Site):Fu×Bool:=
  bif leftS (st.1.G b) x.ins.length s then
    (match x.ins[s.at_]? with
    |some t=>bif s.s&&(!st.2&&t.pure)then(CB b s.at_ t.uses st.1,st.2)else(st.1,s.r||(!s.s&&st.2))
    |none=>(st.1,s.r||(!s.s&&st.2)))
  else st
def Wx(inn:Nat->Bool)(v:Nat)(x:Block)(b:Nat)(st:Fu):Fu:=((Bj x v).reverse.foldl (LR x b) (st,Jp inn x)).1
structure QId(R:Nat)(st:Fu):Prop where
  wt:WaitI R st.w st.ws
  st:StackI R st.es st.ws
variable {st : Fu} {u : Nat}
theorem QId.push(h:QId R st)(hu:u<R):QId R (H3 st u):=⟨h.wt.wait hu,h.st.wait h.wt hu⟩
theorem QId.leave{R:Nat}{b p:Nat}:∀{us:List Int} {st:Fu},QId R st->(∀u∈us,0<=u/\u<R)->QId R (us.foldl (fun st u=>H3 st u.toNat) st)
 | [],st,h,_=>h
 |u::us,st,h,hu=>by
  rw[q85];refine QId.leave (b:=b) (p:=p) (h.push ?_) fun u' h'=>hu u' (q99.2 (.inr h'))
  (simp_all;done)
theorem XF:∀(us:List Int) (st:Fu) (w:Nat),(us.foldl (fun st u=>H3 st u.toNat) st).w w=(st.w w||us.any fun u=>u.toNat==w)
 | [],st,w=>by simp
 |u::us,st,w=>by
  rw[q85,XF us];show(Dn st.w u.toNat true w||_)=_
  grind[D9,DK,H3]
theorem XG:∀(us:List Int) (st:Fu),(us.foldl (fun st u=>H3 st u.toNat) st).G=st.G
 | [],st=>rfl
 |u::us,st=>by rw[q85,XG us];rfl
theorem PZ(b p:Nat)(us:List Int)(st:Fu):(CB b p us st).G=ER st.G b p:=XG _ _
structure RgI(f:BFunc)(R v:Nat)(inn:Nat->Bool)(m0:Nat)(st:Fu)(lo:Nat->Nat):Prop where
  c:Cuts f (Dh f st.G)
  le:∀b,Fa (Dh f st.G) v b->inn b=true
  ex:st.w v=false->∀b,b<f.blocks.length->inn b=true->Fa (Dh f st.G) v b
  oth:∀u,u≠v->st.w u=false->OW (Dh f st.G) u
  q:QId R st
  ms:mN (Dh f st.G)*(R+1)+st.ws.length<=m0
  proc:∀b x k s t,f.blocks[b]?=some x->lo b<=k->(Bj x v)[k]?=some s->s.s=true->leftS (st.G b) x.ins.length s=true->x.ins[s.at_]?=some t->t.pure=true->Ef (st.G b) x.ins.length ((Bj x v).drop (k+1)) (Jp inn x)=true
theorem iA(hs:f.sane)(hx:x∈f.blocks)(h:∀b,Fa (Dh f G) v b->inn b=true):outB (Dh f G) x v=true->Jp inn x=true:=fun e=>by
 obtain⟨d,h1,h2⟩:=outB_iff.1 e;exact q74.2 ⟨d,h1,h _ h2⟩
theorem Aa6(lo:Nat->Nat)(b k:Nat):∃lo':Nat->Nat,lo' b=k/\∀c,c≠b->lo' c=lo c:=⟨fun c=>if c=b then k else lo c,by simp,fun c hc=>by simp[hc]⟩
variable {s : Site}
theorem Vz{z:Bool}{k':Nat}{s':Site}(h:(Ik z v l 0)[k]?=some s)(h':(Ik z v l 0)[k']?=some s')(hlt:k<k'):s.at_<s'.at_:=by
 rcases MU h with⟨h1,h2,h3,h4,h5⟩|⟨p,t,h1,h2,h3,h4,h5⟩
 . grind
 . have e:((Ik z v l 0).drop (k+1))[k'-(k+1)]?=some s':=by
    rw[q49,show k+1+(k'-(k+1))=k' by omega];exact h'
   rw[h5]at e;have:=(ZQ s' (q33 e)).1;omega
theorem RgI.leave{f:BFunc}(hs:f.sane){R v:Nat}{inn:Nat->Bool}{m0:Nat}{st:Fu}{lo lo':Nat->Nat}(h:RgI f R v inn m0 st lo){b k:Nat}{x:Block}{s:Site}{t:Tac}(hx:f.blocks[b]?=some x)(hlo:lo b=k+1)(hk:(Bj x v)[k]?=some s)
 (hss:s.s=true) (hl:leftS (st.G b) x.ins.length s=true) (ht:x.ins[s.at_]?=some t) (hp:t.pure=true) (hb:Ef (st.G b) x.ins.length ((Bj x v).drop (k+1)) (Jp inn x)=false) (hR:∀u∈t.uses,0<=u/\u<R)
 (h1:lo' b=k) (h2:∀c,c≠b->lo' c=lo c):RgI f R v inn m0 (CB b s.at_ t.uses st) lo':=by
 have hxm:=q33 hx;obtain⟨p,t',hat,ht',hr,hsv,hdr⟩:∃p t',s.at_=0+p/\x.ins[p]?=some t'/\s.r=t'.uses.contains (v:Int)/\s.s=(t'.sets==(v:Int))/\(Bj x v).drop (k+1)=Ik (Ei x v) v (x.ins.drop (p+1)) (0+p+1):=by
  rcases MU hk with⟨_,_,e,_,_⟩|e
  . grind
  . exact e
 rw[qQ8]at hat hdr;subst hat;rw[ht]at ht';cases ht';have hplt:=(q05.1 ht).1;have hGp:st.G b s.at_=false:=by
  unfold leftS at hl;have:(s.at_==x.ins.length)=false:=by rw[q40];omega
  rw[this,qQ6]at hl;simpa using hl
 have hsets:t.sets=(v:Int):=by rw[hss]at hsv;simpa using hsv.symm
 have hnd:need v (FJ (st.G b) (x.ins.drop (s.at_+1)) (s.at_+1)) (ET (Dh f st.G) x v)=false:=by
  have e:=JD (G:=st.G b) (n:=x.ins.length) (v:=v) (e:=Ei x v) (z:=Jp inn x) (l:=x.ins.drop (s.at_+1)) (j:=s.at_+1) (by rw[List.length_drop];omega);rw[<-hdr,hb]at e;refine Gt (BW fun e2=>?_) e.symm;unfold ET at e2;rcases Bool.or_eq_true_iff.1 e2 with e2|e2
  . rw[e2];rfl
  . rw[iA hs hxm h.le e2,qX6]
 have hcut:=nI hx ht hGp hp hsets hnd;have hG:(CB b s.at_ t.uses st).G=ER st.G b s.at_:=PZ _ _ _ _;have hw:∀u,(CB b s.at_ t.uses st).w u=(st.w u||t.uses.any fun a=>a.toNat==u):=fun u=>XF _ _ _
 have hnou:∀u,(CB b s.at_ t.uses st).w u=false->st.w u=false/\t.uses.contains (u:Int)=false:=fun u hu=>by
  rw[hw,q38]at hu;refine⟨hu.1,?_⟩
  cases e:t.uses.contains (u:Int)with
  |false=>rfl
  |true=>
   have:(t.uses.any fun a=>a.toNat==u)=true:=q74.2 ⟨(u:Int),q31.1 e,by simp⟩;rw[this]at hu;cases hu.2
 have hq:QId R (CB b s.at_ t.uses st):=QId.leave (b:=b) (p:=s.at_) (st:=⟨ER st.G b s.at_,st.w,st.ws,st.es⟩) ⟨h.q.wt,h.q.st⟩ hR;have hsz:=IB ⟨_,_,_,_,_,_,hcut⟩;refine⟨?_,?_,?_,?_,hq,?_,?_⟩
 . rw[hG];exact h.c.trans (.one ⟨_,_,_,_,_,_,hcut⟩)
 . rw[hG];exact fun c hc=>h.le c (Uy hcut hc)
 . rw[hG];intro hv c hc hi;have:=hnou v hv;exact dh hcut this.2 (h.ex this.1 c hc hi)
 . rw[hG];intro u huv hu;have:=hnou u hu;exact wl hcut this.2 (fun e=>huv e.symm) (h.oth u huv this.1)
 . rw[hG];have hms:=h.ms;have hle:=hq.wt.le;have:mN (Dh f st.G)*(R+1)=mN (Dh f (ER st.G b s.at_))*(R+1)+(R+1):=by rw[<-hsz,Nat.succ_mul]
   omega
 . rw[hG];intro c y k' s' t' hy hk' hs' hss' hl' ht' hp'
   by_cases hcb:c=b
   . subst hcb;rw[hx]at hy;cases hy;rw[h1]at hk'
     by_cases hkk:k'=k
     . subst hkk;rw[hk]at hs';cases hs';have:leftS (ER st.G c s.at_ c) x.ins.length s=false:=by
        unfold leftS;rw[Lb];exact rq
       rw[this]at hl';cases hl'
     . have hlt:k<k':=by omega
       have hne:=Vz hk hs' hlt;have e1:leftS (ER st.G c s.at_ c) x.ins.length s'=leftS (st.G c) x.ins.length s':=by
        unfold leftS;rw[HA Ab]
       rw[e1]at hl';have:=h.proc c x k' s' t' hx Ab hs' hss' hl' ht' hp';rw[<-this];refine Ky fun q hq=>?_
       obtain⟨i,hi⟩:=q27.1 hq;rw[q49]at hi;have hne2:=Vz hk hi Ab;unfold leftS;rw[HA Ab]
   . rw[h2 c hcb]at hk';have hGc:ER st.G b s.at_ c=st.G c:=funext fun q=>HA (fun e=>hcb e.1)
     rw[hGc]at hl'|-;exact h.proc c y k' s' t' hy hk' hs' hss' hl' ht' hp'
theorem RgI.keep{f:BFunc}{R v:Nat}{inn:Nat->Bool}{m0:Nat}{st:Fu}{lo lo':Nat->Nat}(h:RgI f R v inn m0 st lo){b k:Nat}{x:Block}{s:Site}(hx:f.blocks[b]?=some x)(hlo:lo b=k+1)(hk:(Bj x v)[k]?=some s)
 (hb:s.s=true->leftS (st.G b) x.ins.length s=true->∀t,x.ins[s.at_]?=some t->t.pure=true->Ef (st.G b) x.ins.length ((Bj x v).drop (k+1)) (Jp inn x)=true)
 (h1:lo' b=k) (h2:∀c,c≠b->lo' c=lo c):RgI f R v inn m0 st lo':=
 ⟨h.c,h.le,h.ex,h.oth,h.q,h.ms,fun c y k' s' t' hy hk' hs' hss' hl' ht' hp'=>by
  by_cases hcb:c=b
  . subst hcb;rw[hx]at hy;cases hy;rw[h1]at hk'
    by_cases hkk:k'=k
    . subst hkk;rw[hk]at hs';cases hs';exact hb hss' hl' t' ht' hp'
    . exact h.proc c x k' s' t' hx Ab hs' hss' hl' ht' hp'
  . rw[h2 c hcb]at hk';exact h.proc c y k' s' t' hy hk' hs' hss' hl' ht' hp'⟩
def DC(inn:Nat->Bool)(v:Nat)(x:Block)(b:Nat)(st:Fu)(m:Nat):Fu×Bool:=((Bj x v).reverse.take m).foldl (LR x b) (st,Jp inn x)
variable {m : Nat}
theorem G2(hk:(Bj x v)[k]?=some s)(hm:m+k+1=(Bj x v).length):DC inn v x b st (m+1)=LR x b (DC inn v x b st m) s:=by
 unfold DC;have e:(Bj x v).reverse[m]?=some s:=by
  grind
 rw[q59,e,List.foldl_append];rfl
theorem QM(h:(Bj x v).length<=m):(DC inn v x b st m).1=Wx inn v x b st:=by
 unfold DC Wx;rw[q20 HN]
theorem RgI.sites{f:BFunc}(hs:f.sane){R v:Nat}(hRf:f.regs=(R:Int)){inn:Nat->Bool}{m0:Nat}{st:Fu}{lo:Nat->Nat}{b:Nat}{x:Block}(hx:f.blocks[b]?=some x)(h:RgI f R v inn m0 st lo)(hlo:lo b=(Bj x v).length):
 ∀m,m<=(Bj x v).length->∃lo',RgI f R v inn m0 (DC inn v x b st m).1 lo'/\lo' b=(Bj x v).length-m/\(∀c,c≠b->lo' c=lo c)/\(DC inn v x b st m).2=Ef ((DC inn v x b st m).1.G b) x.ins.length ((Bj x v).drop ((Bj x v).length-m)) (Jp inn x)
 |0,_=>⟨lo,h,by simpa using hlo,fun _ _=>rfl,by
  show Jp inn x=Ef _ _ ((Bj x v).drop _) _;rw[Nat.sub_zero,List.drop_length];rfl⟩
 |m+1,hm=>by
  obtain⟨lo1,h1,h2,h3,h4⟩:=RgI.sites hs hRf hx h hlo m Ab;obtain⟨k,hk⟩:∃k,m+k+1=(Bj x v).length:=⟨(Bj x v).length-m-1,by omega⟩
  obtain⟨s,hsk⟩:=Ad (l:=Bj x v) (k:=k) Ab;rw[show(Bj x v).length-(m+1)=k by omega];rw[show(Bj x v).length-m=k+1 by omega]at h2 h4;obtain⟨lo2,l1,l2⟩:=Aa6 lo1 b k;have hdk:(Bj x v).drop k=s::(Bj x v).drop (k+1):=by
   rw[q07 (q05.1 hsk).1,(q05.1 hsk).2]
  rw[G2 hsk hk];generalize DC inn v x b st m=S at h1 h4|-;unfold LR
  cases hl:leftS (S.1.G b) x.ins.length s with
  |false=>
   rw[qZ3];refine⟨lo2,h1.keep hx h2 hsk (fun _ e=>by rw[hl]at e;cases e) l1 l2,l1,fun c hc=>(l2 c hc).trans (h3 c hc),?_⟩;rw[hdk,Ef,hl,qZ3];exact h4
  |true=>
   rw[qZ7];have keep:∀(hb:s.s=true->∀t,x.ins[s.at_]?=some t->t.pure=true->S.2=true),∃lo',RgI f R v inn m0 ((S.1,s.r||(!s.s&&S.2)):Fu×Bool).1 lo'/\lo' b=k/\(∀c,c≠b->lo' c=lo c)/\((S.1,s.r||(!s.s&&S.2)):Fu×Bool).2=Ef (((S.1,s.r||(!s.s&&S.2)):Fu×Bool).1.G b) x.ins.length ((Bj x v).drop k) (Jp inn x):=fun hb=>by
    refine⟨lo2,h1.keep hx h2 hsk (fun e1 _ t e2 e3=>by rw[<-h4];exact hb e1 t e2 e3) l1 l2,l1,fun c hc=>(l2 c hc).trans (h3 c hc),?_⟩;rw[hdk,Ef,hl,qZ7];show(s.r||(!s.s&&S.2))=_;rw[h4]
   cases ht:x.ins[s.at_]? with
   |none=>exact keep (fun _ t e=>by rw[ht]at e;cases e)
   |some t=>
    cases hc:s.s&&(!S.2&&t.pure)with
    |false=>
     rw[show(match some t with|some t=>bif s.s&&(!S.2&&t.pure)then(CB b s.at_ t.uses S.1,S.2)else(S.1,s.r||(!s.s&&S.2))|none=>(S.1,s.r||(!s.s&&S.2)))=(S.1,s.r||(!s.s&&S.2)) by simp only[hc,qZ3]];refine keep (fun e1 t' e2 e3=>?_);rw[ht]at e2;cases e2;rw[e1,e3]at hc;simpa using hc
    |true=>
     rw[show(match some t with|some t=>bif s.s&&(!S.2&&t.pure)then(CB b s.at_ t.uses S.1,S.2)else(S.1,s.r||(!s.s&&S.2))|none=>(S.1,s.r||(!s.s&&S.2)))=(CB b s.at_ t.uses S.1,S.2) by simp only[hc,qZ7]];simp only[q66,q61]at hc;have hxm:=q33 hx;have hlow:=hs.low x hxm t (q33 ht);have hplt:=(q05.1 ht).1;refine⟨lo2,h1.leave hs hx h2 hsk hc.1 hl ht hc.2.2 (by rw[<-h4];exact hc.2.1) (fun u hu=>by have:=hlow.2 u hu;rw[hRf]at this;exact this) l1 l2,l1,fun c hcc=>(l2 c hcc).trans (h3 c hcc),?_⟩;rw[hdk,Ef];have hg:leftS ((CB b s.at_ t.uses S.1).G b) x.ins.length s=false:=by
      unfold leftS;rw[PZ,Lb];exact rq
     show S.2=bif leftS ((CB b s.at_ t.uses S.1).G b) x.ins.length s then _ else Ef ((CB b s.at_ t.uses S.1).G b) _ _ _;rw[hg,qZ3,h4];refine Ky fun q hq=>?_
     obtain⟨i,hi⟩:=q27.1 hq;rw[q49]at hi;have hne2:=Vz hsk hi Ab;unfold leftS;rw[PZ,HA Ab]
def I2(f:BFunc)(v i:Nat):List Site:=((f.blocks[i]?).map fun x=>Bj x v).getD []
theorem Hg(h:f.blocks[i]?=some x):I2 f v i=Bj x v:=by unfold I2;rw[h];rfl
def Hn(f:BFunc)(v:Nat):List Nat:=(List.range f.blocks.length).filter fun i=> !(I2 f v i).isEmpty
def Wy(f:BFunc)(inn:Nat->Bool)(v:Nat)(st:Fu)(b:Nat):Fu:=((f.blocks[b]?).map fun x=>Wx inn v x b st).getD st
theorem Ve(h:f.blocks[b]?=some x):Wy f inn v st b=Wx inn v x b st:=by unfold Wy;rw[h];rfl
def Md(f:BFunc)(inn:Nat->Bool)(v:Nat)(st:Fu)(k:Nat):Fu:=((Hn f v).take k).foldl (Wy f inn v) st
noncomputable def Jz(f:BFunc)(v:Nat)(st:Fu):Fu:=Md f (Za (Dh f st.G) v) v st (Hn f v).length
theorem T2(h:(Hn f v)[k]?=some b):Md f inn v st (k+1)=Wy f inn v (Md f inn v st k) b:=by
 unfold Md;rw[q59,h,List.foldl_append];rfl
theorem m4(h:b∈Hn f v):b<f.blocks.length:=q94.1 (q90.1 h).1
theorem UT(f:BFunc)(v:Nat):(Hn f v).Nodup:=List.Pairwise.filter _ List.nodup_range
theorem P0{G:Nat->Bool}{t:Tac}{l2:List Tac}:∀{l l1:List Tac} {j:Nat},FJ G l j=l1++t::l2->∃p,l[p]?=some t/\G (j+p)=false/\l2=FJ G (l.drop (p+1)) (j+p+1)
 | [],l1,j,h=>by simp[FJ]at h
 |u::l,l1,j,h=>by
  rw[FJ]at h
  cases hG:G j with
  |true=>
   rw[hG,qZ7]at h;obtain⟨p,h1,h2,h3⟩:=P0 h;exact sk
  |false=>
   rw[hG,qZ3]at h
   cases l1 with
   |nil=>
    simp only[List.nil_append,q88]at h;obtain⟨rfl,rfl⟩:=h;exact⟨0,rfl,hG,rfl⟩
   |cons a l1=>
    simp only[q73,q88]at h;obtain⟨p,h1,h2,h3⟩:=P0 h.2;exact sk
theorem RgI.done(hs:f.sane){m0:Nat}{lo:Nat->Nat}(h:RgI f R v inn m0 st lo)(hlo:∀b x,f.blocks[b]?=some x->lo b=0\/Bj x v=[])(hv:st.w v=false):OW (Dh f st.G) v:=by
 intro g c y l1 t l2 hc;obtain⟨x,hx,rfl⟩:=P9 hc.hx;have hxm:=q33 hx;have hi:FJ (st.G c) x.ins 0=l1++t::l2:=hc.hi;obtain⟨p,hp,hG,hl2⟩:=P0 hi;rw[qQ8]at hG hl2;obtain⟨k,s,hk,hat,hss,hdr⟩:=kv (z:=Ei x v) (j:=0) hp hc.hv;rw[qQ8]at hat hdr;have hplt:=(q05.1 hp).1;have hlk:lo c<=k:=by
  rcases hlo c x hx with e|e
  . omega
  . have:(Bj x v)[k]?=some s:=hk;rw[e]at this;simp at this
 have hleft:leftS (st.G c) x.ins.length s=true:=by
  unfold leftS;rw[hat,hG];simp
 have hpr:=h.proc c x k s t hx hlk hk hss hleft (by rw[hat];exact hp) hc.pure;have hpr':Ef (st.G c) x.ins.length (Ik (Ei x v) v (x.ins.drop (p+1)) (p+1)) (Jp inn x)=true:=by rw[<-hdr];exact hpr
 rw[JD (by rw[List.length_drop];omega),<-hl2]at hpr';have hd:=hc.dead;have:need v l2 (ET (Dh f st.G) (x.mid (FJ (st.G c) x.ins 0)) v)=true:=by
  refine BW (fun e=>?_) hpr';show(Ei x v||outB (Dh f st.G) (x.mid (FJ (st.G c) x.ins 0)) v)=true;rcases Bool.or_eq_true_iff.1 e with e|e
  . rw[e];rfl
  . obtain⟨d,h1,h2⟩:=q74.1 e;have hd:=hs.next x hxm d h1;have:=h.ex hv d.toNat Ab h2;have ho:outB (Dh f st.G) (x.mid (FJ (st.G c) x.ins 0)) v=true:=outB_iff.2 ⟨d,h1,this⟩;rw[ho,qX6]
 rw[this]at hd;cases hd
theorem Rr(hs:f.sane)(hRf:f.regs=(R:Int))(hu:R<=u):OW (Dh f G) u:=by
 intro g c y l1 t l2 hc;obtain⟨x,hx,rfl⟩:=P9 hc.hx;obtain⟨p,hp,_,_⟩:=P0 (show FJ (G c) x.ins 0=l1++t::l2 from hc.hi);have hin:=hs.low x (q33 hx) t (q33 hp);have hsp:decide (t.sets>=0)=true:=by rw[hc.hv];simp
 have h1:=hin.1 (Gc hsp);rw[<-K1 (Gc hsp),hc.hv,hRf]at h1;omega
structure SI(f:BFunc)(R:Nat)(st:Fu):Prop where
  c:Cuts f (Dh f st.G)
  nd:∀u,st.w u=false->OW (Dh f st.G) u
  q:QId R st
def wL(f:BFunc)(R:Nat)(st:Fu):Nat:=mN (Dh f st.G)*(R+1)+st.ws.length
def wM(R:Nat):Fu:=⟨fun _ _=>false,fun b=>decide (b<R),List.range R,(List.range R).map Cg⟩
theorem SI.first(hs:f.sane)(hRf:f.regs=(R:Int)):SI f R (wM R):=by
 refine⟨?_,fun u hu=>Rr hs hRf ?_,⟨Kg _ (qZ0 _),MS _⟩⟩
 . grind[Cuts,Dh,ie,wM]
 . have:¬u<R:=by simpa[wM]using hu
   omega
def ag(st:Fu)(v:Nat)(ws:List Nat):Fu:=⟨st.G,Dn st.w v false,ws,st.es⟩
theorem SI.pop{f:BFunc}{R v:Nat}{ws:List Nat}{st:Fu}(h:SI f R st)(hw:st.ws=ws++[v]):v<R/\RgI f R v (Za (Dh f st.G) v) (wL f R (ag st v ws)) (ag st v ws) (fun b=>(I2 f v b).length):=by
 have hwt:=h.q.wt;have hst:=h.q.st;rw[hw]at hwt hst;have hp:=hwt.pop;refine⟨hp.2.1,h.c,fun b hb=>inB_iff.2 hb,fun _ b _ hb=>inB_iff.1 hb,fun u huv hu=>h.nd u ?_,⟨hp.1,hst.pop⟩,qZ0 _,?_⟩
 . show st.w u=false;have hu':Dn st.w v false u=false:=hu;rw[DK _ huv]at hu';exact hu'
 . intro b x k s t hx hlk hk;rw[Hg hx]at hlk;have:=(q05.1 hk).1;omega
theorem RgI.blocks{f:BFunc}(hs:f.sane){R v:Nat}(hRf:f.regs=(R:Int)){inn:Nat->Bool}{m0:Nat}{st:Fu}(h:RgI f R v inn m0 st (fun b=>(I2 f v b).length)):
 ∀k,k<=(Hn f v).length->∃lo,RgI f R v inn m0 (Md f inn v st k) lo/\(∀b,b∈(Hn f v).take k->lo b=0)/\(∀b,b∉(Hn f v).take k->lo b=(I2 f v b).length)
 |0,_=>⟨_,h,fun b hb=>by simp at hb,fun _ _=>rfl⟩
 |k+1,hk=>by
  obtain⟨lo,h1,h2,h3⟩:=RgI.blocks hs hRf h k Ab;obtain⟨b,hb⟩:=Ad (l:=Hn f v) (k:=k) Ab;have hbl:=m4 (q33 hb);obtain⟨x,hx⟩:=Ad hbl;have hnb:b∉(Hn f v).take k:=fun e=>by
   obtain⟨i,hi⟩:=q27.1 e;have hik:i<k:=by
    rcases qX4 i k with h|h
    . exact h
    . rw[q26 Qj]at hi;cases hi
   rw[q14 hik]at hi;have:=(List.getElem?_inj (by omega:i<(Hn f v).length) (UT f v)).1 (hi.trans hb.symm);omega
  have hlo:=h3 b hnb;rw[Hg hx]at hlo;obtain⟨lo',l1,l2,l3,_⟩:=h1.sites hs hRf hx hlo (Bj x v).length (qZ0 _);rw[QM (qZ0 _),<-Ve hx,<-T2 hb]at l1;have e:(Hn f v).take (k+1)=(Hn f v).take k++[b]:=by rw[q59,hb];rfl
  refine⟨lo',l1,fun c hc=>?_,fun c hc=>?_⟩
  . by_cases hcb:c=b
    . subst hcb;omega
    . rw[l3 c hcb];rw[e]at hc;rcases q78.1 hc with hc|hc
      . exact h2 c hc
      . exact absurd (q47.1 hc) hcb
  . rw[e]at hc;have hcb:c≠b:=fun e=>hc (q78.2 (.inr (q47.2 e)))
    rw[l3 c hcb];exact h3 c fun e=>hc (q78.2 (.inl e))
variable {ws : List Nat}
theorem SI.reg(hs:f.sane)(hRf:f.regs=(R:Int))(h:SI f R st)(hw:st.ws=ws++[v]):SI f R (Jz f v (ag st v ws))/\wL f R (Jz f v (ag st v ws))<wL f R st:=by
 obtain⟨hv,hg⟩:=h.pop hw;obtain⟨lo,h1,h2,h3⟩:=hg.blocks hs hRf (Hn f v).length (qZ0 _);rw[q71]at h2 h3;have h1':RgI f R v (Za (Dh f st.G) v) (wL f R (ag st v ws)) (Jz f v (ag st v ws)) lo:=h1;refine⟨⟨h1'.c,fun u hu=>?_,h1'.q⟩,?_⟩
 . by_cases huv:u=v
   . subst huv;refine h1'.done hs (fun b x hx=>?_) hu
     by_cases hm:b∈Hn f u
     . exact .inl (h2 b hm)
     . right;have hbl:=(q05.1 hx).1;have:(I2 f u b).isEmpty=true:=by
        cases e:(I2 f u b).isEmpty with
        |true=>rfl
        |false=>exact absurd (q90.2 ⟨q94.2 hbl,by rw[e];rfl⟩) hm
       rw[Hg hx]at this;exact List.isEmpty_iff.1 this
   . exact h1'.oth u huv hu
 . refine Nat.lt_of_le_of_lt h1'.ms ?_;unfold wL ag;rw[hw,q48]
   simp
theorem SI.done(hs:f.sane)(hRf:f.regs=(R:Int))(h:SI f R st)(hw:st.ws=[]):Dh f st.G=NP f:=by
 refine nB h.c fun g hg=>?_
 obtain⟨c,x,l1,t,l2,v,hc⟩:=hg
 by_cases hv:v<R
 . refine h.nd v ?_ g c x l1 t l2 hc
   cases e:st.w v with
   |false=>rfl
   |true=>exact absurd ((h.q.wt.mem v).2 ⟨hv,e⟩) (by rw[hw];simp)
 . exact Rr hs hRf Ab g c x l1 t l2 hc
def F4(r0 r1 r2 r3:Nat->AObj):Nat->AObj:=fun x=>if x%4=0 then r0 (x/4)else if x%4=1 then r1 (x/4)else if x%4=2 then r2 (x/4)else r3 (x/4)
theorem AbB(r0 r1 r2 r3:Nat->AObj)(b:Nat):F4 r0 r1 r2 r3 (4*b+0)=r0 b:=by
 grind[F4]
theorem AbA(r0 r1 r2 r3:Nat->AObj)(b:Nat):F4 r0 r1 r2 r3 (4*b+1)=r1 b:=by
 grind[F4]
theorem wI(r0 r1 r2 r3:Nat->AObj)(b:Nat):F4 r0 r1 r2 r3 (4*b+2)=r2 b:=by
 grind[F4]
theorem wG(r0 r1 r2 r3:Nat->AObj)(b:Nat):F4 r0 r1 r2 r3 (4*b+3)=r3 b:=by
 grind[F4]
theorem Abz(r0 r1 r2 r3:Nat->AObj)(b:Nat)(o:AObj)(x:Nat):F4 (L5 r0 b o) r1 r2 r3 x=if x=4*b+0 then o else F4 r0 r1 r2 r3 x:=by
 grind[F4,L5]
theorem uq(r0 r1 r2 r3:Nat->AObj)(b:Nat)(o:AObj)(x:Nat):F4 r0 (L5 r1 b o) r2 r3 x=if x=4*b+1 then o else F4 r0 r1 r2 r3 x:=by
 grind[F4,L5]
theorem uo(r0 r1 r2 r3:Nat->AObj)(b:Nat)(o:AObj)(x:Nat):F4 r0 r1 (L5 r2 b o) r3 x=if x=4*b+2 then o else F4 r0 r1 r2 r3 x:=by
 grind[F4,L5]
theorem um(r0 r1 r2 r3:Nat->AObj)(b:Nat)(o:AObj)(x:Nat):F4 r0 r1 r2 (L5 r3 b o) x=if x=4*b+3 then o else F4 r0 r1 r2 r3 x:=by
 grind[F4,L5]
variable {k : Nat -> Bool} {r3 : Nat -> AObj}
theorem NM(h0:∀b,(r0 b).avoid k=true)(h1:∀b,(r1 b).avoid k=true)(h2:∀b,(r2 b).avoid k=true)(h3:∀b,(r3 b).avoid k=true)(x:Nat):(F4 r0 r1 r2 r3 x).avoid k=true:=by
 grind[F4]
def EF(b:Nat):Nat:=if b<16 then b else 16+(b-16)%4
theorem nN(i:Nat):EF (4*i+0+16)=16:=by unfold EF;rw[qZ9 Ab];omega
theorem nM(i:Nat):EF (4*i+1+16)=17:=by unfold EF;rw[qZ9 Ab];omega
theorem nL(i:Nat):EF (4*i+2+16)=18:=by unfold EF;rw[qZ9 Ab];omega
theorem nK(i:Nat):EF (4*i+3+16)=19:=by unfold EF;rw[qZ9 Ab];omega
def kD:Nat->Bool:=fun c=>(Nat.ble 2 c&&Nat.blt c 8)||Nat.ble 16 c
def GA(h g:Aj):Aj:=fun c=>bif kD c then g c else h c
theorem Dv(x:Nat):kD (x+16)=true:=by
 unfold kD;rw[show Nat.ble 16 (x+16)=true by rw[qZ5];omega];simp
theorem Yg(h:kD c=false):c=0\/c=1\/(8<=c/\c<16):=by
 unfold kD at h;simp only[q38,Bool.and_eq_false_iff]at h;obtain⟨h1,h2⟩:=h;have h3:¬16<=c:=fun e=>by rw[<-qZ5]at e;rw[e]at h2;cases h2
 rcases h1 with h1|h1
 . have:¬2<=c:=fun e=>by rw[<-qZ5]at e;rw[e]at h1;cases h1
   omega
 . have:¬c<8:=fun e=>by
    have:Nat.blt c 8=true:=by unfold Nat.blt;rw[qZ5];omega
    rw[this]at h1;cases h1
   omega
theorem Wb(h:kD c=true):(2<=c/\c<8)\/16<=c:=by
 unfold kD at h
 (simp_all;done)
theorem Gg(h g:Aj)(x:Nat):GA h g (x+16)=g (x+16):=by unfold GA;rw[Dv];rfl
theorem Cz{g:Aj}(hc:kD c=true):GA h g c=g c:=by unfold GA;rw[hc];rfl
theorem cX{g:Aj}(hc:kD c=false):GA h g c=h c:=by unfold GA;rw[hc];rfl
abbrev DH(L:List AObj)(F:Nat->AObj):Aj:=Jq (nb (.free:: .free::L)) F
variable {L : List AObj}
theorem oF(F:Nat->AObj)(hL:L.length=6)(hi:i<6):DH L F (2+i)=some (Y9 L i):=by
 exact rl
theorem qg{p:AObj->Prop}(h:∀o∈L,p o)(hf:p .free):∀i,p (Y9 L i):=by
 induction L with
 |nil=>intro i;exact hf
 |cons o L ih=>
  intro i
  cases i with
  |zero=>exact h o (q99.2 (.inl rfl))
  |succ i=>exact ih (fun q hq=>h q (q99.2 (.inr hq))) i
theorem SR(hL:L.length=6)(hA:∀o∈L,o.avoid kD=true)(hF:∀x,(F x).avoid kD=true)(hc:kD c=true):∃q,DH L F c=some q/\q.avoid kD=true:=by
 rcases Wb hc with h|h
 . obtain⟨i,rfl⟩:∃i,c=2+i:=⟨c-2,by omega⟩
   exact⟨_,oF F hL Ab,qg hA rfl i⟩
 . obtain⟨x,rfl⟩:∃x,c=x+16:=⟨c-16,by omega⟩
   exact⟨_,Ay _ _ _,hF x⟩
theorem dV(hL:L.length=6)(h1:LowS h 2 L)(h2:∀x,h (x+16)=some (F x))(hc:kD c=true):h c=DH L F c:=by
 rcases Wb hc with hh|hh
 . obtain⟨i,rfl⟩:∃i,c=2+i:=⟨c-2,by omega⟩
   rw[oF F hL Ab];exact h1.get Ab
 . obtain⟨x,rfl⟩:∃x,c=x+16:=⟨c-16,by omega⟩
   rw[h2];exact(Ay _ _ _).symm
theorem mW(hL:L.length=6)(h1:LowS h 2 L)(h2:∀x,h (x+16)=some (F x)):FE h kD=DH L F:=funext fun c=>by
 unfold FE
 cases e:kD c with
 |true=>exact dV hL h1 h2 e
 |false=>
  rcases Yg e with rfl|rfl|hc
  . rfl
  . rfl
  . show some AObj.free=Jq (nb (.free:: .free::L)) F c;rw[Mq _ _ Ab];show some AObj.free=some (Y9 (.free:: .free::L) c);rw[Li (by show L.length+1+1<=c;omega)]
theorem FD(L L':List AObj)(F':Nat->AObj)
 (ho:o.op=.call {callee:=.value (.func g),args:=args,argTypes:=tys}) (hf:P.funcs[g]?=some fn) (hn:(fn.name== "runtime.NumGoroutine")=false) (hb:fn.body.isSome=true) (hx:BA e args.toList=some xs)
 (hxa:xs.all (AV.avoid kD)=true) (hL:L.length=6) (hL':L'.length=6) (hA:∀o∈L,o.avoid kD=true) (hA':∀o∈L',o.avoid kD=true) (h1:LowS h 2 L) (h2:∀x,h (x+16)=some (F x)) (hF:∀x,(F x).avoid kD=true) (hF':∀x,(F' x).avoid kD=true) (hra:r.avoid kD=true)
 (hcall:ACall P g xs (DH L F) (fun r' h'=>r'=r/\HSub (GA hNone (DH L' F')) h')):PI P o e h (GA h (DH L' F')) r:=
 Nh (hw:=GA hNone (DH L' F')) kD ho hf hn hb hx hxa (fun b hb=>by rw[dV hL h1 h2 hb];exact SR hL hA hF hb) (mW hL h1 h2) (fun b hb=>cX hb)
  (fun b hb=>by obtain⟨q,q1,q2⟩:=SR (L:=L') (F:=F') hL' hA' hF' hb;exact⟨q,(Cz hb).trans q1,(Cz hb).trans q1,q2⟩) hra hcall
theorem OK(hL:L.length=6)(h1:LowS h 2 L)(h2:∀x,h (x+16)=some (F x)):HSub (GA hNone (DH L F)) h:=fun c o ho=>by
 cases e:kD c with
 |true=>rw[Cz e]at ho;rw[dV hL h1 h2 e];exact ho
 |false=>rw[cX e]at ho;cases ho
def Ia(f:BFunc)(i:Nat):Nat:=((f.blocks[i]?).map fun x=>x.ins.length).getD 0
theorem FZ(h:f.blocks[i]?=some x):Ia f i=x.ins.length:=by unfold Ia;rw[h];rfl
abbrev DR:=Nat->Nat->List Site
def IJ(s:Site):List AV:=[.int .i64 (s.at_:Int),.bool s.r,.bool s.s]
def aR(A:Nat->List Nat)(c:Nat):AV:=Bo (4*c+0+16) ((A c).map Cg)
def gR(f:BFunc)(i:Nat):AV:=.ref (4*i+1+16) (Ia f i) 0 (Ia f i)
def P4(S:DR)(n v:Nat):List Nat:=(List.range n).filter fun i=> !(S i v).isEmpty
def Zb(R:Nat)(S:DR)(v i:Nat):List AV:=[.int .i64 (i:Int),.ref (4*(v+R*i)+3+16) (S i v).length 0 (S i v).length]
def LX(n R:Nat)(S:DR)(v:Nat):List (List AV):=(P4 S n v).map (Zb R S v)
def oR(n R:Nat)(S:DR)(v:Nat):AV:=Bo (4*v+2+16) (LX n R S v)
def VU(n:Nat)(A:Nat->List Nat):Nat->AObj:=DD n fun c=>BU 1 ((A c).map Cg)
def SY(f:BFunc)(n:Nat)(G:GG):Nat->AObj:=DD n fun i=>.row true 1 (bC (Ia f i) (G i))
def Q6(n R:Nat)(S:DR):Nat->AObj:=DD R fun v=>SX 2 (LX n R S v)
def PL(R:Nat)(S:DR):Nat->AObj:=fun m=>BU 3 ((S (m/R) (m%R)).map IJ)
theorem dz(h:v<R):(v+R*i)/R=i:=by
 rw[Nat.add_mul_div_left _ _ Ab,Nat.div_eq_of_lt h,qQ8]
theorem dy(h:v<R):(v+R*i)%R=v:=by
 rw[Nat.add_mul_mod_self_left,Nat.mod_eq_of_lt h]
variable {S : DR}
theorem li(h:v<R):PL R S (v+R*i)=BU 3 ((S i v).map IJ):=by
 unfold PL;rw[dz h,dy h]
abbrev WO(f:BFunc)(R m len:Nat):List AV:=[.int .i64 f.regs,BK f.blocks,Ax f.nexts,.ref 3 f.blocks.length 0 f.blocks.length,.ref 4 R 0 R,.ref 5 f.blocks.length 0 f.blocks.length,.ref 6 m 0 len,.ref 7 R 0 R]
abbrev Kc(f:BFunc)(R:Nat)(S:DR)(es:List (List AV))(len:Nat)(w:Nat->Bool):List AObj:=
  [.row false 8 [WO f R es.length len],.row false 1 (AH (aR (AM f)) f.blocks.length),.row false 1 (AH (oR f.blocks.length R S) R),.row false 1 (AH (gR f) f.blocks.length),.row true 1 es,.row true 1 (bC R w)]
abbrev DF(f:BFunc)(R:Nat)(S:DR)(G:GG):Nat->AObj:=F4 (VU f.blocks.length (AM f)) (SY f f.blocks.length G) (Q6 f.blocks.length R S) (PL R S)
theorem Bz(hk:∀x,k (x+16)=true)(A:Nat->List Nat)(c:Nat):(aR A c).avoid k=true:=Cb _ (hk _)
theorem Bm(hk:∀x,k (x+16)=true)(n R:Nat)(S:DR)(v:Nat):(oR n R S v).avoid k=true:=Cb _ (hk _)
theorem CG(hk:∀x,k (x+16)=true)(f:BFunc)(i:Nat):(gR f i).avoid k=true:=by
 grind[gR,AV.avoid,AV.flat]
theorem La(b:Nat):(VU n A b).avoid k=true:=Ge (fun _=>C7 _ _) b
theorem K9(b:Nat):(SY f n G b).avoid k=true:=Ge (fun _=>rfl) b
theorem gC(hk:∀x,k (x+16)=true){p:Bool}:(AObj.row p 2 (LX n R S v)).avoid k=true:=by
 cases p with
 |true=>rfl
 |false=>
  show(LX n R S v).all (fun cs=>cs.all (AV.avoid k))=true;refine q67.2 fun cs hc=>?_
  obtain⟨i,_,rfl⟩:=qX3.1 hc;show(List.all [_,_] (AV.avoid k))=true;simp only[qQ1,qX7,qQ4,q66];exact⟨rfl,by simp[AV.avoid,AV.flat,hk]⟩
theorem K8(hk:∀x,k (x+16)=true)(b:Nat):(Q6 n R S b).avoid k=true:=Ge (fun v=>by
 unfold SX
 cases (LX n R S v).isEmpty with
 |true=>rfl
 |false=>exact gC hk) b
theorem K7(m:Nat):(PL R S m).avoid k=true:=C7 _ _
theorem Bw(hk:∀x,k (x+16)=true)(f:BFunc)(R:Nat)(S:DR)(G:GG)(x:Nat):(DF f R S G x).avoid k=true:=NM (fun _=>La _) (fun _=>K9 _) (fun _=>K8 hk _) (fun _=>K7 _) x
theorem CY(f:BFunc)(R:Nat)(S:DR)(es:List (List AV))(len:Nat)(w:Nat->Bool):∀o∈Kc f R S es len w,o.avoid kD=true:=fun o ho=>by
 simp only[Kc,q99,List.not_mem_nil,or_false]at ho;rcases ho with rfl|rfl|rfl|rfl|rfl|rfl
 . rfl
 . exact Ak (fun b _=>Bz Dv _ _)
 . exact Ak (fun b _=>Bm Dv _ _ _ _)
 . exact Ak (fun b _=>CG Dv _ _)
 . rfl
 . rfl
theorem AA(k0:Nat):∀x,kf k0 (x+16)=true:=fun x=>Yb k0 x
theorem Z7(hi:i<n)(hx:f.blocks[i]?=some x):F4 r0 (SY f n G) r2 r3 (4*i+1)=.row true 1 (bC x.ins.length (G i)):=by
 rw[AbA];unfold SY;rw[FR hi,FZ hx]
theorem pT(hi:i<n)(hx:f.blocks[i]?=some x)(y:Nat):
 F4 r0 (SY f n (ER G i p)) r2 r3 y=if y=4*i+1 then .row true 1 ((bC x.ins.length (G i)).set (0+((p:Nat):Int).toNat) [AV.bool true])else F4 r0 (SY f n G) r2 r3 y:=by
 have e:SY f n (ER G i p)=L5 (SY f n G) i (.row true 1 ((bC x.ins.length (G i)).set (0+((p:Nat):Int).toNat) [AV.bool true])):=by
  refine(HX (k:=n) (o:=fun c=>.row true 1 (bC (Ia f c) (G c))) (o':=fun c=>.row true 1 (bC (Ia f c) (ER G i p c))) (b:=i) hi fun c hc=>?_).trans ?_
  . congr 2;refine funext fun q=>?_
    rw[HA (fun e=>hc e.1)]
  . unfold SY;congr 1;show AObj.row true 1 (bC (Ia f i) (ER G i p i))=_;rw[Lw,FZ hx];congr 2;refine funext fun q=>?_
    congr 1
    by_cases hq:q=p
    . subst hq;rw[Lb,D9]
    . rw[HA (fun e=>hq e.2),DK _ hq]
 rw[e,uq]
theorem Fk(n R:Nat)(S:DR)(v:Nat):(LX n R S v).length=(P4 S n v).length:=by simp[LX]
theorem Wi(S:DR)(n v:Nat):(P4 S n v).length<=n:=by
 unfold P4
 grind
variable {k : Nat} {us : List Int}
theorem Pl{u:Int}(h:us[k]?=some u):(us.take (k+1)).foldl (fun st u=>H3 st u.toNat) st=H3 ((us.take k).foldl (fun st u=>H3 st u.toNat) st) u.toNat:=by
 rw[q59,h,List.foldl_append];rfl
theorem wJ(hi:i<f.blocks.length)(hx:f.blocks[i]?=some x)(y:Nat):
 DF f R S (ER G i p) y=if y=4*i+1 then .row true 1 ((bC x.ins.length (G i)).set (0+((p:Nat):Int).toNat) [AV.bool true])else DF f R S G y:=pT hi hx y
theorem Qd(hv:v<R)(h:0<(S i v).length):DF f R S G (4*(v+R*i)+3)=.row true 3 ((S i v).map IJ):=by
 refine(wG _ _ _ _ _).trans ?_;rw[li hv]
 cases e:S i v with
 |nil=>rw[e]at h;simp at h
 |cons s l=>rfl
theorem WJ(hv:v<R):DF f R S G (4*v+2)=SX 2 (LX f.blocks.length R S v):=(wI _ _ _ _ _).trans (FR hv)
theorem uw(hb:b<f.blocks.length):DF f R S G (4*b+0)=BU 1 ((AM f b).map Cg):=(AbB _ _ _ _ _).trans (FR hb)
theorem Wj(h:(P4 S n v)[k]?=some i):i<n/\0<(S i v).length:=by
 have:=q90.1 (q33 h)
 grind
variable {sz : Nat}
theorem Vy(h:k<es.length):SX sz es=.row false sz es:=by
 grind[SX]
theorem Q7{T:Nat->Option AC}(hT:Dz P T){t:TypeId}{x y:Operand}{k:IntKind}{n:Int}{i j:AC}(ho:o.op=.indexAddr t x y)(hx:At e x=some (Bo b es))(hy:At e y=some (.int k n))
 (hi:T t=some i) (hk:i.k=.slice u) (hj:T u=some j) (hb:h b=some (SX sz es)) (hsz:sz=j.size) (h0:0<=n) (hn:n<es.length):QLoc P o e h [b] (.ptr b es.length n.toNat 0):=by
 have hlt:n.toNat<es.length:=by omega
 rw[QL hlt]at hx;rw[Vy hlt]at hb;exact iX
variable {g : Bool}
theorem mG(h:s.at_=n):true=(s.at_==n||g):=by simp[h]
theorem qq(h:¬s.at_=n):g=(s.at_==n||g):=by
 grind
abbrev SB(f:BFunc):DR:=fun i v=>I2 f v i
abbrev iC(n:Nat)(w:Nat->Nat):List (List AV):=AH (fun b=>.int .i64 (w b:Int)) n
def NV(w:Nat->Nat)(b z:Nat):Nat->Nat:=fun c=>if c=b then z else w c
variable {w : Nat -> Nat}
theorem mU(z:Nat):(iC n w).set (0+((b:Nat):Int).toNat) [AV.int .i64 (z:Int)]=iC n (NV w b z):=by
 rw[qQ8,q55];show(AH _ n).set b _=_;rw[Jm];refine DY fun c _=>?_
 unfold NV;split<;>rfl
theorem dB:(iC n w).set (0+((b:Nat):Int).toNat) [AV.int .i64 2]=iC n (NV w b 2):=mU 2
theorem qx:(iC n w).set (0+((b:Nat):Int).toNat) [AV.int .i64 1]=iC n (NV w b 1):=mU 1
theorem j5(w:Nat->Nat)(b y z:Nat):NV (NV w b y) b z=NV w b z:=funext fun c=>by
 grind[NV]
theorem od(n:Nat)(w:Nat->Bool):bC n w=(H7 n w).map Bn:=by
 unfold H7;show(List.range n).map _=_;rw[List.map_map];rfl
def JP(f:BFunc)(G:GG)(v k:Nat):Nat->Nat:=fun b=>if b∈(Hn f v).take k then firstG f G v b else 0
def WN(f:BFunc)(G:GG)(v k:Nat):Nat->Bool:=fun b=>JP f G v k b==1
def Fy(f:BFunc)(G:GG)(v k:Nat):List Nat:=((Hn f v).take k).filter fun b=>firstG f G v b==1
theorem IK{l:List Nat}(h:l[k]?=some i)(b:Nat):b∈l.take (k+1)↔b∈l.take k\/b=i:=by
 rw[q59,h]
 simp
theorem Ji(h:(Hn f v)[k]?=some i):JP f G v (k+1)=NV (JP f G v k) i (firstG f G v i):=funext fun b=>by
 unfold JP NV
 by_cases hb:b=i
 . subst hb;rw[qK0 ((IK h b).2 (.inr rfl)),qK0 rfl]
 . rw[qZ9 hb];dsimp only
   by_cases h2:b∈(Hn f v).take k
   . rw[qK0 h2,qK0 ((IK h b).2 (.inl h2))]
   . rw[qZ9 h2,qZ9 (fun e=>((IK h b).1 e).elim h2 hb)]
theorem UX:JP f G v 0=fun _=>0:=funext fun b=>by unfold JP;simp
theorem vX(h:(Hn f v)[k]?=some i):i∉(Hn f v).take k:=fun e=>by
 obtain⟨j,hj⟩:=q27.1 e;have hjk:j<k:=by
  grind
 rw[q14 hjk]at hj;have hkl:=(q05.1 h).1;have:=(List.getElem?_inj (by omega:j<(Hn f v).length) (UT f v)).1 (hj.trans h.symm);omega
theorem Yu(h:(Hn f v)[k]?=some i):JP f G v k i=0:=by
 unfold JP;rw[qZ9 (vX h)]
theorem wb(h:(Hn f v)[k]?=some i)(h0:firstG f G v i=0):JP f G v k=JP f G v (k+1):=by
 rw[Ji h,h0];refine funext fun b=>?_
 unfold NV;split
 . subst_vars;exact Yu h
 . rfl
theorem mO(h:(Hn f v)[k]?=some i)(h1:firstG f G v i=1):Dn (WN f G v k) i true=WN f G v (k+1):=funext fun b=>by
 unfold WN Dn;rw[Ji h,h1];unfold NV;split<;>rfl
theorem mP(h:(Hn f v)[k]?=some i)(h1:firstG f G v i≠1):WN f G v k=WN f G v (k+1):=funext fun b=>by
 unfold WN;rw[Ji h];unfold NV;split
 . rename_i hb;rw[hb,Yu h];have:(firstG f G v i==1)=false:=by rw[q40];exact h1
   rw[this];rfl
 . rfl
theorem QA(h:(Hn f v)[k]?=some i)(h1:firstG f G v i=1):Fy f G v k++[i]=Fy f G v (k+1):=by
 unfold Fy;rw[q59,h,q52];simp[h1]
theorem QB(h:(Hn f v)[k]?=some i)(h1:firstG f G v i≠1):Fy f G v k=Fy f G v (k+1):=by
 unfold Fy;rw[q59,h,q52];simp[h1]
theorem eS(f:BFunc)(G:GG)(v k:Nat):(Fy f G v k).length<=k:=by
 unfold Fy
 grind
theorem Yv(h:(Hn f v).length<=k):JP f G v k=firstG f G v:=funext fun b=>by
 unfold JP;rw[q20 h];split
 . rfl
 . rename_i hn
   cases e:f.blocks[b]? with
   |none=>unfold firstG;rw[e];rfl
   |some x=>
    rw[HL e];have hbl:=(q05.1 e).1;have:(I2 f v b).isEmpty=true:=by
     cases e2:(I2 f v b).isEmpty with
     |true=>rfl
     |false=>exact absurd (q90.2 ⟨q94.2 hbl,by rw[e2];rfl⟩) hn
    rw[Hg e]at this;rw[List.isEmpty_iff.1 this];rfl
theorem Sr(p:Nat->Bool):∀n,((List.range n).filter p).length+OL n p=n
 |0=>rfl
 |n+1=>by
  have ih:=Sr p n;unfold OL at ih|-;rw[q79,q52,q48,q77,q82]
  cases e:p n<;>simp[e]<;>omega
theorem BfI.first(h:(Hn f v).length<=k):BfI f G v (WN f G v k) (Fy f G v k) 0 []:=by
 have hf:=Yv (G:=G) h;have hin:∀b,WN f G v k b=true->b∈Fy f G v k:=fun b hb=>by
  unfold WN at hb;unfold Fy;rw[q20 h];unfold JP at hb;rw[q20 h]at hb;split at hb
  . rename_i hm;exact q90.2 ⟨hm,hb⟩
  . cases hb
 refine⟨fun b hb=>?_,fun b hb h1=>?_,fun c hc hn=>absurd (hin c hc) hn,fun c hc=>?_,?_⟩
 . have hm:=hin b hb;unfold Fy at hm;obtain⟨h1,h2⟩:=q90.1 hm;have hbl:=m4 (List.mem_of_mem_take h1);obtain⟨x,hx⟩:=Ad hbl;refine⟨hbl,.here (Hc hx) ?_⟩;have h3:Eh (G b) x.ins.length (Bj x v)=1:=by rw[<-HL hx];simpa using h2
   have:=OC (G:=G) (v:=v) hx false;rw[Yx h3,Bool.or_false]at this;exact this
 . unfold WN;rw[hf,h1];rfl
 . unfold Fy at hc;obtain⟨h1,h2⟩:=q90.1 hc;unfold WN;rw[hf];exact h2
 . have e:=Sr (WN f G v k) f.blocks.length;have hle:(Fy f G v k).length<=((List.range f.blocks.length).filter (WN f G v k)).length:=by
    unfold Fy;rw[q20 h];unfold Hn;rw[List.filter_filter];have:∀(l:List Nat) (p q:Nat->Bool),(∀x,p x=true->q x=true)->(l.filter p).length<=(l.filter q).length:=fun l p q hpq=>by
     induction l with
     |nil=>simp
     |cons a l ih=>
      rw[List.filter_cons,List.filter_cons]
      cases ep:p a with
      |true=>rw[hpq a ep];simp;exact ih
      |false=>cases q a<;>simp<;>omega
    refine this _ _ _ fun x hx=>?_
    unfold WN;rw[hf];simp only[q66]at hx;exact hx.1
   omega
theorem StackI.push(h:StackI n es ws)(hlt:ws.length<n):StackI n (Eo es ws.length (Cg b)) (ws++[b]):=by
 refine⟨?_,?_,Ub h.le h.max hlt⟩
 . rw[q48];simp only[q70,q84];rw[Me h.le,h.top,q77];rfl
 . rw[q48];simp only[q70,q84];exact Of h.le
theorem StackI.none(n:Nat):StackI n [] []:=⟨rfl,qZ0 _,qZ1 _⟩
structure MQ where
  inn:Nat->Bool
  todo:List Nat
  es:List (List AV)
structure MP where
  inn:Nat->Bool
  todo:List Nat
  es:List (List AV)
  j:Nat
variable {l : List Site} {G : Nat -> Bool} {j : Nat}
theorem bf(hs:l[j]?=some s)(h:leftS G n s=false):Eh G n (l.drop j)=Eh G n (l.drop (j+1)):=by
 rw[q07 (q05.1 hs).1,(q05.1 hs).2,Eh,h,qZ3]
theorem Sb(hs:l[j]?=some s)(h:leftS G n s=true):Eh G n (l.drop j)=bif s.r then 1 else 2:=by
 rw[q07 (q05.1 hs).1,(q05.1 hs).2,Eh,h,qZ7]
variable {G : GG}
theorem vq(h:(Hn f v)[k]?=some i)(h1:firstG f G v i=1):((iC n (JP f G v k)).set (0+((i:Nat):Int).toNat) [AV.int .i64 2]).set (0+((i:Nat):Int).toNat) [AV.int .i64 1]=iC n (JP f G v (k+1)):=by
 rw[dB,qx,j5,Ji h,h1]
theorem vp(h:(Hn f v)[k]?=some i)(h1:firstG f G v i=2):(iC n (JP f G v k)).set (0+((i:Nat):Int).toNat) [AV.int .i64 2]=iC n (JP f G v (k+1)):=by
 rw[dB,Ji h,h1]
theorem BfI.room(h:BfI f G v inn todo b rest)(ha:a<f.blocks.length)(hi:inn a=false):todo.length<f.blocks.length:=by
 have:=h.cnt;have e:=NC hi ha;omega
theorem Sk{l:List Nat}(h:l[j]?=some a):l.drop j=a::l.drop (j+1):=by
 rw[q07 (q05.1 h).1,(q05.1 h).2]
theorem PR(hx:f.blocks[i]?=some x):(I2 f v i).length<=x.ins.length+1:=by
 rw[Hg hx];exact cH _ _ _ _
theorem Gr(k0:Nat):(AObj.row false 2 [Zb R S v i]).avoid (kf k0)=true:=by
 show(List.all [_,_] (AV.avoid (kf k0))&&true)=true;simp only[qQ1,qX7,qQ4,q66];exact⟨rfl,by simp[AV.avoid,AV.flat,Yb]⟩
theorem cE(hx:f.blocks[i]?=some x)(h:(I2 f v i)[j]?=some s):s.at_<=x.ins.length:=by
 rw[Hg hx]at h;have:=(ZQ s (q33 h)).2;omega
structure MPI(f:BFunc)(G:GG)(v b m0:Nat)(p:MP):Prop where
  k:BfI f G v p.inn p.todo b ((AM f b).drop p.j)
  b:p.inn b=true
  st:StackI f.blocks.length p.es p.todo
  mu:2*OL f.blocks.length p.inn+p.todo.length<=m0
theorem MPI.skip{f:BFunc}{G:GG}{v b m0:Nat}{p:MP}(h:MPI f G v b m0 p){a:Nat}(ha:(AM f b)[p.j]?=some a)(hs:¬(firstG f G v a=0/\p.inn a=false)):MPI f G v b m0 ⟨p.inn,p.todo,p.es,p.j+1⟩:=by
 have hk:=h.k;rw[Sk ha]at hk;exact⟨hk.skip hs,h.b,h.st,h.mu⟩
theorem MPI.push{f:BFunc}{G:GG}{v b m0:Nat}{p:MP}(h:MPI f G v b m0 p){a:Nat}(ha:(AM f b)[p.j]?=some a)(h0:firstG f G v a=0)(hi:p.inn a=false):MPI f G v b m0 ⟨Dn p.inn a true,p.todo++[a],Eo p.es p.todo.length (Cg a),p.j+1⟩:=by
 have hk:=h.k;have hal:=Lx (q33 ha);have hr:=hk.room hal hi;rw[Sk ha]at hk;have hne:b≠a:=fun e=>by have:=h.b;rw[e,hi]at this;cases this
 refine⟨hk.push h.b (q33 ha) h0 hi,?_,h.st.push hr,?_⟩
 . show Dn p.inn a true b=true;rw[DK _ hne];exact h.b
 . have:=h.mu;have e:=NC hi hal;show 2*OL f.blocks.length (Dn p.inn a true)+(p.todo++[a]).length<=m0;rw[q48]
   simp
   omega
variable {st : Fu × Bool}
theorem ZO(h:leftS (st.1.G b) x.ins.length s=false):LR x b st s=st:=by
 grind[LR,leftS]
theorem Xg(h:leftS (st.1.G b) x.ins.length s=true)(ht:x.ins[s.at_]?=some t)(hs:s.s=true)(hb:st.2=false)(hp:t.pure=true):LR x b st s=(CB b s.at_ t.uses st.1,st.2):=by
 grind[LR,leftS,CB]
theorem QN(h:leftS (st.1.G b) x.ins.length s=true)(hk:s.s=true->∀t,x.ins[s.at_]?=some t->(!st.2&&t.pure)=false):LR x b st s=(st.1,s.r||(!s.s&&st.2)):=by
 grind[LR,leftS]
def YV(inn:Nat->Bool)(x:Block)(j:Nat):Bool:=(x.nexts.take j).any fun d=>inn d.toNat
theorem iz{d:Int}(h:x.nexts[j]?=some d):YV inn x (j+1)=(YV inn x j||inn d.toNat):=by
 unfold YV;rw[q59,h,List.any_append];simp
theorem oe(h:x.nexts.length<=j):YV inn x j=Jp inn x:=by
 unfold YV Jp;rw[q20 h]
variable {st : Fu}
theorem fH(h:(Hn f v)[k]?=some i)(hx:f.blocks[i]?=some x)(hm:(I2 f v i).length<=m):(DC inn v x i (Md f inn v st k) m).1=Md f inn v st (k+1):=by
 rw[Hg hx]at hm;rw[T2 h,Ve hx,QM hm]
theorem kq(hx:f.blocks[i]?=some x)(h:(I2 f v i)[j]?=some s)(hs:s.s=true):∃t,x.ins[s.at_]?=some t:=by
 rw[Hg hx]at h;rcases MU h with⟨_,_,e,_,_⟩|⟨p,t,h1,h2,_⟩
 . grind
 grind
variable {L : Nat}
theorem fE(hL:L<=1000000000):A8 .sub (.int .i64 (L:Int)) (.int .i64 1)=some (.int .i64 (((L-0:Nat):Int)-1)):=by
 grind[A8,BP,isShift,B8]
theorem tZ{kk:Nat}(h:m+kk+1=L)(hL:L<=1000000000):A8 .sub (.int .i64 (kk:Int)) (.int .i64 1)=some (.int .i64 (((L-(m+1):Nat):Int)-1)):=by
 grind[A8,BP,isShift,B8]
theorem QId.leaveR(h:QId R st)(hu:∀u∈us,0<=u/\u<R):QId R (CB b p us st):=QId.leave (b:=b) (p:=p) (st:=⟨ER st.G b p,st.w,st.ws,st.es⟩) ⟨h.wt,h.st⟩ hu
theorem fG(h:(Hn f v).length=0):Jz f v st=st:=by
 unfold Jz;rw[h];rfl
def Db(S:DR)(i v:Nat)(l:List Site):DR:=fun i' v'=>if i'=i/\v'=v then l else S i' v'
theorem I3(S:DR)(i v:Nat)(l:List Site):Db S i v l i v=l:=by unfold Db;rw[qK0 ⟨rfl,rfl⟩]
theorem Js{i' v':Nat}(l:List Site)(h:¬(i'=i/\v'=v)):Db S i v l i' v'=S i' v':=by unfold Db;rw[qZ9 h]
theorem N2(S:DR)(i v:Nat):Db S i v (S i v)=S:=funext fun a=>funext fun b=>by
 unfold Db;split
 . grind
 . rfl
def CZ(S:DR)(i v:Nat):List Nat:=(List.range i).filter fun j=> !(S j v).isEmpty
theorem OE(hi:i<n)(h:∀j,i<j->S j v=[]):P4 S n v=CZ S i v++(if(S i v).isEmpty then []else [i]):=by
 unfold P4 CZ;have key:∀m,(List.range (i+1+m)).filter (fun j=> !(S j v).isEmpty)=(List.range (i+1)).filter (fun j=> !(S j v).isEmpty):=fun m=>by
  induction m with
  |zero=>rfl
  |succ m ih=>
   rw[show i+1+(m+1)=(i+1+m)+1 by omega,q79,q52,ih,List.filter_cons,h (i+1+m) Ab]
   simp
 have:=key (n-(i+1));rw[show i+1+(n-(i+1))=n by omega]at this;rw[this,q79,q52,List.filter_cons]
 cases (S i v).isEmpty<;>rfl
theorem lN(h:j∈CZ S i v):j<i:=q94.1 (q90.1 h).1
theorem Ug(l:List Site)(u:Nat):CZ (Db S i v l) i u=CZ S i u:=by
 unfold CZ;refine List.filter_congr fun j hj=>?_
 rw[Js l (fun e=>by have:=q94.1 hj;omega)]
def Lq(R:Nat)(v i:Nat)(l:List Site):List AV:=[.int .i64 (i:Int),Bo (4*(v+R*i)+3+16) (l.map IJ)]
def Df(R:Nat)(S:DR)(v i:Nat):List (List AV):=(CZ S i v).map (Zb R S v)
theorem vY(h:0<(S i v).length):Lq R v i (S i v)=Zb R S v i:=by
 unfold Lq Zb;have:=QL (b:=4*(v+R*i)+3+16) (es:=(S i v).map IJ) (k:=0) (by rw[q76];exact h)
 grind
theorem fT(l:List Site):Df R (Db S i v l) v i=Df R S v i:=by
 unfold Df;rw[Ug];refine q42 fun j hj=>?_
 unfold Zb;rw[Js l (fun e=>by have:=lN hj;omega)]
theorem P5(hi:i<n)(h:∀j,i<j->S j v=[])(hl:0<(S i v).length):LX n R S v=Df R S v i++[Lq R v i (S i v)]:=by
 unfold LX Df;have e:(S i v).isEmpty=false:=by
  grind
 rw[OE hi h,e,q77,vY hl];rfl
theorem dD(hi:i<n)(h:∀j,i<j->S j v=[])(hl:S i v=[]):LX n R S v=Df R S v i:=by
 unfold LX Df;rw[OE hi h,hl];simp
def oX(n R:Nat)(S:DR)(v i:Nat):Nat->AV:=fun u=>if u=v then .ref (4*v+2+16) ((CZ S i v).length+1) 0 ((CZ S i v).length+1)else oR n R S u
def T8(n R:Nat)(S:DR)(v i:Nat)(l:List Site):Nat->AObj:=L5 (Q6 n R S) v (.row false 2 (Df R S v i++[Lq R v i l]))
def fM(R:Nat)(S:DR)(v i:Nat)(l:List Site):Nat->AObj:=L5 (PL R S) (v+R*i) (BU 3 (l.map IJ))
theorem t7(l:List Site)(h:u≠v):LX n R (Db S i v l) u=LX n R S u:=by
 unfold LX P4;have e:((List.range n).filter fun j=> !(Db S i v l j u).isEmpty)=(List.range n).filter fun j=> !(S j u).isEmpty:=List.filter_congr fun j _=>by rw[Js l (fun e=>h e.2)]
 rw[e];refine q42 fun j _=>?_
 unfold Zb;rw[Js l (fun e=>h e.2)]
theorem t6(hi:i<n)(h:∀j,i<j->S j v=[])(hl:0<l.length):AH (oX n R S v i) R=AH (oR n R (Db S i v l)) R:=DY fun u _=>by
 unfold oX oR
 by_cases hu:u=v
 . subst hu;rw[qK0 rfl,P5 hi (fun j hj=>by rw[Js l (fun e=>by omega)];exact h j hj) (by rw[I3];exact hl),Km];unfold Df;rw[q76,Ug]
 . rw[qZ9 hu,t7 l hu]
theorem ll(hv:v<R)(hi:i<n)(h:∀j,i<j->S j v=[])(hl:0<l.length):T8 n R S v i l=Q6 n R (Db S i v l):=by
 unfold T8;have:=HX (k:=R) (o:=fun u=>SX 2 (LX n R S u)) (o':=fun u=>SX 2 (LX n R (Db S i v l) u)) hv (fun c hc=>by rw[t7 l hc]);refine Eq.trans ?_ this.symm;unfold Q6;congr 1;rw[P5 hi (fun j hj=>by rw[Js l (fun e=>by omega)];exact h j hj) (by rw[I3];exact hl),I3,fT];simp[SX,PQ]
theorem VR(hv:v<R):fM R S v i l=PL R (Db S i v l):=funext fun m=>by
 unfold fM L5 PL
 by_cases hm:m=v+R*i
 . subst hm;rw[qK0 rfl,dz hv,dy hv,I3]
 . rw[qZ9 hm,Js l (fun e=>hm ?_)];have:=Nat.mod_add_div m R;rw[e.1,e.2]at this;exact this.symm
theorem lg(hv:v<R):fM R S v i (S i v)=PL R S:=by rw[VR hv,N2]
theorem lk(hv:v<R)(hi:i<n)(h:∀j,i<j->S j v=[])(hl:0<(S i v).length):T8 n R S v i (S i v)=Q6 n R S:=by rw[ll hv hi h hl,N2]
theorem qd(hi:i<n)(h:∀j,i<j->S j v=[])(hl:0<(S i v).length):AH (oX n R S v i) R=AH (oR n R S) R:=by rw[t6 hi h hl,N2]
def Br(l:List Site)(p:Nat):List Site:=if(l.getLast?.map Site.at_)=some p then l else l++[⟨p,false,false⟩]
theorem Dp(l:List Site)(p:Nat):0<(Br l p).length:=by
 grind[Br]
theorem Lj(hk:l[k]?=some s)(hl:k+1=l.length)(h:s.at_≠p):Br l p=l++[⟨p,false,false⟩]:=by
 grind[Br]
theorem Uo(hk:l[k]?=some s)(hl:k+1=l.length)(h:s.at_=p):Br l p=l:=by
 grind[Br]
theorem Un(hi:i<n)(h:∀j,i<j->S j v=[])(hl:(LX n R S v).length=0):S i v=[]:=by
 cases e:S i v with
 |nil=>rfl
 |cons a l=>
  rw[P5 hi h (by rw[e];simp)]at hl;simp at hl
theorem Um{j0:Nat}(hi:i<n)(h:∀j,i<j->S j v=[])(hk:(P4 S n v)[k]?=some j0)(hl:k+1=(P4 S n v).length)(hne:j0≠i):S i v=[]:=by
 cases e:S i v with
 |nil=>rfl
 |cons a l=>
  have hs:P4 S n v=CZ S i v++[i]:=by rw[OE hi h,e];rfl
  rw[hs]at hk hl;have:k=(CZ S i v).length:=by simp at hl;omega
  subst this;rw[q02 (qZ0 _)]at hk;simp at hk;exact absurd hk.symm hne
theorem mf(hi:i<n)(h:∀j,i<j->S j v=[])(hk:(P4 S n v)[k]?=some i):0<(S i v).length:=(Wj hk).2
theorem vM(hi:i<n)(h:∀j,i<j->S j v=[])(hl:0<(S i v).length):oR n R S v=.ref (4*v+2+16) ((CZ S i v).length+1) 0 ((CZ S i v).length+1):=by
 unfold oR;rw[P5 hi h hl,Km];unfold Df;rw[q76]
variable {y : List AV}
theorem ew{x:List AV}(h:WkAll x y):∀(i:Nat) (ds ds':List AV),(es++[x])[i]?=some ds->(es++[y])[i]?=some ds'->ds'.length=ds.length/\∀(j:Nat) (a b:AV),ds[j]?=some a->ds'[j]?=some b->(a.cell1=true->b.cell1=true)/\∀H ι v,Rel H ι a v->Rel H ι b v:=fun i ds ds' h1 h2=>by
 grind[List.getElem?_append_left,Wk.refl,List.getElem?_append_right,Qo,WkAll]
theorem vL{x:List AV}(hp:es.length=(CZ S i v).length):(AH (oR n R S) R).set (0+((v:Nat):Int).toNat) [Bo (4*v+2+16) (es++[x])]=AH (oX n R S v i) R:=by
 rw[qQ8,q55,Jm];refine DY fun u _=>?_
 unfold oX
 by_cases hu:u=v
 . subst hu;rw[qK0 rfl,qK0 rfl,Km,hp]
 . rw[qZ9 hu,qZ9 hu]
theorem GH(R:Nat)(S:DR)(v i:Nat):(Df R S v i).length=(CZ S i v).length:=by simp[Df]
theorem fS(S:DR)(i v:Nat):(CZ S i v).length<=i:=by
 unfold CZ
 grind
theorem f9(l:List Site)(p:Nat):(Br l p).length<=l.length+1:=by
 grind[Br]
theorem Hi:F4 r0 r1 (T8 n R S v i l) r3 (4*v+2)=.row false 2 (Df R S v i++[Lq R v i l]):=by
 rw[wI];unfold T8 L5;rw[qK0 rfl]
theorem vy:F4 r0 r1 r2 (fM R S v i l) (4*(v+R*i)+3)=BU 3 (l.map IJ):=by
 rw[wG];unfold fM L5;rw[qK0 rfl]
theorem lM:(Df R S v i++[Lq R v i l])[(CZ S i v).length]?=some (Lq R v i l):=by
 rw[<-GH R S v i,q02 (qZ0 _)];simp
theorem vz(x:Nat):F4 r0 r1 (T8 n R S v i l) r3 x=if x=4*v+2 then .row false 2 (Df R S v i++[Lq R v i l])else F4 r0 r1 (Q6 n R S) r3 x:=uo _ _ _ _ _ _ _
variable {l' : List Site}
theorem fN:T8 n R S v i l'=L5 (T8 n R S v i l) v (.row false 2 (Df R S v i++[Lq R v i l'])):=funext fun c=>by
 unfold T8 L5;split<;>rfl
theorem lL:(Df R S v i++[Lq R v i l]).set (CZ S i v).length y=Df R S v i++[y]:=by
 rw[<-GH R S v i,List.set_append_right _ _ (qZ0 _)];simp
theorem PS(h:0<l.length):BU 3 (l.map IJ)=.row true 3 (l.map IJ):=Kl (k:=0) (by rw[q76];exact h)
theorem Z6(hv:v<R):F4 r0 r1 (Q6 n R S) r3 (4*v+2)=SX 2 (LX n R S v):=(wI _ _ _ _ _).trans (FR hv)
theorem T7(hv:v<R):F4 r0 r1 r2 (PL R S) (4*(v+R*i)+3)=BU 3 ((S i v).map IJ):=(wG _ _ _ _ _).trans (li hv)
theorem TQ(h:0<L)(hL:L<=1000000000):A8 .sub (.int .i64 (L:Int)) (.int .i64 1)=some (.int .i64 ((L-1:Nat):Int)):=by
 grind[A8,BP,isShift,B8]
theorem Wo(h:(((L:Nat):Int)==0)=false):0<L:=by
 grind
theorem FF(h:(((L:Nat):Int)==0)=true):L=0:=by
 grind
theorem PY{l:List α}(h:l.length=0):l=[]:=q18.1 h
theorem vk(l:List Site):∀cs∈l.map IJ,cs.length=3:=fun cs hc=>by
 grind[IJ]
theorem P8{L:List AObj}(hL:L.length=6)(h0:h 0=some .free)(h1:h 1=some .free)(hl:LowS h 2 L)(hh:∀x,h (x+16)=some (F x))(hf:∀c,8<=c->c<16->h c=some .free):HSub (DH L F) h:=fun c o ho=>by
 cases e:kD c with
 |true=>rw[dV hL hl hh e];exact ho
 |false=>
  rcases Yg e with rfl|rfl|hc
  . have:some AObj.free=some o:=ho;rw[h0];exact this
  . have:some AObj.free=some o:=ho;rw[h1];exact this
  . have e2:DH L F c=some .free:=by
     show Jq (nb (.free:: .free::L)) F c=_;rw[Mq _ _ Ab];show some (Y9 (.free:: .free::L) c)=_;rw[Li (by show L.length+1+1<=c;omega)]
    rw[e2]at ho;rw[hf c hc.1 hc.2];exact ho
theorem aU(h:Aj)(z:Nat)(o1 o2:AObj):Af (Af h z o1) z o2=Af h z o2:=funext fun c=>by
 by_cases hc:c=z
 . subst hc;rw[AB,AB]
 . rw[Bd _ _ hc,Bd _ _ hc,Bd _ _ hc]
theorem pP(hS0:S i v=[])(x:Nat):F4 r0 r1 (T8 n R S v i (S i v)) r3 x=if x=4*v+2 then .row false 2 (Df R S v i++[[.int .i64 (i:Int),Bo (4*(v+R*i)+3+16) []]])else F4 r0 r1 (Q6 n R S) r3 x:=by
 rw[vz,hS0];rfl
theorem lj(hy:y=Lq R v i l')(x:Nat):F4 r0 r1 (T8 n R S v i l') r3 x=if x=4*v+2 then .row false 2 ((Df R S v i++[Lq R v i l]).set (0+(((CZ S i v).length:Nat):Int).toNat) y)else F4 r0 r1 (T8 n R S v i l) r3 x:=by
 rw[fN (l:=l),uo,qQ8,q55,lL,hy]
theorem lf(x:Nat):F4 r0 r1 r2 (fM R S v i (l++[s])) x=if x=4*(v+R*i)+3 then BU 3 (l.map IJ++[IJ s])else F4 r0 r1 r2 (PL R S) x:=by
 unfold fM;rw[um,q77];rfl
theorem m5:[AV.int .i64 (i:Int),Bo (4*(v+R*i)+3+16) (l.map IJ++[IJ s])]=Lq R v i (l++[s]):=by
 unfold Lq;rw[q77];rfl
theorem Xi(z:Bool)(v:Nat)(t:Tac):∀(l:List Tac) (j:Nat),Ik false v (l++[t]) j=Ik false v l j++(bif t.uses.contains (v:Int)||t.sets==(v:Int)then [⟨j+l.length,t.uses.contains (v:Int),t.sets==(v:Int)⟩]else [])
 | [],j=>by
  rw[List.nil_append,Gb]
  cases t.uses.contains (v:Int)||t.sets==(v:Int)<;>simp[Ik]
 |u::l,j=>by
  rw[q73,Gb,Gb,Xi z v t l (j+1)];exact sq
theorem cI(z:Bool)(v:Nat):∀(l:List Tac) (j:Nat),Ik z v l j=Ik false v l j++(bif z then [⟨j+l.length,true,false⟩]else [])
 | [],j=>by cases z<;>simp[Ik]
 |u::l,j=>by
  rw[Gb,Gb,cI z v l (j+1)];exact sq
def S3(x:Block)(v j:Nat):List Site:=Ik false v (x.ins.take j) 0
theorem Xh(x:Block)(v:Nat):S3 x v 0=[]:=by simp[S3,Ik]
theorem QP(h:x.ins[j]?=some t):S3 x v (j+1)=S3 x v j++(bif t.uses.contains (v:Int)||t.sets==(v:Int)then [⟨j,t.uses.contains (v:Int),t.sets==(v:Int)⟩]else []):=by
 unfold S3;have hj:=(q05.1 h).1;have e:x.ins.take (j+1)=x.ins.take j++[t]:=by rw[q59,h];rfl
 rw[e,Xi false,q69,Nat.min_eq_left Ab,qQ8]
theorem cG(x:Block)(v:Nat):Bj x v=S3 x v x.ins.length++(bif Ei x v then [⟨x.ins.length,true,false⟩]else []):=by
 unfold Bj S3;rw[cI,q71,qQ8]
theorem ku:∀s∈S3 x v j,s.at_<j:=fun s hs=>by
 unfold S3 at hs;obtain⟨k,hk⟩:=q27.1 hs;rcases MU hk with⟨_,_,_,e,_⟩|⟨p,t,h1,h2,_⟩
 . cases e
 . have:=(q05.1 h2).1;rw[q69]at this;omega
theorem Pp(h:∀s∈l,s.at_<p):Br l p=l++[⟨p,false,false⟩]:=by
 unfold Br
 cases e:l.getLast? with
 |none=>simp
 |some s=>
  have:=h s (List.mem_of_getLast? e);rw[qZ9 Em]
theorem noteL_there{r s:Bool}:Br (l++[⟨p,r,s⟩]) p=l++[⟨p,r,s⟩]:=by
 unfold Br;rw[List.getLast?_concat];simp
def Ec(f:BFunc)(i:Nat)(cur:Nat->List Site):DR:=fun i' v=>if i'<i then I2 f v i' else if i'=i then cur v else []
theorem Re(f:BFunc)(i:Nat)(cur:Nat->List Site)(v:Nat):∀j,i<j->Ec f i cur j v=[]:=fun j hj=>by
 unfold Ec;rw[qZ9 Ab,qZ9 Ab]
theorem VZ(f:BFunc)(i:Nat)(cur:Nat->List Site)(v:Nat):Ec f i cur i v=cur v:=by
 unfold Ec;rw[qZ9 (Nat.lt_irrefl i),qK0 rfl]
theorem VY(f:BFunc)(i:Nat)(cur:Nat->List Site)(v:Nat)(l:List Site):Db (Ec f i cur) i v l=Ec f i (fun u=>if u=v then l else cur u):=funext fun a=>funext fun u=>by
 unfold Db Ec
 by_cases ha:a=i
 . subst ha;rw[qZ9 (Nat.lt_irrefl a),qK0 rfl,qZ9 (Nat.lt_irrefl a),qK0 rfl]
   by_cases hu:u=v
   . rw[qK0 ⟨rfl,hu⟩];exact(qK0 hu).symm
   . rw[qZ9 (fun e=>hu e.2)];exact(qZ9 hu).symm
 . rw[qZ9 (fun e=>ha e.1)]
   by_cases h2:a<i
   . rw[qK0 h2,qK0 h2]
   . rw[qZ9 h2,qZ9 h2,qZ9 ha,qZ9 ha]
variable {cur : Nat -> List Site}
theorem XJ(hx:f.blocks[i]?=some x)(h:∀v,cur v=Bj x v):Ec f i cur=Ec f (i+1) (fun _=>[]):=funext fun a=>funext fun u=>by
 unfold Ec
 by_cases ha:a=i
 . subst ha;rw[qZ9 (Nat.lt_irrefl a),qK0 rfl,qK0 (Nat.lt_succ_self a),h,Hg hx]
 . by_cases h2:a<i
   . rw[qK0 h2,qK0 Ab]
   . rw[qZ9 h2,qZ9 ha,qZ9 Ab];split<;>rfl
theorem pX:Ec f f.blocks.length (fun _=>[])=SB f:=funext fun a=>funext fun u=>by
 unfold Ec
 by_cases h:a<f.blocks.length
 . rw[qK0 h]
 . rw[qZ9 h];have:f.blocks[a]?=none:=q09.2 Ab;have e:I2 f u a=[]:=by unfold I2;rw[this];rfl
   show _=I2 f u a;rw[e];split<;>rfl
theorem Lc{cur':Nat->List Site}(h:∀v,cur v=cur' v):Ec f i cur=Ec f i cur':=by rw[funext h]
def BZ(x:Block)(j:Nat)(us:List Int)(v:Nat):List Site:=S3 x v j++(bif us.contains (v:Int)then [⟨j,true,false⟩]else [])
theorem Jl(x:Block)(j v:Nat):BZ x j [] v=S3 x v j:=by simp[BZ]
def flagR(l:List Site):List Site:=l.dropLast++(l.getLast?.map fun s=>(⟨s.at_,true,s.s⟩:Site)).toList
def flagS(l:List Site):List Site:=l.dropLast++(l.getLast?.map fun s=>(⟨s.at_,s.r,true⟩:Site)).toList
theorem JQ(l:List Site)(s:Site):flagR (l++[s])=l++[⟨s.at_,true,s.s⟩]:=by
 unfold flagR;rw[List.dropLast_concat,List.getLast?_concat];rfl
theorem Mp(l:List Site)(s:Site):flagS (l++[s])=l++[⟨s.at_,s.r,true⟩]:=by
 unfold flagS;rw[List.dropLast_concat,List.getLast?_concat];rfl
theorem t8:∃r,Br (BZ x j us v) j=S3 x v j++[⟨j,r,false⟩]/\r=us.contains (v:Int):=by
 unfold BZ
 cases e:us.contains (v:Int)with
 |true=>exact⟨true,noteL_there,rfl⟩
 |false=>
  refine⟨false,?_,rfl⟩;rw[qZ3,q91];exact Pp ku
variable {u : Int}
theorem eM(h:us[k]?=some u)(h0:0<=u)(v:Nat):(if v=u.toNat then flagR (Br (BZ x j (us.take k) u.toNat) j)else BZ x j (us.take k) v)=BZ x j (us.take (k+1)) v:=by
 have e:us.take (k+1)=us.take k++[u]:=by rw[q59,h];rfl
 by_cases hv:v=u.toNat
 . rw[qK0 hv];obtain⟨r,h1,_⟩:=t8 (x:=x) (j:=j) (v:=u.toNat) (us:=us.take k);rw[h1,JQ];unfold BZ;have:(us.take (k+1)).contains (v:Int)=true:=by
    rw[q31,e,q78,q47];right;omega
   rw[this,hv];rfl
 . rw[qZ9 hv];unfold BZ;have:(us.take (k+1)).contains (v:Int)=(us.take k).contains (v:Int):=by
    rw[Bool.eq_iff_iff,q31,q31,e,q78,q47];exact⟨fun h=>h.elim id fun e=>absurd (show v=u.toNat by omega) hv,.inl⟩
   rw[this]
theorem fm(ht:x.ins[j]?=some t)(h0:0<=t.sets)(v:Nat):(if v=t.sets.toNat then flagS (Br (BZ x j t.uses t.sets.toNat) j)else BZ x j t.uses v)=S3 x v (j+1):=by
 rw[QP ht]
 by_cases hv:v=t.sets.toNat
 . rw[qK0 hv];obtain⟨r,h1,h2⟩:=t8 (x:=x) (j:=j) (v:=t.sets.toNat) (us:=t.uses);rw[h1,Mp];have e:(t.sets==(v:Int))=true:=by rw[qZ4];omega
   rw[e,qX6,qZ7,h2,hv]
 . rw[qZ9 hv];exact sg
theorem XU(ht:x.ins[j]?=some t)(h0:¬0<=t.sets)(v:Nat):BZ x j t.uses v=S3 x v (j+1):=by
 rw[QP ht];exact sg
theorem gV(h:x.fin=2)(h0:0<=x.v)(v:Nat):(if v=x.v.toNat then flagR (Br (S3 x x.v.toNat x.ins.length) x.ins.length)else S3 x v x.ins.length)=Bj x v:=by
 rw[cG]
 by_cases hv:v=x.v.toNat
 . rw[qK0 hv,Pp ku,JQ];have:Ei x v=true:=by unfold Ei;rw[h];simp;omega
   rw[this,hv];rfl
 . rw[qZ9 hv];have:Ei x v=false:=by
    unfold Ei;have:(x.v==(v:Int))=false:=by rw[q40];omega
    rw[this,q97]
   rw[this,qZ3,q91]
theorem XV(h:¬x.fin=2)(v:Nat):S3 x v x.ins.length=Bj x v:=by
 rw[cG];have:Ei x v=false:=by unfold Ei;simp[h]
 rw[this,qZ3,q91]
theorem wC(h:∀c,A' c=if c=d then A c++[k]else A c):(AH (aR A) n).set (0+d) [Bo (4*d+0+16) ((A d).map Cg++[Cg k])]=AH (aR A') n:=by
 grind[Jm,DY,aR,AH,Bo,Cg]
theorem pV(hd:d<n)(h:∀c,A' c=if c=d then A c++[k]else A c)(x:Nat):F4 (VU n A') r1 r2 r3 x=if x=4*d+0 then BU 1 ((A d).map Cg++[Cg k])else F4 (VU n A) r1 r2 r3 x:=by
 have e:VU n A'=L5 (VU n A) d (BU 1 ((A' d).map Cg)):=HX hd fun c hc=>by rw[h,qZ9 hc]
 grind[Abz,F4,VU,BU,Cg]
theorem Ua(h:∀c,A c=A' c):VU n A=VU n A':=by rw[funext h]
theorem Aba(h:b<n):F4 (VU n A) r1 r2 r3 (4*b+0)=BU 1 ((A b).map Cg):=(AbB _ _ _ _ _).trans (FR h)
abbrev G0:GG:=fun _ _=>false
def S0:DR:=fun _ _=>[]
def gK(f:BFunc)(k:Nat):Nat->AV:=fun b=>if b<k then gR f b else .nil
theorem qE(f:BFunc)(n:Nat):List.replicate n [AV.nil]=AH (gK f 0) n:=by
 grind[Jn,DY,gK,AH]
theorem v7(f:BFunc):AH (gK f f.blocks.length) f.blocks.length=AH (gR f) f.blocks.length:=DY fun b hb=>by
 grind[gK,AH,gR]
theorem vZ(hm:Ia f k=m):(AH (gK f k) n).set (0+((k:Nat):Int).toNat) [.ref (4*k+1+16) m 0 m]=AH (gK f (k+1)) n:=by
 rw[qQ8,q55,Jm]
 grind[DY,gK,gR,Ia,AH]
variable {p : Nat -> Bool}
theorem E7(hp:∀x,p (x+16)=true)(f:BFunc)(k b:Nat):(gK f k b).avoid p=true:=by
 unfold gK;split
 . exact CG hp f b
 . rfl
theorem pU:F4 r0 (SY f k G) r2 r3 (4*k+1)=.free:=(AbA _ _ _ _ _).trans (L9 (qZ0 _))
theorem lw(hm:Ia f k=m)(x:Nat):F4 r0 (SY f (k+1) G0) r2 r3 x=if x=4*k+1 then .row true 1 (List.replicate m [AV.bool false])else F4 r0 (SY f k G0) r2 r3 x:=by
 unfold SY;rw[Kr,uq,hm];have:bC m (G0 k)=List.replicate m [AV.bool false]:=by
  show AH (fun _=>AV.bool false) m=_;exact(Jn _ _).symm
 rw[this]
theorem oc(R:Nat):List.replicate R [AV.bool false]=bC R (fun b=>decide (b<0)):=by
 show _=AH (fun b=>AV.bool (decide (b<0))) R;rw[Jn]
 grind
theorem mZ(n v:Nat):P4 S0 n v=[]:=by
 unfold P4;exact List.filter_eq_nil_iff.2 fun a _=>by simp[S0]
theorem Yr(n R v:Nat):LX n R S0 v=[]:=by unfold LX;rw[mZ];rfl
theorem qe(n R v:Nat):oR n R S0 v=Bo (4*v+2+16) []:=by unfold oR;rw[Yr]
theorem F4_start{x:Nat}:F4 (VU n (fun _=>[])) (SY f 0 G0) (Q6 n R S0) (PL R S0) x=.free:=by
 have e0:∀b,VU n (fun _=>[]) b=.free:=fun b=>by unfold VU DD;split<;>rfl
 have e1:∀b,SY f 0 G0 b=.free:=fun b=>by unfold SY DD;rw[qZ9 (Nat.not_lt_zero b)]
 have e2:∀b,Q6 n R S0 b=.free:=fun b=>by unfold Q6 DD;dsimp only;rw[Yr];split<;>rfl
 have e3:∀b,PL R S0 b=.free:=fun b=>rfl
 unfold F4;split
 . exact e0 _
 . split
   . exact e1 _
   . split
     . exact e2 _
     . exact e3 _
variable {S' : DR}
theorem m3(h:∀i,(S i v).length=(S' i v).length):P4 S n v=P4 S' n v:=by
 unfold P4
 grind
theorem Ys(h:∀i,(S i v).length=(S' i v).length):LX n R S v=LX n R S' v:=by
 unfold LX;rw[m3 h];refine q42 fun i _=>?_
 unfold Zb;rw[h i]
theorem qf(h:∀v i,(S i v).length=(S' i v).length):AH (oR n R S) R=AH (oR n R S') R:=DY fun v _=>by
 unfold oR;rw[Ys (h v)]
theorem lm(h:∀v i,(S i v).length=(S' i v).length):Q6 n R S=Q6 n R S':=by
 unfold Q6;congr 1;exact funext fun v=>by rw[Ys (h v)]
theorem TV(h:l'.length=l.length):∀v' i',(Db S i v l i' v').length=(Db S i v l' i' v').length:=fun v' i'=>by
 unfold Db;split
 . exact h.symm
 . rfl
theorem HJ:(flagR l).length=l.length:=by
 grind[JQ,flagR]
theorem OH:(flagS l).length=l.length:=by
 grind[Mp,flagS]
theorem pu(h:0<l.length):∃l' s,l=l'++[s]:=by
 rcases List.eq_nil_or_concat l with rfl|⟨l',s,rfl⟩
 . simp at h
 grind
theorem VA(h:0<l.length):∃s,l[l.length-1]?=some s/\(l.map IJ).set (l.length-1) [.int .i64 (s.at_:Int),.bool true,.bool s.s]=(flagR l).map IJ/\(l.map IJ).set (l.length-1) [.int .i64 (s.at_:Int),.bool s.r,.bool true]=(flagS l).map IJ:=by
 grind[pu,List.getElem?_append_right,JQ,IJ,Mp,flagR,flagS]
variable {q : List (List AV)}
theorem lh(hv:v<R)(hl:0<l'.length)(hq:q=l'.map IJ)(x:Nat):F4 r0 r1 r2 (PL R (Db S i v l')) x=if x=4*(v+R*i)+3 then .row true 3 q else F4 r0 r1 r2 (PL R (Db S i v l)) x:=by
 have e:PL R (Db S i v l')=L5 (PL R (Db S i v l)) (v+R*i) (.row true 3 q):=by
  rw[<-VR hv,<-VR hv];refine funext fun m=>?_
  unfold fM L5;split
  . rw[hq,PS hl]
  . rfl
 rw[e,um]
theorem R7(hv:v<R)(hl:0<l.length):F4 r0 r1 r2 (PL R (Db S i v l)) (4*(v+R*i)+3)=.row true 3 (l.map IJ):=by
 rw[T7 hv,I3,PS hl]
theorem cF(x:Block)(v:Nat):∀j,(S3 x v j).length<=j
 |0=>by rw[Xh];exact qZ0 _
 |j+1=>by
  have ih:=cF x v j
  cases e:x.ins[j]? with
  |none=>
   have:S3 x v (j+1)=S3 x v j:=by
    have:=q09.1 e;unfold S3;rw[q20 Ab,q20 this]
   rw[this];omega
  |some t=>
   rw[QP e,q48]
   cases t.uses.contains (v:Int)||t.sets==(v:Int)<;>simp<;>omega
theorem nJ(x:Block)(j:Nat)(us:List Int)(v:Nat):(BZ x j us v).length<=j+1:=by
 grind[BZ,cF,List.length_append]
theorem fQ(f:BFunc):S0=Ec f 0 (fun _=>[]):=funext fun a=>funext fun u=>by
 grind[Ec,S0]
theorem Ud(f:BFunc)(k:Nat)(x:Block):Ec f k (fun _=>[])=Ec f k (BZ x 0 []):=Lc fun v=>by rw[Jl,Xh]
abbrev wO(f:BFunc)(R:Nat):List AV:=[.int .i64 f.regs,BK f.blocks,Ax f.nexts,.ref 3 f.blocks.length 0 f.blocks.length,.ref 4 R 0 R,.ref 5 f.blocks.length 0 f.blocks.length,.nil,.nil]
abbrev ou(f:BFunc)(R:Nat)(S:DR)(k:Nat):List AObj:=[.row false 8 [wO f R],.row false 1 (AH (aR (AM f)) f.blocks.length),.row false 1 (AH (oR f.blocks.length R S) R),.row false 1 (AH (gK f k) f.blocks.length),.free,.free]
abbrev iJ(f:BFunc)(R:Nat)(S:DR)(k:Nat):Nat->AObj:=F4 (VU f.blocks.length (AM f)) (SY f k G0) (Q6 f.blocks.length R S) (PL R S)
theorem HM(f:BFunc)(R:Nat)(S:DR)(k:Nat):∀o∈ou f R S k,o.avoid kD=true:=fun o ho=>by
 simp only[ou,q99,List.not_mem_nil,or_false]at ho;rcases ho with rfl|rfl|rfl|rfl|rfl|rfl
 . rfl
 . exact Ak (fun b _=>Bz Dv _ _)
 . exact Ak (fun b _=>Bm Dv _ _ _ _)
 . exact Ak (fun b _=>E7 Dv _ _ _)
 . rfl
 . rfl
theorem Ek(hp:∀x,p (x+16)=true)(f:BFunc)(R:Nat)(S:DR)(k x:Nat):(iJ f R S k x).avoid p=true:=NM (fun _=>La _) (fun _=>K9 _) (fun _=>K8 hp _) (fun _=>K7 _) x
variable {S2 : DR}
theorem WE(hv:v<R)(hl:l'.length=l.length)(h0:0<l.length)(hS:S2=Db S i v l')(hq:q=l'.map IJ)(x:Nat):
 iJ f R S2 k x=if x=4*(v+R*i)+3 then .row true 3 q else iJ f R (Db S i v l) k x:=by
 subst hS;have e:Q6 f.blocks.length R (Db S i v l')=Q6 f.blocks.length R (Db S i v l):=lm (TV hl.symm);show F4 _ _ (Q6 f.blocks.length R (Db S i v l')) _ x=_;rw[e];exact lh hv Ab hq x
theorem Ly(hl:l'.length=l.length)(hS:S2=Db S i v l'):AH (oR n R (Db S i v l)) R=AH (oR n R S2) R:=by
 subst hS;exact qf (TV hl)
variable {q : Nat}
theorem ah(h:us[q]?=some u)(h0:0<=u):Ec f k (BZ x j (us.take (q+1)))=Db (Ec f k (BZ x j (us.take q))) k u.toNat (flagR (Br (Ec f k (BZ x j (us.take q)) k u.toNat) j)):=by
 rw[VZ,VY];exact Lc fun v=>(eM h h0 v).symm
theorem ai(ht:x.ins[j]?=some t)(h0:0<=t.sets):Ec f k (BZ x (j+1) [])=Db (Ec f k (BZ x j t.uses)) k t.sets.toNat (flagS (Br (Ec f k (BZ x j t.uses) k t.sets.toNat) j)):=by
 rw[VZ,VY]
 grind[Lc,Jl,fm,Ec,BZ,Db,flagS,Br]
theorem XH(ht:x.ins[j]?=some t)(h0:¬0<=t.sets):Ec f k (BZ x j t.uses)=Ec f k (BZ x (j+1) []):=Lc fun v=>by
 rw[Jl];exact XU ht h0 v
theorem ap(hx:f.blocks[k]?=some x)(h:x.fin=2)(h0:0<=x.v):Ec f (k+1) (fun _=>[])=Db (Ec f k (BZ x x.ins.length [])) k x.v.toNat (flagR (Br (Ec f k (BZ x x.ins.length []) k x.v.toNat) x.ins.length)):=by
 rw[VZ,VY,Jl]
 grind[XJ,Jl,gV,Ec,Db,BZ,flagR,Br]
theorem XI(hx:f.blocks[k]?=some x)(h:¬x.fin=2):Ec f k (BZ x x.ins.length [])=Ec f (k+1) (fun _=>[]):=XJ hx fun v=>by rw[Jl];exact XV h v
theorem aj(hj:j<=100000):(Ec f k (BZ x j us) k v).length<=1000000:=by
 grind[VZ,nJ,Ec,BZ]
def M9(κ:Nat->Bool)(h g:Aj):Aj:=fun c=>bif κ c then g c else h c
variable {g : Aj} {κ : Nat -> Bool}
theorem M8(hc:κ c=true):M9 κ h g c=g c:=by unfold M9;rw[hc];rfl
theorem cW(hc:κ c=false):M9 κ h g c=h c:=by unfold M9;rw[hc];rfl
variable {W : Aj}
theorem XE(hH:∀b,κ b=true->h b=W b):HSub (M9 κ hNone W) h:=fun c o ho=>by
 cases e:κ c with
 |true=>rw[M8 e]at ho;rw[hH c e];exact ho
 |false=>rw[cW e]at ho;cases ho
theorem R4(hH:∀b,κ b=true->h b=W b)(hN:∀b,κ b=false->W b=some .free):FE h κ=W:=funext fun b=>by
 unfold FE
 cases e:κ b with
 |true=>rw[qZ7];exact hH b e
 |false=>rw[qZ3];exact(hN b e).symm
variable {f : FuncId}
theorem mb(κ:Nat->Bool)(ho:o.op=.call {callee:=.value (.func f),args:=args,argTypes:=tys})(hf:P.funcs[f]?=some fn)(hnm:(fn.name== "runtime.NumGoroutine")=false)(hb:fn.body.isSome=true)
 (hx:BA e args.toList=some xs) (hxa:xs.all (AV.avoid κ)=true) (hH:∀b,κ b=true->h b=W b) (hA:∀b,κ b=true->∃q,W b=some q/\q.avoid κ=true) (hN:∀b,κ b=false->W b=some .free) (hra:r.avoid κ=true)
 (hcall:ACall P f xs W (fun r' h'=>r'=r/\HSub (M9 κ hNone W) h')):PI P o e h h r:=
 Nh (hw:=M9 κ hNone W) κ ho hf hnm hb hx hxa jr (R4 hH hN) (fun _ _=>rfl)
  xY hra hcall
theorem ma{W':Aj}(κ:Nat->Bool)(ho:o.op=.call {callee:=.value (.func f),args:=args,argTypes:=tys})(hf:P.funcs[f]?=some fn)(hnm:(fn.name== "runtime.NumGoroutine")=false)(hb:fn.body.isSome=true)
 (hx:BA e args.toList=some xs) (hxa:xs.all (AV.avoid κ)=true) (hH:∀b,κ b=true->h b=W b) (hA:∀b,κ b=true->∃q,W b=some q/\q.avoid κ=true) (hN:∀b,κ b=false->W b=some .free) (hA':∀b,κ b=true->∃q,W' b=some q/\q.avoid κ=true) (hra:r.avoid κ=true)
 (hcall:ACall P f xs W (fun r' h'=>r'=r/\HSub (M9 κ hNone W') h')):PI P o e h (M9 κ h W') r:=
 Nh (hw:=M9 κ hNone W') κ ho hf hnm hb hx hxa jr (R4 hH hN) (fun _ hb=>cW hb)
  (fun b hb=>by obtain⟨q,q1,q2⟩:=hA' b hb;exact⟨q,(M8 hb).trans q1,(M8 hb).trans q1,q2⟩) hra hcall
theorem md{x:Operand}{fs:List AV}{hc hw hn:Aj}(κ:Nat->Bool)(ho:o.op=.call {callee:=.value x,args:=args,argTypes:=tys})(hfn:At e x=some (.fn (.func f) fs cs))(hf:P.funcs[f]?=some fn)(hnm:(fn.name== "runtime.NumGoroutine")=false)(hb:fn.body.isSome=true)
 (hx:BA e args.toList=some xs) (hxa:(fs++xs++cs).all (AV.avoid κ)=true) (hL:∀b,κ b=true->∃q,h b=some q/\q.avoid κ=true) (hres':FE h κ=hc) (hW:∀b,κ b=false->hn b=h b)
 (hk:∀b,κ b=true->∃q,hw b=some q/\hn b=some q/\q.avoid κ=true) (hra:r.avoid κ=true)
 (hcall:ACall P f (fs++xs++cs) hc (fun r' h'=>r'=r/\HSub hw h')):PI P o e h hn r:=by
 intro H ι a w n Q hs;have hvf:=Aw hs hfn;obtain⟨us,vs,hve,k1,k2,k3,k4⟩:=hvf.fn_inv;have hraa:=FB (FB ⟨k1,k3⟩ (DW hs hx)) ⟨k2,k4⟩;have hra':RelAll H (DO ι κ) (fs++xs++cs) (us++args.map a.eval++vs):=⟨hraa.1,fun j x v h1 h2=>Fo (hraa.2 j x v h1 h2) (Gz hxa h1)⟩;have hrc:HeapRel H (DO ι κ) (FE h κ) w:=by
  exact xn
 have hcalls:=hcall H (DO ι κ) w _ hra' (hres'▸hrc);have hexec:(execOp a.eval o).run P w=.ok (.enter f (us++args.map a.eval++vs)) w:=by
  simp only[execOp,ho,resolve,hve,Deferred.ofValue,invoke,qQ9,qX1,q57,DL hf hnm hb]
 exact xg
theorem mc{x:Operand}{fs:List AV}(κ:Nat->Bool)(ho:o.op=.call {callee:=.value x,args:=args,argTypes:=tys})(hfn:At e x=some (.fn (.func f) fs cs))(hf:P.funcs[f]?=some fn)(hnm:(fn.name== "runtime.NumGoroutine")=false)(hb:fn.body.isSome=true)
 (hx:BA e args.toList=some xs) (hxa:(fs++xs++cs).all (AV.avoid κ)=true) (hH:∀b,κ b=true->h b=W b) (hA:∀b,κ b=true->∃q,W b=some q/\q.avoid κ=true) (hN:∀b,κ b=false->W b=some .free) (hra:r.avoid κ=true)
 (hcall:ACall P f (fs++xs++cs) W (fun r' h'=>r'=r/\HSub (M9 κ hNone W) h')):PI P o e h h r:=
 md (hw:=M9 κ hNone W) κ ho hfn hf hnm hb hx hxa jr (R4 hH hN) (fun _ _=>rfl)
  xY hra hcall
def kW:Nat->Bool:=fun c=>(Nat.ble 2 c&&Nat.blt c 9)||(Nat.beq c 12||Nat.ble 16 c)
theorem Yf(x:Nat):kW (x+16)=true:=by
 unfold kW;rw[show Nat.ble 16 (x+16)=true by rw[qZ5];omega];simp
theorem mK(h:c<16):c=0\/c=1\/c=2\/c=3\/c=4\/c=5\/c=6\/c=7\/c=8\/c=9\/c=10\/c=11\/c=12\/c=13\/c=14\/c=15:=by omega
abbrev WH(r2 r3 r4 r5 r6 r7 A B:AObj)(F:Nat->AObj):Aj:=Jq (nb [.free,.free,r2,r3,r4,r5,r6,r7,A,.free,.free,.free,B]) F
theorem dT{r2 r3 r4 r5 r6 r7 A B:AObj}:∀b,kW b=false->WH r2 r3 r4 r5 r6 r7 A B F b=some .free:=fun b hb=>by
 rcases qX4 b 16 with h|h
 . rcases mK h with rfl|rfl|rfl|rfl|rfl|rfl|rfl|rfl|rfl|rfl|rfl|rfl|rfl|rfl|rfl|rfl<;>first|rfl|(exact absurd hb Al)
 . obtain⟨x,rfl⟩:∃x,b=x+16:=⟨b-16,by omega⟩
   rw[Yf]at hb;cases hb
theorem oh{r2 r3 r4 r5 r6 r7 A B:AObj}(h2:r2.avoid kW=true)(h3:r3.avoid kW=true)(h4:r4.avoid kW=true)(h5:r5.avoid kW=true)(h6:r6.avoid kW=true)(h7:r7.avoid kW=true)(hA:A.avoid kW=true)(hB:B.avoid kW=true)(hF:∀x,(F x).avoid kW=true):
 ∀b,kW b=true->∃q,WH r2 r3 r4 r5 r6 r7 A B F b=some q/\q.avoid kW=true:=fun b hb=>by
 rcases qX4 b 16 with h|h
 . rcases mK h with rfl|rfl|rfl|rfl|rfl|rfl|rfl|rfl|rfl|rfl|rfl|rfl|rfl|rfl|rfl|rfl<;>first|exact absurd hb Al|exact⟨_,rfl,h2⟩|exact⟨_,rfl,h3⟩|exact⟨_,rfl,h4⟩|exact⟨_,rfl,h5⟩|exact⟨_,rfl,h6⟩|exact⟨_,rfl,h7⟩|exact⟨_,rfl,hA⟩|exact⟨_,rfl,hB⟩
 . obtain⟨x,rfl⟩:∃x,b=x+16:=⟨b-16,by omega⟩
   exact⟨_,Ay _ _ _,hF x⟩
theorem dS{r2 r3 r4 r5 r6 r7 A B:AObj}(h2:h 2=some r2)(h3:h 3=some r3)(h4:h 4=some r4)(h5:h 5=some r5)(h6:h 6=some r6)(h7:h 7=some r7)(hA:h 8=some A)(hB:h 12=some B)(hF:∀x,h (x+16)=some (F x)):
 ∀b,kW b=true->h b=WH r2 r3 r4 r5 r6 r7 A B F b:=fun b hb=>by
 rcases qX4 b 16 with g|g
 . rcases mK g with rfl|rfl|rfl|rfl|rfl|rfl|rfl|rfl|rfl|rfl|rfl|rfl|rfl|rfl|rfl|rfl<;>first|exact absurd hb Al|exact h2|exact h3|exact h4|exact h5|exact h6|exact h7|exact hA|exact hB
 . obtain⟨x,rfl⟩:∃x,b=x+16:=⟨b-16,by omega⟩
   exact(hF x).trans (Ay _ _ _).symm
abbrev ArW:AObj:=.row false 1 [[.ptr 2 1 0 0]]
abbrev BrW(i:Nat):AObj:=.row false 1 [[.int .i64 (i:Int)]]
abbrev WS(f:BFunc)(R:Nat)(S:DR)(G:GG)(es:List (List AV))(len:Nat)(w:Nat->Bool)(i:Nat):Aj:=
  WH (.row false 8 [WO f R es.length len]) (.row false 1 (AH (aR (AM f)) f.blocks.length)) (.row false 1 (AH (oR f.blocks.length R S) R)) (.row false 1 (AH (gR f) f.blocks.length)) (.row true 1 es) (.row true 1 (bC R w)) ArW (BrW i) (DF f R S G)
theorem YX(f:BFunc)(R:Nat)(S:DR)(G:GG)(es:List (List AV))(len:Nat)(w:Nat->Bool)(i:Nat):∀b,kW b=true->∃q,WS f R S G es len w i b=some q/\q.avoid kW=true:=
 oh rfl (Ak (fun b _=>Bz Yf _ _)) (Ak (fun b _=>Bm Yf _ _ _ _)) (Ak (fun b _=>CG Yf _ _)) rfl rfl rfl rfl (Bw Yf f R S G)
variable {l : List Tac} {G : Nat -> Bool}
theorem X5(h:l[j]?=some t):FJ G (l.take (j+1)) 0=FJ G (l.take j) 0++(bif G j then []else [t]):=by
 have hj:=(q05.1 h).1;have e:l.take (j+1)=l.take j++[t]:=by rw[q59,h];rfl
 grind[V8,FJ]
theorem X8(h:l[j]?=some t)(hg:G j=true):FJ G (l.take (j+1)) 0=FJ G (l.take j) 0:=by rw[X5 h,hg];simp
theorem X7(h:l[j]?=some t)(hg:G j=false):(FJ G (l.take j) 0).map Tac.cells++[t.cells]=(FJ G (l.take (j+1)) 0).map Tac.cells:=by rw[X5 h,hg,q77];rfl
variable {f : BFunc}
theorem nH{G:GG}(h:∀x∈f.blocks,x.ins.length<=m):∀x∈(Dh f G).blocks,x.ins.length<=m:=fun y hy=>by
 obtain⟨b,hb⟩:=q27.1 hy;obtain⟨x,hx,rfl⟩:=P9 hb;exact qX2 (P1 (G b) x.ins 0) (h x (q33 hx))
theorem pH:some (AObj.row false 8 [WO f R ((List.range R).map Cg).length R])=some (AObj.row false 8 [WO f R (wM R).es.length (wM R).ws.length]):=by
 show some (AObj.row false 8 [WO f R ((List.range R).map Cg).length R])=some (AObj.row false 8 [WO f R ((List.range R).map Cg).length (List.range R).length]);rw[List.length_range]
theorem mg{r:Int}(h:x.ends n r=true):∀d∈x.nexts,0<=d/\d<n:=fun d hd=>by
 unfold Block.ends at h;unfold Block.nexts at hd
 cases e1:x.fin==1 with
 |true=>
  rw[e1]at h hd;simp[A2]at h hd;omega
 |false=>
  cases e2:x.fin==2 with
  |true=>
   rw[e1,e2]at h hd;simp[A2]at h hd;omega
  |false=>
   rw[e1,e2]at hd;simp at hd
theorem Rh{n w:Int}(h:f.one n w=true):f.sane:=by
 obtain⟨h1,h2,h3,h4⟩:=CR h;refine⟨h1,fun x hx t ht=>R8 ((h4 x hx).2 t ht),fun x hx e=>?_,fun x hx=>mg (h4 x hx).1⟩;have he:=(h4 x hx).1;unfold Block.ends at he;rw[e]at he;simp[A2]at he;omega
variable {b : Blocks}
theorem nA(h:b.insW):b.dnf.insW:=fun g hg x hx=>by
 obtain⟨f,hf,rfl⟩:=qX3.1 hg;have key:∀{f g:BFunc},Cuts f g->(∀x∈f.blocks,Sv.GL x.ins)->∀x∈g.blocks,Sv.GL x.ins:=fun {f g} hc=>by
  induction hc with
  |refl=>exact fun h=>h
  |step a _ ih=>
   intro h;refine ih fun y hy=>?_
   obtain⟨c,x,l1,t,l2,v,ha⟩:=a;rw[ha.hg]at hy;rcases q08 hy with hy|rfl
   . exact h y hy
   . have:=h x (q33 ha.hx);rw[ha.hi]at this;intro t ht;refine this t ?_;rcases q78.1 (show t∈l1++l2 from ht)with h|h
     . exact q78.2 (.inl h)
     . exact q78.2 (.inr (q99.2 (.inr h)))
 exact key (Hb f) (h f hf) x hx
theorem kg(h:f.tame)(hx:x∈f.tidy.blocks):∃p,oJ f.blocks.length p/\p.length<=f.blocks.length+1/\x.ins=f.joined p:=by
 simp only[BFunc.tidy,qX3]at hx;obtain⟨p,hp,rfl⟩:=hx;exact⟨p,Ku h.leads _ (qZ0 _) p hp,FT _ p hp,rfl⟩
theorem eX(h:f.tame)(hw:∀x∈f.blocks,Sv.GL x.ins):∀x∈f.tidy.blocks,Sv.GL x.ins:=fun x hx t ht=>by
 obtain⟨p,h1,h2,h3⟩:=kg h hx;rw[h3]at ht;obtain⟨i,hi,hti⟩:=RF ht;exact hw _ (q33 (Bp (h1.2 i hi))) t hti
noncomputable def Cj(f:BFunc)(k:Int):OPass:=bif k==1 then⟨1,f.all,[],f.fold⟩else bif k==2 then⟨2,f.fcert,[],f.forward⟩else bif k==3 then⟨3,⟨Fx (NP f)⟩,[],NP f⟩else⟨4,⟨[]⟩,f.tpaths,f.tidy⟩
structure PS35(n w:Int)(f:BFunc):Prop where
  one:f.one n w=true
  r:f.regs<=30
  c:f.count<=200
  i:∀x∈f.blocks,GL x.ins
variable {n w : Int}
theorem PS35.len(h:PS35 n w f):f.blocks.length<=200/\∀x∈f.blocks,x.ins.length<=200:=by
 have hc:=h.c;exact r9
theorem PS35.mild(h:PS35 n w f):f.mild:=by
 obtain⟨h1,h2,h3,h4⟩:=CR h.one;have hl:=h.len;exact⟨h1,by omega,by omega,fun x hx=>⟨by have:=hl.2 x hx;omega,h.i x hx⟩⟩
theorem PS35.tame(h:PS35 n w f):f.tame:=by
 have hle:=HD h.one;have hl:=h.len;exact⟨by omega,fun x hx=>by have:=hl.2 x hx;omega,hle,fun k hk=>UR hle hk⟩
theorem g6(f:BFunc):(NP f).count<=f.count:=by
 have key:∀{f g:BFunc},Cuts f g->g.count<=f.count:=fun {f g} hc=>by
  induction hc with
  |refl=>exact qZ0 _
  | @step f g h a b ih=>
   have h1:=IB a;have h2:=(KN (Cuts.one a)).2;have h3:=F2 f;have h4:=F2 g;have h5:Eu f.blocks=mN f:=rfl;have h6:Eu g.blocks=mN g:=rfl;omega
 exact key (Hb f)
theorem aZ(f:BFunc):f.fold.count=f.count:=by
 show((f.blocks.map _).map Block.count).sum=_;rw[List.map_map];exact congrArg List.sum (q42 fun x _=>by show 1+(D4 [] x.ins).length=1+x.ins.length;rw[Cs])
theorem PS35.step(h:PS35 n w f)(k:Int):PS35 n w (Cj f k).f:=by
 have hle:=HD h.one;have hne:=(CR h.one).2.2.1;unfold Cj
 cases k==1 with
 |true=>exact⟨XP h.one,h.r,by show f.fold.count<=200;rw[aZ];exact h.c,fun x hx=>((gH h.mild).2.2.2 x hx).2⟩
 |false=>
 cases k==2 with
 |true=>exact⟨Po h.one,h.r,by show f.forward.count<=200;rw[Td];exact h.c,fun x hx=>by
  obtain⟨y,hy,rfl⟩:=qX3.1 (show x∈f.blocks.map _ from hx);exact UV _ _ (h.i y hy)⟩
 |false=>
 cases k==3 with
 |true=>exact⟨dM h.one,by show(NP f).regs<=30;rw[(KN (Hb f)).1];exact h.r,qX2 (g6 f) h.c,fun x hx=>nA (b:=⟨0,[f]⟩) (fun g hg=>by rw[q47.1 hg];exact h.i) (NP f) (by simp[Blocks.dnf]) x hx⟩
 |false=>exact⟨p7 (L6 hle hne) h.one,h.r,qX2 (ZC hle) h.c,eX h.tame h.i⟩
variable {call call' : Int -> Mach -> Mach} {s : ByteArray}
theorem RZ:∀(l:List Tac) (regs:List Int) (m:Mach),(BT call s l regs m).2.1.length=regs.length
 | [],_,_=>rfl
 |t::r,regs,m=>by
  unfold BT
  cases (Bb call s t regs m).2.fin==0 with
  |false=>exact Ry t regs m
  |true=>exact(RZ r _ _).trans (Ry t regs m)
theorem UF:∀(l:List Tac) (K:Di) (regs:List Int) (m:Mach),(∀t∈l,setsOp t.op=true->0<=t.d/\t.d<regs.length)->dr K regs->GC K->BT call s (D4 K l) regs m=BT call s l regs m
 | [],_,_,_,_,_,_=>rfl
 |t::r,K,regs,m,hl,hk,hu=>by
  have h1:=aI (call:=call) (s:=s) hk t m;have hkn:=aO (call:=call) (s:=s) hk hu (u:=Dm K t) (fun h=>by rw[dG];exact hl t Aq (JO h)) m;rw[h1]at hkn;simp only[D4,BT,h1];rw[UF r (Hv K (Dm K t)) _ _ (fun u hu' hs=>by rw[Ry];exact hl u (by simp[hu']) hs) hkn (Pb hu _)]
theorem UI{f:BFunc}(hf:∀x∈f.blocks,∀t∈x.ins,setsOp t.op=true->0<=t.d/\t.d<f.regs.toNat):∀(g:Nat) (i:Int) (regs:List Int) (m:Mach),regs.length=f.regs.toNat->kblk call s f.fold g i regs m=kblk call s f g i regs m
 |0,_,_,_,_=>rfl
 |g+1,i,regs,m,hr=>by
  have e:f.fold.blocks[i.toNat]?=(f.blocks[i.toNat]?).map Block.fold:=by simp[BFunc.fold]
  cases hk:f.blocks[i.toNat]? with
  |none=>unfold kblk;rw[e,hk];rfl
  |some k=>
   have hm:BT call s k.fold.ins regs m.tick=BT call s k.ins regs m.tick:=UF k.ins [] regs m.tick (fun t ht hs=>by rw[hr];exact hf k (q33 hk) t ht hs) (fun z v h=>by cases h) (by simp[GC]);rw[Gn hk,Gn (k:=k.fold) (by rw[e,hk];rfl),hm];have ih:=UI hf g (k.next (BT call s k.ins regs m.tick).2.1) (BT call s k.ins regs m.tick).2.1 (BT call s k.ins regs m.tick).2.2 (by rw[RZ];exact hr);unfold Hp;rw[show k.fold.fin=k.fin from rfl,show k.fold.next (BT call s k.ins regs m.tick).2.1=k.next (BT call s k.ins regs m.tick).2.1 from rfl,ih]
def re(R:Nat)(fr regs:List Int):Prop:=regs.length=R/\∀v:Int,0<=v->v<R->Ai regs v=Ai regs (Ai fr v)
variable {regs : List Int}
theorem wa(h:regs.length=R):re R (LV R) regs:=⟨h,fun v h0 h1=>by
 obtain⟨u,rfl⟩:∃u:Nat,v=u:=⟨v.toNat,by omega⟩
 rw[JK Ab]⟩
variable {fr : List Int}
theorem mw(h:re R fr regs)(ht:bE R t)(m:Mach):Bb call s (subT fr t) regs m=Bb call s t regs m:=by
 unfold subT
 cases e1:use1 t.op with
 |true=>
  have ha:=ht.u1 e1;simp only[qZ7];unfold Bb;dsimp only;rw[<-h.2 t.a ha.1 ha.2]
 |false=>
  cases e2:use2 t.op with
  |true=>
   obtain⟨ha,hb⟩:=ht.u2 e2;simp only[qZ7,qZ3];unfold Bb;dsimp only;rw[<-h.2 t.a ha.1 ha.2,<-h.2 t.b hb.1 hb.2]
  |false=>rfl
variable {m : Mach}
theorem m8(h:re R fr regs)(hr:NL R fr)(ht:bE R t)(h0:(Bb call s t regs m).2.fin=0):re R (DZ fr t) (Bb call s t regs m).1:=by
 obtain⟨_,hm⟩:=XX (call:=call) (s:=s) t (r:=regs) (r':=regs) (fun _=>rfl) (fun _=>rfl) m;rcases hm with⟨hs,v,hv,_⟩|⟨hv,_,hs⟩
 . have hd:=ht.d hs;have hsd:t.sets=t.d:=by unfold Tac.sets;rw[hs];rfl
   have hlt:t.d<regs.length:=by rw[h.1];exact hd.2
   have main:re R (CX t.sets fr) (Bb call s t regs m).1:=by
    rw[hv,hsd];refine⟨by rw[Ea];exact h.1,fun u u0 u1=>?_⟩;obtain⟨w,rfl⟩:∃w:Nat,u=w:=⟨u.toNat,by omega⟩
    rw[DV (by rw[hr.len];omega)]
    cases e:((w:Int)==t.d||Ai fr w==t.d)with
    |true=>rfl
    |false=>
     simp only[q38,q40]at e;simp only[qZ3];rw[Ff hd.1 u0 e.1,Ff hd.1 (hr.ran w u0 u1).1 e.2];exact h.2 w u0 u1
   unfold DZ;rw[show decide (t.sets>=0)=true by rw[hsd];simpa using hd.1]
   cases e2:(t.op==2&&t.a !=t.sets)with
   |false=>exact main
   |true=>
    simp only[q66,qZ4,bne_iff_ne]at e2;simp only[qZ7];have ha:=ht.u1 (by rw[e2.1];rfl);have hval:(Bb call s t regs m).1=A4 regs t.d (Ai regs t.a):=by unfold Bb;rw[e2.1];rfl
    refine⟨main.1,fun u u0 u1=>?_⟩;rw[hsd]at e2 main|-
    by_cases e:u=t.d
    . subst e;rw[Jw ⟨u0,by rw[DU,hr.len];exact u1⟩,hval,Jw ⟨u0,hlt⟩,Ff u0 ha.1 e2.2]
    . rw[Ff hd.1 u0 e];exact main.2 u u0 u1
 grind[Tac.sets,DZ,re,Bb]
theorem Ya{n w:Int}{R:Nat}:∀(l:List Tac) (fr regs:List Int) (m:Mach),NL R fr->re R fr regs->(∀t∈l,t.fits n R w=true)->
 BT call s (D1 fr l).1 regs m=BT call s l regs m/\((BT call s l regs m).1=true->re R (D1 fr l).2 (BT call s l regs m).2.1)
 | [],_,_,_,_,h,_=>⟨rfl,fun _=>h⟩
 |t::r,fr,regs,m,hr,h,hl=>by
  have ht:=hl t Aq;have hsub:=Vw hr ht;have h1:=mw (call:=call) (s:=s) h (HK ht) m;show BT call s (subT fr t::(D1 (DZ fr (subT fr t)) r).1) regs m=_/\(_->re R (D1 (DZ fr (subT fr t)) r).2 _);unfold BT;rw[h1]
  cases hf:(Bb call s t regs m).2.fin==0 with
  |false=>exact⟨rfl,fun e=>by cases e⟩
  |true=>
   have hn:=m8 (call:=call) (s:=s) h hr (HK hsub) (m:=m) (by rw[h1];simpa using hf);rw[h1]at hn;exact Ya r _ _ _ (Oa hr hsub) hn fun u hu=>hl u IR
theorem Yd{n w:Int}{f:BFunc}{R:Nat}(hR:f.regs=(R:Int))(hf:∀x∈f.blocks,(x.fin=2->0<=x.v/\x.v<R)/\∀t∈x.ins,t.fits n R w=true):∀(g:Nat) (i:Int) (regs:List Int) (m:Mach),regs.length=R->kblk call s f.forward g i regs m=kblk call s f g i regs m
 |0,_,_,_,_=>rfl
 |g+1,i,regs,m,hr=>by
  have e:f.forward.blocks[i.toNat]?=(f.blocks[i.toNat]?).map (Block.forward R):=by
   show(f.blocks.map _)[i.toNat]?=_;rw[q54,hR];rfl
  cases hk:f.blocks[i.toNat]? with
  |none=>unfold kblk;rw[e,hk];rfl
  |some k=>
   obtain⟨hv,hi⟩:=hf k (q33 hk);obtain⟨hm,ha⟩:=Ya (call:=call) (s:=s) k.ins (LV R) regs m.tick (VQ R) (wa hr) hi;rw[Gn hk,Gn (k:=k.forward R) (by rw[e,hk];rfl)];show(bif (BT call s (D1 (LV R) k.ins).1 regs m.tick).1 then Hp call s f.forward (k.forward R) g (BT call s (D1 (LV R) k.ins).1 regs m.tick).2.1 (BT call s (D1 (LV R) k.ins).1 regs m.tick).2.2 else(BT call s (D1 (LV R) k.ins).1 regs m.tick).2.2)=_;rw[hm]
   cases hc:(BT call s k.ins regs m.tick).1 with
   |false=>rfl
   |true=>
    simp only[qZ7];have ha':=ha hc;unfold Hp;have hnx:(k.forward R).next (BT call s k.ins regs m.tick).2.1=k.next (BT call s k.ins regs m.tick).2.1:=by
     unfold Block.next Block.forward;dsimp only
     cases e2:k.fin==2 with
     |false=>rfl
     |true=>
      have hz:=hv (by simpa using e2);simp only[qZ7,qQ5];rw[<-ha'.2 k.v hz.1 hz.2]
    rw[hnx,Yd hR hf g _ _ _ (by rw[RZ];exact hr)];rfl
theorem Lm(hc:E9 call call' oI){z:Nat->Bool}:∀(l:List Tac),(∀t∈l,t.low)->∀{a b:List Int} {m m':Mach},GQ (fun v=>need v l (z v)) a b->m.fin=0->m.Le m'->Np z (BT call s l a m) (BT call' s l b m')
 | [],_,a,b,m,m',ha,h0,h=>.inr ⟨rfl,h,fun _=>⟨h0,ha⟩,fun e=>by cases e⟩
 |t::r,hl,a,b,m,m',ha,h0,h=>by
  unfold BT;obtain⟨b2,b1⟩:=gc (s:=s) hc (fun _=>trivial) (hl t Aq) ha h0 h;rcases b2 with b2|b2
  . rw[show((Bb call s t a m).2.fin==0)=false by rw[b2];rfl];exact .inl ⟨rfl,b2⟩
  . rw[b2.fin]
    cases hf:(Bb call s t a m).2.fin==0 with
    |false=>
     simp only[qZ3];exact .inr ⟨rfl,b2,Ti,fun _=>by simpa using hf⟩
    |true=>
     simp only[qZ7];exact Lm hc r (fun u hu=>hl u IR) (b1 (by simpa using hf)) (by simpa using hf) b2
theorem mI(hc:E9 call call' oI){z:Nat->Bool}(hl:∀u∈l1++t::l2,u.low)(hp:t.pure=true)(hk:t.op=3->4<=t.k/\t.k<=15)(hv:t.sets=(v:Int))(hd:need v l2 (z v)=false)
 {a b:List Int} {m':Mach} (ha:GQ (fun v=>need v (l1++t::l2) (z v)) a b) (h0:m.fin=0) (h:m.Le m'):Np z (BT call s (l1++t::l2) a m) (BT call' s (l1++l2) b m'):=by
 have h1:=Lm (s:=s) hc (z:=fun v=>need v (t::l2) (z v)) l1 (fun u hu=>hl u IR) (a:=a) (b:=b) ⟨ha.1,fun w hw=>ha.2 w (by show need w _ _=true;rw[Kx];exact hw)⟩ h0 h;rw[Iy,Iy];generalize BT call s l1 a m=X at h1|-;generalize BT call' s l1 b m'=Y at h1|-;obtain⟨X1,X2,X3⟩:=X;obtain⟨Y1,Y2,Y3⟩:=Y;rcases h1 with⟨h1,h2⟩|⟨h1,h2,h3,h4⟩
 . simp only at h1 h2;subst h1;exact .inl ⟨rfl,h2⟩
 . simp only at h1 h2 h3 h4;subst h1
   cases X1 with
   |false=>exact .inr ⟨rfl,h2,Ti,h4⟩
   |true=>
    simp only[qZ7];obtain⟨hz,hag⟩:=h3 rfl;obtain⟨val,hmo⟩:=gb (call:=call) (s:=s) hp hk X2 X3;have hlt:=hl t Aq;have hso:=fP hp;have hdv:t.d=(v:Int):=by rw[<-K1 hso];exact hv
    have hkey:=Lm (s:=s) hc (z:=z) l2 (fun u hu=>hl u IR) (a:=A4 X2 t.d val) (b:=Y2) (m:=X3) (m':=Y3)
     ⟨by rw[QX];exact hag.1,fun w hw=>by
      have hne:¬t.d=(w:Int):=fun e=>by
       have:v=w:=by omega
       subst this;rw[show need v l2 (z v)=true from hw]at hd;cases hd
      rw[N6 (hlt.1 hso),qZ9 (fun e=>hne e.1)];refine hag.2 w ?_;show need w (t::l2) (z w)=true;unfold need;rw[K1 hso,show(t.d==(w:Int))=false by simpa using hne,show need w l2 (z w)=true from hw]
      simp⟩ hz h2
    show Np z (bif (Bb call s t X2 X3).2.fin==0 then BT call s l2 (Bb call s t X2 X3).1 (Bb call s t X2 X3).2 else(false,Bb call s t X2 X3)) _;rw[hmo];simp only[hz];exact hkey
theorem Ye(hc:E9 call call' oI){f g:BFunc}{c:Nat}{x:Block}{l1 l2:List Tac}{t:Tac}{v:Nat}(hcut:He f g c x l1 t l2 v)(hf:oz oI f):
 ∀(n:Nat) (i:Int) (a b:List Int) (m m':Mach),GQ (fun v=>Za f v i.toNat) a b->m.fin=0->m.Le m'->(kblk call s f n i a m).Sim (kblk call' s g n i b m')
 |0,_,_,_,_,_,_,_,_=>.inl rfl
 |n+1,i,a,b,m,m',hag,h0,h=>by
  cases hk:f.blocks[i.toNat]? with
  |none=>
   have hk':g.blocks[i.toNat]?=none:=by
    rw[q09]at hk|-;rw[hcut.hg,Na];exact hk
   unfold kblk;rw[hk,hk'];exact .inr h
  |some k=>
   obtain⟨k',hk',hkn,hs⟩:∃k',g.blocks[i.toNat]?=some k'/\(k'.fin=k.fin/\∀r,k'.next r=k.next r)/\Np (ET f k) (BT call s k.ins a m.tick) (BT call' s k'.ins b m'.tick):=by
    have hin:=hf.ins k (q33 hk);have hag':GQ (fun v=>need v k.ins (ET f k v)) a b:=⟨hag.1,fun w hw=>hag.2 w (by show Za f w _=true;rw[aT hk];exact hw)⟩
    by_cases hci:c=i.toNat
    . subst hci;have:=hcut.hx.symm.trans hk;cases this;refine⟨x.mid (l1++l2),by rw[hcut.hg];exact Fi hcut.hx,⟨rfl,fun _=>rfl⟩,?_⟩;have hi:=hcut.hi;show Np (ET f x) (BT call s x.ins a m.tick) (BT call' s (l1++l2) b m'.tick);rw[hi]at hin hag'|-;exact mI hc (fun u hu=>(hin u hu).2.1) hcut.pure (hin t Aq).2.2 hcut.hv hcut.dead hag' h0 h.tick
    . exact⟨k,by rw[hcut.hg,Iv hci];exact hk,⟨rfl,fun _=>rfl⟩,Lm hc k.ins (fun u hu=>(hin u hu).2.1) hag' h0 h.tick⟩
   rw[Gn hk,Gn hk'];have hfin:=hf.fin k (q33 hk);generalize BT call s k.ins a m.tick=X at hs|-;generalize BT call' s k'.ins b m'.tick=Y at hs|-;obtain⟨X1,X2,X3⟩:=X;obtain⟨Y1,Y2,Y3⟩:=Y;rcases hs with⟨h1,h2⟩|⟨h1,h3,h4,h5⟩
   . simp only at h1 h2;subst h1;exact .inl h2
   . simp only at h1 h3 h4 h5;subst h1
     cases X1 with
     |false=>exact .inr h3
     |true=>
      simp only[qZ7];obtain⟨hz,hag2⟩:=h4 rfl;unfold Hp;rw[hkn.1,hkn.2]
      cases hfin3:k.fin==3 with
      |true=>exact .inr h3
      |false=>
       simp only[qZ3];rw[<-aF hfin.2 hag2];exact Ye hc hcut hf n _ _ _ _ _ (bA hfin.1 hfin3 hag2) hz h3
theorem FSm.fold{f:BFunc}{n w:Int}(h:f.one n w=true):FSm f f.fold:=fun call s G hc m m' h0 hl=>by
 have hs:=CR h;rw[show f.fold.regs=f.regs from rfl,UI (fun x hx t ht e=>by
  have:=(R8 ((hs.2.2.2 x hx).2 t ht)).1 e;omega) G 0 _ m' Aq]
 exact Ln hc G _ _ h0 hl
theorem FSm.forward{f:BFunc}{n w:Int}(h:f.one n w=true):FSm f f.forward:=fun call s G hc m m' h0 hl=>by
 obtain⟨h1,h2,h3,h4⟩:=CR h;obtain⟨R,hR⟩:∃R:Nat,f.regs=(R:Int):=⟨f.regs.toNat,by omega⟩
 rw[show f.forward.regs=f.regs from rfl,Yd (n:=n) (w:=w) hR (fun x hx=>⟨fun e=>by
  have he:=(h4 x hx).1;unfold Block.ends at he;rw[e]at he;simp[A2]at he;omega,fun t ht=>by rw[<-hR];exact(h4 x hx).2 t ht⟩) G 0 _ m' (by rw[hR];simp)]
 exact Ln hc G _ _ h0 hl
variable {g : BFunc}
theorem oB(h:Cuts f g)(hf:oz oI f):FSm f g:=by
 induction h with
 |refl f=>exact Y0 f
 | @step f g h a1 b ih=>
  refine FSm.trans ?_ (ih (ni a1 hf));have hr:=(KN (Cuts.one a1)).1;obtain⟨c,x,l1,t,l2,v,a1⟩:=a1;intro call s G hc m m' h0 hl;rw[hr];exact Ye hc a1 hf G 0 _ _ m m' ⟨rfl,fun _ _=>rfl⟩ h0 hl
theorem FSm.dnf(h:f.one n w=true):FSm f (NP f):=by
 have hf:=lX h;exact oB (Hb f) ⟨fun x hx t ht=>⟨fun _=>trivial,(hf.ins x hx t ht).2⟩,hf.fin⟩
theorem PS35.fs(h:PS35 n w f)(k:Int):FSm f (Cj f k).f:=by
 have hs:=CR h.one;unfold Cj
 cases k==1 with
 |true=>exact FSm.fold h.one
 |false=>
 cases k==2 with
 |true=>exact FSm.forward h.one
 |false=>
 cases k==3 with
 |true=>exact FSm.dnf h.one
 |false=>exact FSm.tidy (L6 (HD h.one) hs.2.2.1) fun x hx=>Yz (hs.2.2.2 x hx).1
theorem Yy:∀(ks:List Int) (f:BFunc),PS35 n w f->PS35 n w (Nz Cj ks f)/\FSm f (Nz Cj ks f)
 | [],f,h=>⟨h,Y0 f⟩
 |k::r,f,h=>by
  obtain⟨h1,h2⟩:=Yy r (Cj f k).f (h.step k);exact⟨h1,(h.fs k).trans h2⟩
noncomputable def LD(b:Blocks)(ks:List Int):Blocks:=⟨b.words,b.funcs.map (Nz Cj ks)⟩
structure All35(b:Blocks):Prop where
  n:b.funcs.length<=6
  r:b.right=true
  e:∀(i:Nat) (f:BFunc),b.funcs[i]?=some f->PS35 (i:Int) b.words f
theorem All35.of(h:Ir b=true)(hw:b.insW):All35 b:=by
 have hS:=ZN h;refine⟨hS.n,hS.r,fun i f hf=>⟨(HY hS.r).2.2.2 i f hf,hS.g f (q33 hf),qX2 (RU (q33 hf)) hS.c,hw f (q33 hf)⟩⟩
theorem XN{ks:List Int}(h:(LD b ks).funcs[i]?=some g):∃f,b.funcs[i]?=some f/\g=Nz Cj ks f:=by
 grind[LD,Nz,Cj]
theorem TZ(h1:0<=b.words)(h2:b.words<=1048576)(h3:b.funcs≠[])(h4:∀(i:Nat) (f:BFunc),b.funcs[i]?=some f->f.one (i:Int) b.words=true):b.right=true:=by
 grind[HG,List.all_eq_true,List.getElem?_eq_some_iff,Ad,BG]
theorem All35.opt(h:All35 b)(ks:List Int):All35 (LD b ks):=by
 obtain⟨h1,h2,h3,h4⟩:=HY h.r;have he:∀(i:Nat) (g:BFunc),(LD b ks).funcs[i]?=some g->PS35 (i:Int) b.words g:=fun i g hg=>by
  obtain⟨f,hf,rfl⟩:=XN hg;exact(Yy ks f (h.e i f hf)).1
 refine⟨by show(b.funcs.map _).length<=6;rw[q76];exact h.n,TZ (b:=LD b ks) h1 h2 (fun e=>h3 (List.map_eq_nil_iff.1 e)) fun i g hg=>(he i g hg).one,he⟩
theorem All35.insW{b:Blocks}(h:All35 b):b.insW:=fun f hf=>by
 obtain⟨i,hi⟩:=q35 hf;exact(h.e i f hi).i
theorem kj{l:List Nat}(h:∀x∈l,x<=q):l.sum<=q*l.length:=by
 induction l with
 |nil=>exact qZ0 _
 |cons x l ih=>
  have h1:=ih fun y hy=>h y (by simp[hy])
  have h2:=h x Aq;rw[qQ2,q70,Nat.mul_succ];omega
theorem All35.count{b:Blocks}(h:All35 b):b.count<=1200:=by
 have:=kj (l:=b.funcs.map BFunc.count) (q:=200) fun x hx=>by
  obtain⟨f,hf,rfl⟩:=qX3.1 hx;obtain⟨i,hi⟩:=q35 hf;exact(h.e i f hi).c
 rw[q76]at this;have h2:=h.n;show(b.funcs.map BFunc.count).sum<=1200;have:200*b.funcs.length<=1200:=by omega
 omega
theorem All35.lim(h:All35 b):b.Lim:=⟨qX2 h.n Al,qX2 h.count Al⟩
set_option maxRecDepth 100000
def uh(fr:List Int)(ks l:List Int)(g:List Int):Prop:=g.length=fr.length/\∀v:Nat,v<fr.length->Ai g v=if(v:Int)∈ks/\(v:Int)∉l then(v:Int)else Ai fr v
variable {o : AObj} {b : Nat}
theorem Tb(hb:h b=some o):Af (hrm h b) b o=h:=by
 funext x
 by_cases hx:x=b
 . subst hx;rw[AB,hb]
 . rw[Bd _ _ hx,Hm _ hx]
theorem mX(hab:a≠b):Af (hrm h b) a o=hrm (Af h a o) b:=by
 funext x
 by_cases hx:x=a
 . subst hx;rw[AB,Hm _ hab,AB]
 . rw[Bd _ _ hx]
   by_cases hb:x=b
   . subst hb;rw[Ib,Ib]
   . rw[Hm _ hb,Hm _ hb,Bd _ _ hx]
theorem qF(h:Aj){R:Nat}{fr:List Int}{to:List (Option Nat)}{maps:List (List Int)}(hI:FwI R fr to maps){d:Nat}(hd:d<R):ACall Tryz.prog 78 [.ptr 2 1 0 0,.int .i64 (d:Int)] (FH h R fr to maps) (fun r h'=>r=.tup []/\∃maps',FwI R (CX d fr) (to.set d none) maps'/\maps'.length=maps.length/\HSub (FH h R (CX d fr) (to.set d none) maps') h'):=by
 refine qK4 (n:=56) Ah Tryz.func78 rfl rfl ?_;have hdf:(0:Int)<=(d:Int)/\(d:Int)<fr.length:=by rw[hI.lenF];omega
 obtain⟨s,hs⟩:∃s:Nat,Ai fr d=s:=⟨(Ai fr d).toNat,by have:=(hI.ran d hd).1;omega⟩
 have hsR:s<R:=by have:=(hI.ran d hd).2;omega
 refine wk 1 ?_;refine qV2 (γ:=List (List Int)) (fun m1=>⟨56,Aa (Aa AU 0 (pZ 2)) 1 (iN d),FH h R (A4 fr (d:Int) d) to m1⟩) (fun m1=>FwI R (A4 fr (d:Int) d) to m1/\m1.length=maps.length) ?_ ?_
 .
  refine wk 7 ?_;refine aq 11 (Ae Ah (hm:=JY) (h0:=hdf.1)) ?_;refine aq 12 (Ao Ah rfl rfl rfl (.ptr _ _ _ _ _ _ _ _ rfl JY (Ny hdf)) rfl) ?_;refine wk 8 ?_;refine asp 15 (fun hb1=>?_) fun hb1=>?_
  .
   have hne:s≠d:=by(rw[hs]at hb1;have h9:(s:Int)≠d:=(by simpa using hb1);omega)
   obtain⟨j,ks,k1,k2,k3⟩:=hI.off hd hs hne;have hjl:j<maps.length:=(q05.1 k2).1;refine wk 8 ?_;refine aq 21 (Ae Ah (hm:=Io) (h0:=(by rw[hs];omega)) (hn:=(by rw[hs];omega))) ?_;refine aq 22 (Ao Ah rfl rfl rfl (.ptr _ _ _ _ _ _ _ _ rfl Io (by rw[hs];exact KF k1)) rfl) ?_;refine wk 1 ?_;refine qK6 rfl rfl (XS Ah rfl rfl rfl rfl (by rw[KT,JR k2]) rfl rfl rfl rfl) ?_;refine wk 1 ?_;rw[Yc];show AGo _ _ ⟨_,_,Af (FH h R fr to maps) (j+16) _⟩ _;rw[bH _ hjl];refine wk 7 ?_;refine aq 30 (Ae Ah (hm:=JY) (h0:=hdf.1)) ?_;refine qK6 rfl rfl (AY Ah rfl rfl rfl rfl rfl rfl JY (Ny hdf) rfl Al rfl (by intro h;rfl)) ?_;refine wk 1 ?_;refine⟨_,qJ1 B4 ?_,k3,by simp⟩;show HSub _ (Af (FH h R fr to (maps.set j (ks.erase (d:Int)))) 3 (rt 1 ((H9 fr).set (0+((d:Nat):Int).toNat) [.int .i64 (d:Int)])));rw[Ls,Qc];exact qJ4 _
  have he:s=d:=by(rw[hs]at hb1;have h9:¬((s:Int)≠d):=(by simpa using hb1);omega)
  subst he;refine wk 2 ?_;have hoff:=hI.off0 hd hs;refine⟨maps,qJ1 B4 (by rw[hoff];exact qJ4 _),by rw[hoff];exact hI,rfl⟩
 rintro m1 ⟨hI1,hm1⟩
 have hd1:Ai (A4 fr (d:Int) d) d=d:=by rw[FQ (by rw[hI.lenF];exact hd),qK0 rfl]
 have hfin:=hI1.clear hd hd1;rw[N7 hI hd]at hfin;obtain⟨o,ho⟩:=hI1.to_of hd;refine wk 1 ?_;have hd3:(0:Int)<=(d:Int)/\(d:Int)<(A4 fr (d:Int) d).length:=by rw[hI1.lenF];omega
 refine qV2 (γ:=Unit) (fun _=>⟨56,Aa (Aa AU 0 (pZ 2)) 1 (iN d),FH h R (CX d fr) to m1⟩) (fun _=>True) ?_ ?_
 .
  cases o with
  |none=>
   have hrs:CX d fr=A4 fr (d:Int) d:=by
    rw[<-N7 hI hd];exact M1 (DU _ _) fun v hv=>by
     rw[DU]at hv;rw[DV hv]
     by_cases e:Ai (A4 fr (d:Int) d) v=d
     . have:=hI1.nn d ho v (by rw[<-hI1.lenF];exact hv) e;subst this;rw[hd1];simp
     . have hvd:v≠d:=fun e2=>e (by rw[e2];exact hd1)
       rw[show((v:Int)==d)=false from q40.2 Ab,show(Ai (A4 fr (d:Int) d) v==(d:Int))=false from q40.2 e];rfl
   refine bK Ah (n:=56) (e:=Aa (Aa (Aa AU 0 (pZ 2)) 1 (iN d)) 37 (.val (.map none))) (h:=FH h R (A4 fr (d:Int) d) to m1) 7 rfl ?_ ⟨rfl,rfl,rfl⟩ rfl rfl rfl ⟨rfl,rfl,rfl⟩ ⟨rfl,rfl,rfl⟩ Al ⟨rfl,rfl,rfl⟩ ?_
   .
    exact tu
   . exact⟨(),qJ1 B4 (by rw[hrs];exact qJ4 _),trivial⟩
  |some j=>
   obtain⟨ks,k1,k2,k3⟩:=hI1.sm d j ho;have hj16:3≠j+16:=by omega
   have hbk:∀g,uh (A4 fr (d:Int) d) ks [] g->g=CX d fr:=fun g ⟨g1,g2⟩=>by
    rw[<-N7 hI hd];refine M1 (by rw[g1,DU]) fun v hv=>?_
    rw[g1]at hv;rw[g2 v hv,DV hv];have hvR:v<R:=by rw[<-hI1.lenF];exact hv
    by_cases e:Ai (A4 fr (d:Int) d) v=d
    . by_cases e2:v=d
      . subst e2;rw[qZ9 (fun h=>((k3 v).1 h.1).2.2.1 rfl)];simp[hd1]
      . rw[qK0 ⟨(k3 v).2 ⟨by omega,by omega,by omega,e⟩,by simp⟩];simp[e]
    . have hvd:v≠d:=fun e2=>e (by rw[e2];exact hd1)
      rw[qZ9 (fun h=>e ((k3 v).1 h.1).2.2.2),show((v:Int)==d)=false from q40.2 Ab,show(Ai (A4 fr (d:Int) d) v==(d:Int))=false from q40.2 e];rfl
   refine bL Ah (K:=.i64) (γ:=List Int) (S:=fun rb g=>⟨56,Aa (Aa (Aa AU 0 (pZ 2)) 1 (iN d)) 38 (.val (.pointer (some ⟨rb,0,none⟩))),hrm (FH h R g to m1) (j+16)⟩) (J:=fun l g=>uh (A4 fr (d:Int) d) ks l g/\∀v∈l,v∈ks/\l.Nodup) (m:=WM ks) (b:=j+16)
    (e:=Aa (Aa (Aa AU 0 (pZ 2)) 1 (iN d)) 37 (.map (j+16))) (h:=FH h R (A4 fr (d:Int) d) to m1) (A4 fr (d:Int) d) 7 rfl ?_ ⟨rfl,rfl,rfl⟩ rfl rfl rfl (by rw[KT,JR k1]) ⟨rfl,rfl,rfl⟩ ⟨rfl,rfl,rfl⟩ ⟨rfl,rfl,rfl⟩ ⟨rfl,rfl,rfl⟩ ⟨rfl,rfl,rfl⟩ Al Al Al (fun _ _=>⟨rfl,rfl,rfl,rfl,rfl,rfl,rfl⟩) ?_ (fun _=>qJ1 B4 (qJ4 _)) ?_ ?_
   .
    exact tu
   . rw[lJ];exact⟨⟨rfl,fun v hv=>by rw[qZ9 (fun h=>h.2 h.1)]⟩,fun v hv=>⟨hv,k2⟩⟩
   .
    rintro rb l1 z l2 g ⟨⟨g1,g2⟩,g3⟩
    have hz:=g3 z Aq;obtain⟨z0,z1,z2,z3⟩:=(k3 z).1 hz.1;have hzg:(0:Int)<=z/\z<g.length:=by rw[g1,hI1.lenF];omega
    refine wk 7 ?_;refine aq 49 (Ae Ah (hm:=(by rw[H8,g1,hI1.lenF])) (h0:=z0)) ?_;refine qK6 rfl rfl (AY Ah rfl rfl rfl rfl rfl rfl (by rw[H8,g1,hI1.lenF]) (Ny hzg) rfl Al rfl (by intro h;rfl)) ?_;refine wk 1 ?_;refine⟨rfl,A4 g z z,⟨⟨by rw[Ea,g1],fun v hv=>?_⟩,fun v hv=>⟨(g3 v ((List.Sublist.append_left (List.sublist_cons_self _ _) _).subset hv)).1,?_⟩⟩,qJ1 B4 ?_⟩
    . obtain⟨u,rfl⟩:∃u:Nat,z=u:=⟨z.toNat,by omega⟩
      rw[FQ Ab];have hnd:=hz.2;rw[q65]at hnd;have hnd2:=q93.1 hnd.2.1
      by_cases e:v=u
      . subst e;rw[qK0 rfl,qK0 ⟨hz.1,fun h=>(q78.1 h).elim (fun h=>hnd.2.2 _ h _ Aq rfl) hnd2.1⟩]
      . rw[qZ9 e,g2 v hv];have hm:(v:Int)∈l1++(u:Int)::l2↔(v:Int)∈l1++l2:=by simp[show(v:Int)≠u from by omega]
        simp only[hm]
    . have hnd:=hz.2;exact hnd.sublist (List.Sublist.append_left (List.sublist_cons_self _ _) _)
    . show HSub _ (Af (hrm (FH h R g to m1) (j+16)) 3 (rt 1 ((H9 g).set (0+z.toNat) [.int .i64 z])));rw[Ls,mX hj16,Qc];exact qJ4 _
   . rintro rb g ⟨hg,_⟩
     refine⟨(),qJ1 B4 ?_,trivial⟩;rw[Tb (by rw[KT,JR k1]),hbk g hg];exact qJ4 _
 intro _ _;refine wk 6 ?_;refine aq 55 (Ae Ah (hm:=Io) (h0:=hdf.1)) ?_;refine qK6 rfl rfl (AY Ah rfl rfl rfl rfl rfl rfl Io (KF ho) rfl Al rfl D6) ?_;refine wk 1 ?_;refine⟨[],trivial,rfl,m1,hfin,hm1,?_⟩;have hsp:Er (PO o) 0 [AV.val (.map none)]=PO none:=by cases o<;>rfl
 show HSub _ (Af (FH h R (CX d fr) to m1) 4 (rf 1 ((to.map PO).set (0+((d:Nat):Int).toNat) (Er (PO o) 0 [AV.val (.map none)]))));rw[hsp,R6,ul];exact qJ4 _
set_option maxRecDepth 100000
theorem bh(h:Aj){to:List (Option Nat)}{maps:List (List Int)}(hI:FwI R fr to maps)(hd:d<R)(ha:a<R)(hne:a≠d)(hs:Ai fr d=d)(hn:to[d]?=some none)(hra:Ai fr a=a):
 ACall Tryz.prog 79 [.ptr 2 1 0 0,.int .i64 (d:Int),.int .i64 (a:Int)] (FH h R fr to maps) (fun r h'=>r=.tup []/\∃to' maps',FwI R (A4 fr (d:Int) a) to' maps'/\HSub (FH h R (A4 fr (d:Int) a) to' maps') h'):=by
 refine qK4 (n:=36) Ah Tryz.func79 rfl rfl ?_;have hdf:(0:Int)<=(d:Int)/\(d:Int)<fr.length:=by rw[hI.lenF];omega
 obtain⟨o,ho⟩:=hI.to_of ha;refine wk 8 ?_;refine aq 12 (Ae Ah (hm:=JY) (h0:=hdf.1)) ?_;refine qK6 rfl rfl (AY Ah rfl rfl rfl rfl rfl rfl JY (Ny hdf) rfl Al rfl (by intro h;rfl)) ?_;refine wk 1 ?_;refine AGo.sub (s':=⟨36,Aa (Aa (Aa AU 0 (pZ 2)) 1 (iN d)) 2 (iN a),FH h R (A4 fr (d:Int) a) to maps⟩) (qJ1 B4 ?_) ?_
 . show HSub _ (Af (FH h R fr to maps) 3 (rt 1 ((H9 fr).set (0+((d:Nat):Int).toNat) [.int .i64 (a:Int)])));rw[Ls,Qc];exact qJ4 _
 have hidx:(0:Int)<=(a:Int)/\(a:Int)<R:=by omega
 rcases hI.copied hd ha hne hs hn hra with⟨j,ks,k1,k2,k3,k4⟩|⟨k1,k4⟩
 .
  have hjl:j<maps.length:=(q05.1 k2).1;refine wk 8 ?_;refine aq 18 (Ae Ah (hm:=Io) (h0:=hidx.1)) ?_;refine aq 19 (Ao Ah rfl rfl rfl (.ptr _ _ _ _ _ _ _ _ rfl Io (KF k1)) rfl) ?_;refine aq 20 (Xx Ah (r:=false) (.inr ⟨⟨j+16,rfl⟩,rfl⟩) rfl rfl) ?_;refine wk 9 ?_;refine aq 33 (Ae Ah (hm:=Io) (h0:=hidx.1)) ?_;refine aq 34 (Ao Ah rfl rfl rfl (.ptr _ _ _ _ _ _ _ _ rfl Io (KF k1)) rfl) ?_;refine wk 1 ?_;refine qK6 rfl rfl (Kv Ah rfl rfl rfl rfl rfl rfl (by rw[KT,JR k2]) rfl rfl rfl rfl) ?_;refine wk 1 ?_;refine⟨[],trivial,rfl,to,_,k4,?_⟩;show HSub _ (Af (FH h R (A4 fr (d:Int) a) to maps) (j+16) (.map (kvs .i64 (Ml (d:Int) (.bool true) (WM ks)))));rw[RY k3,bH _ hjl];exact qJ4 _
 refine wk 8 ?_;refine aq 18 (Ae Ah (hm:=Io) (h0:=hidx.1)) ?_;refine aq 19 (Ao Ah rfl rfl rfl (.ptr _ _ _ _ _ _ _ _ rfl Io (KF k1)) rfl) ?_;refine aq 20 (Xx Ah (r:=true) (.inl ⟨rfl,rfl⟩) rfl rfl) ?_;refine wk 8 ?_;refine ax 26 (On .i64 (maps.length+16) rfl (by rw[KT,gT])) ?_;refine aq 27 (Ae (p:=false) (sz:=1) (es:=to.map PO) Ah rfl rfl rfl rfl rfl rfl rfl Io rfl hidx.1 Ab) ?_;refine qK6 rfl rfl (AY (p:=false) (sz:=1) (es:=to.map PO) Ah rfl rfl rfl rfl rfl rfl Io (KF k1) rfl Al rfl D6) ?_;refine wk 1 ?_;refine AGo.sub (s':=⟨36,Aa (Aa (Aa AU 0 (pZ 2)) 1 (iN d)) 2 (iN a),FH h R (A4 fr (d:Int) a) (to.set a (some maps.length)) (maps++[[]])⟩) (qJ1 B4 ?_) ?_
 . show HSub _ (Af (Af (FH h R (A4 fr (d:Int) a) to maps) (maps.length+16) (.map (kvs .i64 (WM [])))) 4 (rf 1 ((to.map PO).set (0+((a:Nat):Int).toNat) (PO (some maps.length)))));rw[R6,wE,ul];exact qJ4 _
 have hto:(to.set a (some maps.length))[a]?=some (some maps.length):=q21 (by rw[hI.lenT];exact ha);have hmp:(maps++[[]])[maps.length]?=some ([]:List Int):=by rw[q02 (qZ0 _)];simp
 refine wk 6 ?_;refine aq 33 (Ae Ah (hm:=(by rw[q76,q83,hI.lenT])) (h0:=hidx.1)) ?_;refine aq 34 (Ao Ah rfl rfl rfl (.ptr _ _ _ _ _ _ _ _ rfl (by rw[q76,q83,hI.lenT]) (KF hto)) rfl) ?_;refine wk 1 ?_;refine qK6 rfl rfl (Kv Ah rfl rfl rfl rfl rfl rfl (by rw[KT,JR hmp]) rfl rfl rfl rfl) ?_;refine wk 1 ?_;refine⟨[],trivial,rfl,_,_,k4,?_⟩;show HSub _ (Af (FH h R (A4 fr (d:Int) a) (to.set a (some maps.length)) (maps++[[]])) (maps.length+16) (.map (kvs .i64 (Ml (d:Int) (.bool true) (WM [])))));rw[RY Aq,bH _ Aq];have h9:(maps++[([]:List Int)]).set maps.length ([]++[(d:Int)])=maps++[[(d:Int)]]:=by simp
 rw[h9];exact qJ4 _
theorem SC(op:Int):Pu Tryz.prog 64 [.int .i64 op] (.bool (setsOp op)):=by
 refine qK5 (n:=11) Ah Tryz.func64 rfl rfl ?_;refine wk 16 ?_;refine asp 4 (fun hb1=>?_) fun hb1=>?_
 .
  refine wk 7 ?_;exact Qf
 refine wk 6 ?_;refine asp 4 (fun hb2=>?_) fun hb2=>?_
 .
  refine wk 7 ?_;exact Qf
 refine wk 6 ?_;refine asp 4 (fun hb3=>?_) fun hb3=>?_
 .
  refine wk 7 ?_;exact Qf
 refine wk 6 ?_;refine asp 4 (fun hb4=>?_) fun hb4=>?_
 .
  refine wk 7 ?_;exact Qf
 refine wk 6 ?_;refine asp 4 (fun hb5=>?_) fun hb5=>?_
 .
  refine wk 7 ?_;exact Qf
 refine wk 5 ?_;refine asp 4 (fun hb6=>?_) fun hb6=>?_
 .
  refine wk 5 ?_;exact Qf
 refine wk 6 ?_;exact Qf
theorem Vd(op:Int):Pu Tryz.prog 65 [.int .i64 op] (.int .i64 (Fw op)):=by
 refine qK5 (n:=12) Ah Tryz.func65 rfl rfl ?_;refine wk 16 ?_;refine asp 4 (fun hb1=>?_) fun hb1=>?_
 .
  refine wk 7 ?_;exact Zh
 refine wk 6 ?_;refine asp 4 (fun hb2=>?_) fun hb2=>?_
 .
  refine wk 7 ?_;exact Zh
 refine wk 6 ?_;refine asp 4 (fun hb3=>?_) fun hb3=>?_
 .
  refine wk 7 ?_;exact Zh
 refine wk 5 ?_;refine asp 4 (fun hb4=>?_) fun hb4=>?_
 .
  refine wk 5 ?_;exact Zh
 refine wk 7 ?_;refine asp 9 (fun hb5=>?_) fun hb5=>?_
 .
  refine wk 7 ?_;exact Zh
 refine wk 5 ?_;refine asp 9 (fun hb6=>?_) fun hb6=>?_
 .
  refine wk 5 ?_;exact Zh
 refine wk 6 ?_;exact Zh
theorem SA(t:Tac):Pu Tryz.prog 81 [.agg t.cells] (AI t.uses):=by
 refine qK5 (n:=18) Ah Tryz.func81 rfl rfl ?_;refine FL ?_;refine ax 1 (CC 8 0) ?_;refine wk 7 ?_;refine ax 5 (Cn Tryz.func65 (Vd _)) ?_;refine wk 7 ?_;refine asp 6 (fun hb1=>?_) fun hb1=>?_
 .
  refine wk 5 ?_;refine ax 10 DB ?_;refine wk 2 ?_;exact jg
 refine wk 6 ?_;refine asp 11 (fun hb2=>?_) fun hb2=>?_
 .
  refine wk 7 ?_;refine ax 17 DB ?_;refine wk 2 ?_;exact jg
 refine wk 6 ?_;refine qJ0 (.empty 2 rfl) ?_;exact jg
theorem NG(t:Tac):Pu Tryz.prog 77 [.agg t.cells] (.int .i64 t.sets):=by
 refine qK5 (n:=8) Ah Tryz.func77 rfl rfl ?_;refine FL ?_;refine ax 1 (CC 8 0) ?_;refine wk 7 ?_;refine ax 5 (Cn Tryz.func64 (SC _)) ?_;refine an ?_;refine asp 5 (fun hb1=>?_) fun hb1=>?_
 .
  refine wk 7 ?_;exact ry
 refine wk 6 ?_;exact ry
theorem NH(words f regs blocks r:Int):APure Tryz.prog 63 [(.agg [.int .i64 words,.int .i64 f,.int .i64 regs,.int .i64 blocks]),.int .i64 r] (fun q=>q=.bool (A2 r regs)):=by
 refine qK5 (n:=13) Ah Tryz.func63 rfl rfl ?_;refine FL ?_;refine ax 2 (CC 4 0) ?_;refine wk 7 ?_;refine BM 7 (fun hb1=>?_) fun hb1=>?_
 .
  exact r8
 exact r8
theorem q6(words f regs blocks:Int)(x:Block):APure Tryz.prog 44 [(.agg [.int .i64 words,.int .i64 f,.int .i64 regs,.int .i64 blocks]),.agg x.cells] (fun q=>q=.bool (x.ends blocks regs)):=by
 refine qK5 (n:=67) Ah Tryz.func44 rfl rfl ?_;refine FL ?_;refine ax 2 (CC 4 0) ?_;refine ax 3 (CC 5 1) ?_;refine wk 3 ?_;refine qV2 (γ:=Unit) (fun _u=>⟨67,(Aa (Aa (Aa AU 2 (pZ 0)) 3 (pZ 1)) 5 (.bool (A2 x.to blocks))),(Af (Af (A0 2) 0 (rf 4 [[.int .i64 words,.int .i64 f,.int .i64 regs,.int .i64 blocks]])) 1 (rf 5 [x.cells]))⟩) (fun _u=>True) ?_ ?_
 .
  refine wk 5 ?_;refine BM 9 (fun hb1=>?_) fun hb1=>?_
  .
   exact wZ
  exact wZ
 intro _u _;refine wk 12 ?_;refine asp 18 (fun hb2=>?_) fun hb2=>?_
 .
  refine wk 5 ?_;refine BM 21 (fun hb3=>?_) fun hb3=>?_
  .
   refine wk 5 ?_;refine BM 26 (fun hb4=>?_) fun hb4=>?_
   .
    refine wk 6 ?_;exact Qe
   refine wk 6 ?_;exact Qe
  refine wk 11 ?_;exact Qe
 refine wk 6 ?_;refine asp 31 (fun hb5=>?_) fun hb5=>?_
 .
  refine wk 5 ?_;refine BM 34 (fun hb6=>?_) fun hb6=>?_
  .
   refine wk 3 ?_;refine ax 38 (Cn Tryz.func63 (NH _ _ _ _ _)) ?_;refine wk 2 ?_;refine BM 40 (fun hb7=>?_) fun hb7=>?_
   .
    refine wk 5 ?_;refine BM 45 (fun hb8=>?_) fun hb8=>?_
    .
     refine wk 8 ?_;exact Qe
    refine wk 8 ?_;exact Qe
   refine wk 13 ?_;exact Qe
  refine wk 19 ?_;exact Qe
 refine wk 6 ?_;refine asp 52 (fun hb9=>?_) fun hb9=>?_
 .
  refine wk 7 ?_;refine BM 57 (fun hb10=>?_) fun hb10=>?_
  .
   refine wk 5 ?_;refine BM 62 (fun hb11=>?_) fun hb11=>?_
   .
    refine wk 6 ?_;exact Qe
   refine wk 6 ?_;exact Qe
  refine wk 11 ?_;exact Qe
 refine wk 6 ?_;exact Qe
set_option maxRecDepth 100000
def IA(R q:Nat):List Int:=(List.range R).map fun v=>if v<q then(v:Int)else 0
theorem OI(R q:Nat):(IA R q).length=R:=by simp[IA]
theorem bg(h:q<R):A4 (IA R q) (q:Int) q=IA R (q+1):=by
 unfold A4 IA;apply q62;intro v;rw[show((q:Nat):Int).toNat=q from rfl,q60,q54,q54]
 by_cases e:q=v
 . subst e;rw[qK0 rfl];simp[h]
 . rw[qZ9 e]
   by_cases hv:v<R
   . simp[hv]
     by_cases h1:v<q
     . rw[qK0 h1,qK0 Ab]
     . rw[qZ9 h1,qZ9 Ab]
   . simp[hv]
theorem gS(R:Nat):IA R R=LV R:=by
 unfold IA LV;apply q42;intro v hv;rw[qK0 (q94.1 hv)]
theorem nz(hx:l[i]?=some t):(EC R l i)[0+((i:Nat):Int).toNat]?=some [.int .i64 0,.int .i64 0,.int .i64 0,.int .i64 0,.int .i64 0,.int .i64 0,.int .i64 0,.int .u32 0]:=by
 have hi:i<l.length:=(q05.1 hx).1;rw[qQ8,show((i:Nat):Int).toNat=i from rfl];unfold EC;rw[q02 (by rw[q76,Ic,q69];omega),q76,Ic,q69,show i-min i l.length=0 by omega,q19,qK0 Ab]
theorem Yk(k:Nat->Bool)(l:List Tac):(CU l).avoid k=true:=by
 rfl
theorem OS(b:Block):(rf 5 [b.cells]).avoid k6=true:=by
 rfl
theorem KM(R:Nat)(l:List Tac)(i:Nat):(rt 8 (EC R l i)).avoid k6=true:=by
 rfl
theorem pD(h:decide (t.sets>=0)=true):setsOp t.op=true/\t.sets=t.d:=by
 unfold Tac.sets at h|-
 cases e:setsOp t.op with
 |true=>exact⟨rfl,rfl⟩
 |false=>rw[e]at h;cases h
theorem Wl(b:Block)(R:Nat)(hR:R<=4000)(hlen:b.ins.length<=1000000000)(hins:∀t∈b.ins,bE R t)(hv:b.fin=2->0<=b.v/\b.v<R):Pu Tryz.prog 57 [.agg b.cells,.int .i64 (R:Int)] (.agg (b.forward R).cells):=by
 refine qK5 (n:=108) Ah Tryz.func57 rfl rfl ?_;refine wk 2 ?_;refine ax 2 (CC 5 0) ?_;refine ax 4 (DA Ah 1) ?_;refine wk 4 ?_;refine dx 12 (AK Ah (n:=R) (m:=R) 3 true (hni:=rfl) (hnj:=rfl) (hby:=(by show 8*R<=_;omega))) ?_;refine wk 1 ?_;refine dx 14 (AK Ah (n:=R) (m:=R) 4 false (hni:=rfl) (hnj:=rfl) (hby:=(by show 8*R<=_;omega))) ?_;refine wk 1 ?_;refine dx 5 (DA Ah 2) ?_;refine wk 2 ?_;refine AGo.sub (s':=⟨108,Aa (Aa (Aa (Aa AU 1 (.int .i64 (R:Int))) 2 (pZ 0)) 4 (pZ 1)) 5 (pZ 2),FH (WB b .free .free) R (IA R 0) (List.replicate R none) []⟩) (qJ1 B4 (OY rfl rfl rfl (congrArg (fun es=>some (rt 1 es)) (by simp[H9,IA,List.map_const'])) (congrArg (fun es=>some (rf 1 es)) (by simp[PO])) rfl rfl (fun j=>rfl))) ?_;refine wk 40 ?_;refine qJ7 (γ:=Nat) (fun q=>⟨108,Aa (Aa (Aa (Aa (Aa (Aa (Aa AU 1 (.int .i64 (R:Int))) 2 (pZ 0)) 4 (pZ 1)) 5 (pZ 2)) 17 (.ref 3 R 0 R)) 18 (iN R)) 19 (iN q),FH (WB b .free .free) R (IA R q) (List.replicate R none) []⟩) (fun q=>q<=R) (fun q=>R-q) 0 (qJ1 B4 (qJ4 _)) (qZ1 _) ?_
 intro q hq;refine wk 40 ?_;refine asp 20 (fun hb1=>?_) fun hb1=>?_
 .
  have hqR:q<R:=by have:=hb1;simp at this;exact this
  have hqz:(0:Int)<=(q:Int)/\(q:Int)<(IA R q).length:=by rw[OI];omega
  refine wk 40 ?_;refine aq 26 (Ae Ah (hm:=(by rw[H8,OI])) (h0:=hqz.1)) ?_;refine qK6 rfl rfl (AY Ah rfl rfl rfl rfl rfl rfl (by rw[H8,OI]) (Ny hqz) rfl Al rfl (by intro h;rfl)) ?_;refine wk 40 ?_;refine⟨q+1,qJ1 (by repeat(first|exact qJ2 _|refine qJ3 ?_ (by first|rfl|exact congrArg (fun x=>some (AV.int .i64 x)) (KV hqR Bq)))) ?_,hqR,by omega⟩;show HSub _ (Af (FH (WB b .free .free) R (IA R q) (List.replicate R none) []) 3 (rt 1 ((H9 (IA R q)).set (0+((q:Nat):Int).toNat) [.int .i64 (q:Int)])));rw[Ls,bg hqR,Qc];exact qJ4 _
 have hqR:q=R:=by have:=hb1;simp at this;omega
 refine wk 40 ?_;refine ax 31 (AK Ah (n:=b.ins.length) (m:=b.ins.length) 5 true rfl rfl rfl (congrArg (fun(m:Nat)=>(m:Int)) (q76 _)) (congrArg (fun(m:Nat)=>(m:Int)) (q76 _)) rfl rfl rfl rfl rfl (q68 _) rfl (qZ0 _) (by show 64*b.ins.length<=_;omega) Bq) ?_;refine wk 40 ?_;rw[hqR];refine Bu (γ:=Nat×List Int×List (Option Nat)×List (List Int)) k6 (fun g=>⟨108,Aa (Aa (Aa (Aa (Aa (Aa (Aa AU 2 (pZ 0)) 4 (pZ 1)) 5 (pZ 2)) 7 (.ref 5 b.ins.length 0 b.ins.length)) 33 (CU b.ins)) 34 (iN b.ins.length)) 35 (iN g.1),FH (WB b (rt 8 (EC R b.ins g.1)) .free) R g.2.1 g.2.2.1 g.2.2.2⟩) (fun g=>FwS R b.ins g.1 g.2.1 g.2.2.1 g.2.2.2) (fun g=>b.ins.length-g.1) (0,LV R,List.replicate R none,[]) (qJ1 (by repeat(first|exact qJ2 _|refine qJ3 ?_ (by first|rfl|exact congrArg (fun(m:Nat)=>some (AV.int .i64 (m:Int))) (q76 _)))) ?_) ⟨qZ1 _,rfl,v9 R⟩ (fun g x hx=>?_) ?_
 . exact OY rfl rfl rfl (by show some (rt 1 (H9 (IA R R)))=some (rt 1 (H9 (LV R)));rw[gS]) rfl (by show some (rt 8 (List.replicate b.ins.length ty91.zero))=some (rt 8 (EC R b.ins 0));rw[bj]) rfl (fun _=>rfl)
 . have:x=6:=by unfold k6 at hx;exact q25 (by simpa using hx)
   subst this;rfl
 rintro⟨i,fr,to,maps⟩ hF
 dsimp only at hF|-;refine wk 40 ?_;refine asp 36 (fun hb2=>?_) fun hb2=>?_
 .
  have hil:i<b.ins.length:=by have:=hb2;simp at this;exact this
  obtain⟨t,ht⟩:=Ad hil;have hT:=hins t (q33 ht);have hI:=hF.inv;have gg:∀{z:Int},0<=z/\z<R->(0:Int)<=z/\z<fr.length:=fun h=>by rw[hI.lenF];exact h
  refine wk 40 ?_;refine aq 38 (En Ah (Au ht)) ?_;refine wk 1 ?_;refine ax 9 (DA Ah 6) ?_;refine wk 9 ?_;refine AGo.sub (s':=⟨108,Aa (Aa (Aa (Aa (Aa (Aa (Aa (Aa (Aa (Aa AU 2 (pZ 0)) 4 (pZ 1)) 5 (pZ 2)) 7 (.ref 5 b.ins.length 0 b.ins.length)) 33 (CU b.ins)) 34 (iN b.ins.length)) 35 (iN i)) 8 (iN i)) 9 (pZ 6)) 41 (.int .i64 t.op),FH (WB b (rt 8 (EC R b.ins i)) (rf 8 [t.cells])) R fr to maps⟩) (qJ1 B4 (OY rfl rfl rfl rfl rfl rfl rfl (fun _=>rfl))) ?_;refine qV2 (γ:=Unit) (fun _=>⟨108,(Aa (Aa (Aa (Aa (Aa (Aa (Aa (Aa (Aa AU 2 (pZ 0)) 4 (pZ 1)) 5 (pZ 2)) 7 (.ref 5 b.ins.length 0 b.ins.length)) 33 (CU b.ins)) 34 (iN b.ins.length)) 35 (iN i)) 8 (iN i)) 9 (pZ 6)),FH (WB b (rt 8 (EC R b.ins i)) (rf 8 [(subT fr t).cells])) R fr to maps⟩) (fun _=>True) ?_ ?_
  .
   refine wk 2 ?_;refine qV2 (γ:=Unit) (fun _=>⟨108,Aa (Aa (Aa (Aa (Aa (Aa (Aa (Aa (Aa (Aa (Aa AU 2 (pZ 0)) 4 (pZ 1)) 5 (pZ 2)) 7 (.ref 5 b.ins.length 0 b.ins.length)) 33 (CU b.ins)) 34 (iN b.ins.length)) 35 (iN i)) 8 (iN i)) 9 (pZ 6)) 41 (.int .i64 t.op)) 42 (.bool (use1 t.op)),FH (WB b (rt 8 (EC R b.ins i)) (rf 8 [t.cells])) R fr to maps⟩) (fun _=>True) ?_ ?_
   .
    refine wk 40 ?_;refine asp 42 (fun hc1=>?_) fun hc1=>?_
    . refine wk 40 ?_;have hu:use1 t.op=true:=by unfold use1;simp at hc1;simp[hc1]
      exact d4
    refine wk 40 ?_;refine asp 42 (fun hc2=>?_) fun hc2=>?_
    . refine wk 40 ?_;have hu:use1 t.op=true:=by unfold use1;simp at hc2;simp[hc2]
      exact d4
    refine wk 40 ?_;refine asp 42 (fun hc3=>?_) fun hc3=>?_
    . refine wk 40 ?_;have hu:use1 t.op=true:=by unfold use1;simp at hc3;simp[hc3]
      exact d4
    refine wk 40 ?_;have hu:use1 t.op=(t.op==9):=by show(t.op==2||(t.op==5||(t.op==6||t.op==9)))=_;rw[show(t.op==2)=false by simpa using hc1,show(t.op==5)=false by simpa using hc2,show(t.op==6)=false by simpa using hc3];rfl
    exact d4
   intro _ _;refine asp 42 (fun hu=>?_) fun hu=>?_
   .
    have ha:=hT.u1 hu;have hs:subT fr t={t with a:=Ai fr t.a}:=by unfold subT;rw[hu];rfl
    refine wk 40 ?_;refine aq 51 (Ae Ah (hm:=JY) (h0:=ha.1) (hn:=ha.2)) ?_;refine aq 52 (Ao Ah rfl rfl rfl (.ptr _ _ _ _ _ _ _ _ rfl JY (Ny (gg ha))) rfl) ?_;exact sE
   refine wk 1 ?_;refine wk 1 ?_;refine qV2 (γ:=Unit) (fun _=>⟨108,Aa (Aa (Aa (Aa (Aa (Aa (Aa (Aa (Aa (Aa AU 2 (pZ 0)) 4 (pZ 1)) 5 (pZ 2)) 7 (.ref 5 b.ins.length 0 b.ins.length)) 33 (CU b.ins)) 34 (iN b.ins.length)) 35 (iN i)) 8 (iN i)) 9 (pZ 6)) 54 (.bool (use2 t.op)),FH (WB b (rt 8 (EC R b.ins i)) (rf 8 [t.cells])) R fr to maps⟩) (fun _=>True) ?_ ?_
   .
    refine wk 40 ?_;refine asp 54 (fun hc1=>?_) fun hc1=>?_
    . refine wk 40 ?_;have hu:use2 t.op=true:=by unfold use2;simp at hc1;simp[hc1]
      exact d4
    refine wk 40 ?_;have hu:use2 t.op=(t.op==7):=by show(t.op==3||t.op==7)=_;rw[show(t.op==3)=false by simpa using hc1];rfl
    exact d4
   intro _ _;refine asp 54 (fun hu2=>?_) fun hu2=>?_
   .
    obtain⟨ha,hb⟩:=hT.u2 hu2;have hs:subT fr t={t with a:=Ai fr t.a,b:=Ai fr t.b}:=by unfold subT;rw[hu,hu2];rfl
    refine wk 40 ?_;refine dq 61 (Ae Ah (hm:=JY) (h0:=ha.1) (hn:=ha.2)) ?_;refine dq 62 (Ao Ah rfl rfl rfl (.ptr _ _ _ _ _ _ _ _ rfl JY (Ny (gg ha))) rfl) ?_;refine wk 40 ?_;refine dq 67 (Ae Ah (hm:=JY) (h0:=hb.1) (hn:=hb.2)) ?_;refine dq 68 (Ao Ah rfl rfl rfl (.ptr _ _ _ _ _ _ _ _ rfl JY (Ny (gg hb))) rfl) ?_;exact sE
   have hs:subT fr t=t:=by unfold subT;rw[hu,hu2];rfl
   refine wk 40 ?_;exact⟨(),qJ1 B4 (by rw[hs];exact qJ4 _),trivial⟩
  intro _ _;refine wk 40 ?_;refine aq 74 (Ae Ah rfl rfl rfl rfl rfl rfl rfl (Lu hF.le).symm rfl (q46 _) Ab) ?_;refine qK6 rfl rfl (AY Ah rfl rfl rfl rfl rfl rfl (Lu hF.le).symm (nz ht) rfl Al rfl (by intro h;rfl)) ?_;refine wk 1 ?_;have hnx:(EC R b.ins i).set (0+((i:Nat):Int).toNat) (subT fr t).cells=EC R b.ins (i+1):=by have:=bk (R:=R) ht;rw[hF.pre]at this;exact this
  refine AGo.sub (s':=⟨108,(Aa (Aa (Aa (Aa (Aa (Aa (Aa (Aa (Aa AU 2 (pZ 0)) 4 (pZ 1)) 5 (pZ 2)) 7 (.ref 5 b.ins.length 0 b.ins.length)) 33 (CU b.ins)) 34 (iN b.ins.length)) 35 (iN i)) 8 (iN i)) 9 (pZ 6)),FH (WB b (rt 8 (EC R b.ins (i+1))) (rf 8 [(subT fr t).cells])) R fr to maps⟩) (qJ1 B4 (OY rfl rfl rfl rfl rfl (congrArg (fun es=>some (rt 8 es)) hnx) rfl (fun _=>rfl))) ?_;refine wk 40 ?_;refine ax 76 (Cn Tryz.func77 (NG (subT fr t))) ?_;refine wk 40 ?_;have hst:=(Vx fr t).2.2;have hop:=(Vx fr t).1;refine asp 78 (fun hs1=>?_) fun hs1=>?_
  .
   obtain⟨hsp,hsd'⟩:=pD hs1;have hsd:(subT fr t).sets=t.d:=by rw[hsd',(Vx fr t).2.1]
   have hd:=hT.d (by rw[<-hop];exact hsp);obtain⟨d,hdd⟩:∃d:Nat,t.d=d:=⟨t.d.toNat,by omega⟩
   have hdR:d<R:=by omega
   have hsn:(subT fr t).sets=(d:Int):=by rw[hsd,hdd]
   refine wk 40 ?_;rw[hsn];refine AOps.inn 80 rfl rfl rfl ?_;refine Abd rfl Tryz.func78 AF rfl rfl ?_;refine(qF (WB b (rt 8 (EC R b.ins (i+1))) (rf 8 [(subT fr t).cells])) hI hdR).mono ?_
   rintro r h' ⟨rfl,maps',hI',hml,hsub⟩
   refine wk 1 ?_;refine AGo.sub (s':=⟨108,Aa (Aa (Aa (Aa (Aa (Aa (Aa (Aa (Aa (Aa AU 2 (pZ 0)) 4 (pZ 1)) 5 (pZ 2)) 7 (.ref 5 b.ins.length 0 b.ins.length)) 33 (CU b.ins)) 34 (iN b.ins.length)) 35 (iN i)) 8 (iN i)) 9 (pZ 6)) 10 (iN d),FH (WB b (rt 8 (EC R b.ins (i+1))) (rf 8 [(subT fr t).cells])) R (CX (d:Int) fr) (to.set d none) maps'⟩) (qJ1 B4 hsub) ?_;refine wk 40 ?_;have hdf:(d:Int)<fr.length:=by rw[hI.lenF];omega
   refine BM 84 (fun hc=>?_) fun hc=>?_
   .
    have hu1:use1 t.op=true:=by(have h9:t.op=2:=(by rw[<-hop];simpa using hc);unfold use1;rw[h9];rfl)
    have ha:=hT.u1 hu1;have hsa:(subT fr t).a=Ai fr t.a:=by unfold subT;rw[hu1];rfl
    obtain⟨a0,ha0⟩:∃a0:Nat,t.a=a0:=⟨t.a.toNat,by omega⟩
    have ha1:=hI.ran a0 Ab;obtain⟨a,haa⟩:∃a:Nat,Ai fr t.a=a:=⟨(Ai fr t.a).toNat,by rw[ha0];omega⟩
    have haR:a<R:=by rw[ha0]at haa;omega
    have hra:Ai fr a=a:=by have:=hI.root a0 Ab;rw[<-ha0,haa]at this;exact this
    have hsa':(subT fr t).a=(a:Int):=by rw[hsa,haa]
    refine wk 40 ?_;refine asp 89 (fun hc2=>?_) fun hc2=>?_
    .
     have hne:a≠d:=by(rw[hsa']at hc2;have h9:(a:Int)≠d:=(by simpa using hc2);omega)
     have hn:DZ fr (subT fr t)=A4 (CX (d:Int) fr) (d:Int) a:=by unfold DZ;rw[hs1,hsn,hsa',show((subT fr t).op==2)=true from hc,show((a:Int) !=(d:Int))=true from by simp;omega];rfl
     refine wk 40 ?_;rw[hsa'];refine AOps.inn 93 rfl rfl rfl ?_;refine Abd rfl Tryz.func79 AF rfl rfl ?_;refine(bh (WB b (rt 8 (EC R b.ins (i+1))) (rf 8 [(subT fr t).cells])) hI' hdR haR hne (by rw[DV Ab];simp) (q21 (by rw[hI.lenT];exact hdR)) (by rw[DV (by rw[hI.lenF];exact haR),hra];cases ((a:Int)==(d:Int)||(a:Int)==(d:Int))<;>rfl)).mono ?_
     rintro r h2 ⟨rfl,to2,maps2,hI2,hsub2⟩
     refine wk 1 ?_;refine AGo.sub (s':=⟨108,(Aa (Aa (Aa (Aa (Aa (Aa (Aa (Aa (Aa AU 2 (pZ 0)) 4 (pZ 1)) 5 (pZ 2)) 7 (.ref 5 b.ins.length 0 b.ins.length)) 33 (CU b.ins)) 34 (iN b.ins.length)) 35 (iN i)) 8 (iN i)) 9 (pZ 6)),FH (WB b (rt 8 (EC R b.ins (i+1))) (rf 8 [(subT fr t).cells])) R (A4 (CX (d:Int) fr) (d:Int) a) to2 maps2⟩) (qJ1 B4 hsub2) ?_;refine wk 40 ?_;exact⟨(i+1,A4 (CX (d:Int) fr) (d:Int) a,to2,maps2),qV3 uS (WI (o6:=.free) (OS b) rfl rfl rfl rfl rfl rfl (KM _ _ _) (fun _=>rfl)),⟨hil,by rw[NX ht,hF.pre,hn],hI2⟩,by show b.ins.length-(i+1)<b.ins.length-i;omega⟩
    have hn:DZ fr (subT fr t)=CX (d:Int) fr:=by unfold DZ;rw[hs1,hsn,show((subT fr t).a !=(d:Int))=false from hc2];cases ((subT fr t).op==2)<;>rfl
    exact wY
   have hn:DZ fr (subT fr t)=CX (d:Int) fr:=by unfold DZ;rw[hs1,hsn,show((subT fr t).op==2)=false from hc];rfl
   exact wY
  have hn:DZ fr (subT fr t)=fr:=by unfold DZ;rw[show decide ((subT fr t).sets>=0)=false from hs1];rfl
  refine wk 40 ?_;exact⟨(i+1,fr,to,maps),qV3 uS (WI (o6:=.free) (OS b) rfl rfl rfl rfl rfl rfl (KM _ _ _) (fun _=>rfl)),⟨hil,by rw[NX ht,hF.pre,hn],hI⟩,by show b.ins.length-(i+1)<b.ins.length-i;omega⟩
 have hin:i=b.ins.length:=by have:=hb2;simp at this;have:=hF.le;omega
 have hfr:(D1 (LV R) b.ins).2=fr:=by have:=hF.pre;rw[hin,q71]at this;exact this
 have hgg:∀{z:Int},0<=z/\z<R->(0:Int)<=z/\z<fr.length:=fun h=>by rw[hF.inv.lenF];exact h
 refine wk 2 ?_;refine qJ0 (Ghost.freeze 7 5 rfl rfl (Lu hF.le).symm) ?_;rw[q95,q20 (Nat.le_of_eq (Lu hF.le)),hin,gZ];refine wk 40 ?_;refine asp 99 (fun hc=>?_) fun hc=>?_
 .
  have hz:=hv (by simpa using hc);refine wk 40 ?_;refine aq 104 (Ae Ah (hm:=(by rw[H8,hF.inv.lenF])) (h0:=hz.1) (hn:=hz.2)) ?_;refine aq 105 (Ao Ah rfl rfl rfl (.ptr _ _ _ _ _ _ _ _ rfl (by rw[H8,hF.inv.lenF]) (Ny (hgg hz))) rfl) ?_;refine wk 40 ?_;refine⟨[_],⟨⟨_,_,_,_,rfl,rfl,.ptr _ _ _ _ _ _ _ _ rfl rfl rfl,rfl⟩,trivial⟩,?_,rfl⟩;unfold Block.forward;rw[hfr,show(b.fin==2)=true from hc];rfl
 refine wk 40 ?_;refine⟨[_],⟨⟨_,_,_,_,rfl,rfl,.ptr _ _ _ _ _ _ _ _ rfl rfl rfl,rfl⟩,trivial⟩,?_,rfl⟩;unfold Block.forward;rw[hfr,show(b.fin==2)=false from hc];rfl
set_option maxRecDepth 100000
structure Adm(f:BFunc):Prop where
  r0:0<=f.regs
  r1:f.regs<=4000
  n:f.blocks.length<=1048576
  i:∀x∈f.blocks,x.ins.length<=1048576
  t:∀x∈f.blocks,∀t∈x.ins,bE f.regs.toNat t
  v:∀x∈f.blocks,x.fin=2->0<=x.v/\x.v<f.regs.toNat
theorem Wm(f:BFunc)(hf:Adm f):Pu Tryz.prog 42 [.agg f.cells] (.tup [.agg f.forward.cells,.agg f.fcert.cells]):=by
 refine qK5 (n:=58) Ah Tryz.func42 rfl rfl ?_;have hn:=hf.n;have hr0:=hf.r0;have hr1:=hf.r1;refine wk 40 ?_;refine ax 1 (CC 2 0) ?_;refine ax 2 (DA Ah 1) ?_;refine ax 3 (DA Ah 2) ?_;refine wk 40 ?_;refine dx 15 (AK Ah (n:=f.blocks.length) (m:=f.blocks.length) 3 true (hby:=(by show 56*f.blocks.length<=_;omega))) ?_;refine wk 40 ?_;refine dx 4 (DA Ah 4) ?_;refine wk 40 ?_;refine ax 20 (AK Ah (n:=f.blocks.length) (m:=f.blocks.length) 5 true (hby:=Tn)) ?_;refine wk 40 ?_;refine ax 5 (DA Ah 6) ?_;refine wk 40 ?_;refine Ap (γ:=Nat) 7 (fun k=>⟨58,(Aa (Aa (Aa (Aa (Aa (Aa (Aa (Aa AU 1 (pZ 0)) 2 (pZ 1)) 3 (pZ 2)) 4 (pZ 4)) 5 (pZ 6)) 23 (BK f.blocks)) 24 (iN f.blocks.length)) 25 (iN k)),(Af (Af (Af (Af (Af (Af (Af (A0 7) 0 (rf 2 [f.cells])) 1 (rf 2 [[.int .i64 0,.nil]])) 2 (rf 1 [[.nil]])) 4 (rf 2 [[.int .i64 f.regs,.ref 3 f.blocks.length 0 f.blocks.length]])) 6 (rf 1 [[.ref 5 f.blocks.length 0 f.blocks.length]])) 3 (rt 5 (((((f.blocks.map (Block.forward f.regs.toNat)).take (k)).map Block.cells)++List.replicate (f.blocks.length-(k)) [.nil,.int .i64 0,.int .i64 0,.int .i64 0,.int .i64 0])))) 5 (rt 1 (((((List.replicate f.blocks.length (List.replicate f.regs.toNat true)).take (k)).map D3)++List.replicate (f.blocks.length-(k)) [.nil]))))⟩) (fun k=>k<=f.blocks.length) (fun k=>f.blocks.length-k) 0 (qJ1 Cq Vj) (qZ1 _) (fun _=>(Ac (Ac (Ac (Ac (Ac (B9) rfl) rfl) rfl) rfl) rfl)) ?_
 intro k hk;refine wk 40 ?_;refine asp 26 (fun hb1=>?_) fun hb1=>?_
 .
  have hkl:k<f.blocks.length:=by simpa using hb1
  obtain⟨x,hx⟩:=Ad hkl;have hxm:=q33 hx;have hxf:(f.blocks.map (Block.forward f.regs.toNat))[k]?=some (x.forward f.regs.toNat):=by simp[hx]
  refine wk 40 ?_;refine aq 28 (En Ah (Au hx)) ?_;refine wk 1 ?_;refine ax 7 (DA Ah 7) ?_;refine wk 40 ?_;have hfw:=Wl x f.regs.toNat Ab (by have:=hf.i x hxm;omega) (hf.t x hxm) (hf.v x hxm);rw[show((f.regs.toNat:Nat):Int)=f.regs by omega]at hfw;refine DOps.x 36 rfl rfl rfl (Cn Tryz.func57 hfw) ?_;refine dq 37 (Ae Ah rfl rfl rfl rfl rfl rfl rfl (AL (by simp:(f.blocks.map (Block.forward f.regs.toNat)).length=f.blocks.length) (qX0 hkl)) rfl (q46 _) Ab) ?_;refine qK8 rfl rfl (AY Ah rfl rfl rfl rfl rfl rfl (AL (by simp:(f.blocks.map (Block.forward f.regs.toNat)).length=f.blocks.length) (qX0 hkl)) (CH (by simp:(f.blocks.map (Block.forward f.regs.toNat)).length=f.blocks.length) hkl) rfl Al rfl C1) ?_;refine wk 40 ?_;refine ax 40 (AK Ah (n:=f.regs.toNat) (m:=f.regs.toNat) 8 true (hni:=Ab) (hnj:=Ab) (hby:=(by show 1*f.regs.toNat<=_;omega))) ?_;refine wk 40 ?_;refine Ap (γ:=Nat) 9 (fun j=>⟨58,(Aa (Aa (Aa (Aa (Aa (Aa (Aa (Aa (Aa (Aa (Aa (Aa AU 1 (pZ 0)) 2 (pZ 1)) 3 (pZ 2)) 4 (pZ 4)) 5 (pZ 6)) 23 (BK f.blocks)) 24 (iN f.blocks.length)) 25 (iN k)) 6 (iN k)) 8 (.ref 8 f.regs.toNat 0 f.regs.toNat)) 42 (iN f.regs.toNat)) 43 (iN j)),Af (Af (Af (Af (Af (Af (Af (Af (A0 9) 0 (rf 2 [f.cells])) 1 (rf 2 [[.int .i64 0,.nil]])) 2 (rf 1 [[.nil]])) 4 (rf 2 [[.int .i64 f.regs,.ref 3 f.blocks.length 0 f.blocks.length]])) 6 (rf 1 [[.ref 5 f.blocks.length 0 f.blocks.length]])) 3 (rt 5 (((((f.blocks.map (Block.forward f.regs.toNat)).take (k+1)).map Block.cells)++List.replicate (f.blocks.length-(k+1)) [.nil,.int .i64 0,.int .i64 0,.int .i64 0,.int .i64 0])))) 5 (rt 1 (((((List.replicate f.blocks.length (List.replicate f.regs.toNat true)).take (k)).map D3)++List.replicate (f.blocks.length-(k)) [.nil])))) 8 (rt 1 ((((List.replicate f.regs.toNat true).take (j)).map Bn)++List.replicate (f.regs.toNat-(j)) [.bool false]))⟩) (fun j=>j<=f.regs.toNat) (fun j=>f.regs.toNat-j) 0 (qJ1 B4 (by repeat(first|exact qJ6 _|exact AO _|exact AG Al|refine qJ5 ?_ (by first|rfl|exact congrArg (fun es=>some (rt 5 es)) (Ct (f:=Block.cells) (by simp:(f.blocks.map (Block.forward f.regs.toNat)).length=f.blocks.length) hxf))|refine AN ?_ Al))) (qZ1 _) (fun _=>(Ac (Ac (Ac (Ac (Ac (Ac (B9) rfl) rfl) rfl) rfl) rfl) rfl)) ?_
  intro j hj;refine wk 40 ?_;refine asp 44 (fun hb2=>?_) fun hb2=>?_
  .
   have hjl:j<f.regs.toNat:=by have h:=hb2;simp at h;omega
   refine wk 40 ?_;refine aq 48 (Ae Ah rfl rfl rfl rfl rfl rfl rfl (AL (by simp:(List.replicate f.regs.toNat true).length=f.regs.toNat) (qX0 hjl)) rfl (q46 _) Ab) ?_;refine qK6 rfl rfl (AY Ah rfl rfl rfl rfl rfl rfl (AL (by simp:(List.replicate f.regs.toNat true).length=f.regs.toNat) (qX0 hjl)) (CH (by simp:(List.replicate f.regs.toNat true).length=f.regs.toNat) hjl) rfl Al rfl C1) ?_;refine wk 2 ?_;refine aq 49 (AS rfl rfl hjl Bq) ?_;refine wk 40 ?_;exact tA
  have hge2:f.regs.toNat<=j:=by have h:=hb2;simp at h;omega
  refine wk 2 ?_;refine qJ0 (.freeze 8 8 rfl rfl (AL (by simp:(List.replicate f.regs.toNat true).length=f.regs.toNat) hj)) ?_;refine wk 40 ?_;refine aq 54 (Ae Ah rfl rfl rfl rfl rfl rfl rfl (AL (by simp:(List.replicate f.blocks.length (List.replicate f.regs.toNat true)).length=f.blocks.length) (qX0 hkl)) rfl (q46 _) Ab) ?_;refine qK6 rfl rfl (AY Ah rfl rfl rfl rfl rfl rfl (AL (by simp:(List.replicate f.blocks.length (List.replicate f.regs.toNat true)).length=f.blocks.length) (qX0 hkl)) (CH (by simp:(List.replicate f.blocks.length (List.replicate f.regs.toNat true)).length=f.blocks.length) hkl) rfl Al rfl C1) ?_;refine wk 2 ?_;refine aq 55 (AS rfl rfl hkl Bq) ?_;refine wk 40 ?_;have hcr:=Dg (f:=Bn) (z:=[.bool false]) (by simp:(List.replicate f.regs.toNat true).length=f.regs.toNat) hge2;have hrow:=Ct (f:=D3) (z:=[.nil]) (x:=List.replicate f.regs.toNat true) (by simp:(List.replicate f.blocks.length (List.replicate f.regs.toNat true)).length=f.blocks.length) (by simp[hkl]:(List.replicate f.blocks.length (List.replicate f.regs.toNat true))[k]?=some (List.replicate f.regs.toNat true))
  exact⟨k+1,qV1 Vh (by repeat(first|exact qJ8 _ _|exact qV0 _ _|refine qJ9 ?_ (by first|rfl|exact congrArg (fun es=>some (rt 1 es)) (by rw[<-hrow];exact congrArg (fun b=>List.set _ _ [AV.lst false b]) hcr)) rfl rfl)),hkl,by omega⟩
 have hge:f.blocks.length<=k:=by simpa using hb1
 refine wk 2 ?_;refine qJ0 (.freezeCell 4 0 1 3 rfl rfl rfl rfl (AL (by simp:(f.blocks.map (Block.forward f.regs.toNat)).length=f.blocks.length) hk) Al) ?_;refine qJ0 (.freezeCell 6 0 0 5 rfl rfl rfl rfl (AL (by simp:(List.replicate f.blocks.length (List.replicate f.regs.toNat true)).length=f.blocks.length) hk) Al) ?_;refine wk 40 ?_;refine⟨[_,_],⟨⟨_,_,_,_,rfl,rfl,.ptr _ _ _ _ _ _ _ _ rfl rfl rfl,rfl⟩,⟨_,_,_,_,rfl,rfl,.ptr _ _ _ _ _ _ _ _ rfl rfl rfl,rfl⟩,trivial⟩,?_,rfl⟩;have e1:=Dg (f:=Block.cells) (z:=[.nil,.int .i64 0,.int .i64 0,.int .i64 0,.int .i64 0]) (by simp:(f.blocks.map (Block.forward f.regs.toNat)).length=f.blocks.length) hge;exact sY
theorem Xf(f:BFunc)(hc:f.count<=1000000000):Pu Tryz.prog 35 [.agg f.cells] (.int .i64 (f.count:Int)):=by
 have hs3:=F2 f;refine qK5 (n:=25) Ah Tryz.func35 rfl rfl ?_;refine oK ?_;refine Ij 0 rfl (fun H ι v=>N9) (fun hfit=>?_);refine bB ?_;refine ax 1 (CC 2 0) ?_;refine wk 15 ?_;refine Ap (γ:=Nat) 1 (fun j=>⟨25,(Aa (Aa (Aa AU 1 (pZ 0)) 3 (.int .i64 ((f.blocks.length+Eu (f.blocks.take j):Nat):Int))) 4 (iN j)),(Af (A0 1) 0 (rf 2 [f.cells]))⟩) (fun j=>True) (fun j=>f.blocks.length-j) 0 (qJ1 (by repeat(first|exact qJ2 _|refine qJ3 ?_ (by first|rfl|exact congrArg (fun(n:Nat)=>some (AV.int .i64 (n:Int))) (by show(List.map Block.cells f.blocks).length=f.blocks.length+0;simp)))) B5) trivial (fun _=>B9) ?_;intro j _;refine wk 9 ?_;refine asp 12 (fun hb1=>?_) fun hb1=>?_
 .
  refine Ba ?_;have hjl:j<f.blocks.length:=by simpa using hb1
  obtain⟨x,hx⟩:=Ad hjl;have hs4:=Wf hx;have hs5:=We (l:=f.blocks) (k:=j+1);refine wk 8 ?_;refine aq 19 F6 ?_;refine wk 3 ?_;refine aq 23 (A9 (r:=.int .i64 (((f.blocks.length+Eu (f.blocks.take j))+x.ins.length:Nat):Int)) rfl rfl rfl (by simp only[A8,BP,isShift,qZ3,qZ8];rw[q76,B8 Ab Ab];rfl)) ?_;refine wk 4 ?_;refine aq 14 (AS rfl rfl hjl hfit.1) ?_;refine wk 2 ?_;exact⟨j+1,qV1 (by repeat(first|exact EDrop.new _ _|refine EDrop.put ?_ (by first|rfl|exact congrArg (fun(n:Nat)=>some (AV.int .i64 (n:Int))) (by rw[hs4];omega)) d9)) FM,trivial,by omega⟩
 refine Bg ?_;have hje:Eu (f.blocks.take j)=Eu f.blocks:=by rw[q20 (by simpa using hb1)]
 refine wk 6 ?_;refine CE ⟨[_],⟨rfl,trivial⟩,?_,rfl⟩;show AV.int .i64 _=AV.int .i64 _;congr 1;rw[hje,hs3]
theorem kL(b:Blocks)(hc:b.count<=1000000000):Pu Tryz.prog 27 [.agg b.cells] (.int .i64 (b.count:Int)):=by
 refine qK5 (n:=21) Ah Tryz.func27 rfl rfl ?_;refine oK ?_;refine Ij 0 rfl (fun H ι v=>M2) (fun hfit=>?_);refine bB ?_;refine ax 1 (CC 2 0) ?_;refine wk 12 ?_;refine Ap (γ:=Nat) 1 (fun k=>⟨21,(Aa (Aa (Aa AU 1 (pZ 0)) 3 (.int .i64 ((((b.funcs.take k).map BFunc.count).sum:Nat):Int))) 4 (iN k)),(Af (A0 1) 0 (rf 2 [b.cells]))⟩) (fun k=>True) (fun k=>b.funcs.length-k) 0 (qJ1 Cq B5) trivial (fun _=>B9) ?_;intro k _;refine wk 9 ?_;refine asp 9 (fun hb1=>?_) fun hb1=>?_
 .
  refine Ba ?_;have hkl:k<b.funcs.length:=by simpa using hb1
  obtain⟨f,hf⟩:=Ad hkl;have hs1:=ki (p:=BFunc.count) hf;have hs2:_<=b.count:=Pe (l:=b.funcs) (p:=BFunc.count) (k:=k+1);have hs3:=F2 f;refine wk 8 ?_;refine aq 16 F6 ?_;refine wk 1 ?_;refine ax 18 (Cn Tryz.func35 (Xf f Ab)) ?_;refine aq 19 (A9 (r:=.int .i64 ((((b.funcs.take k).map BFunc.count).sum+f.count:Nat):Int)) rfl rfl rfl (by simp only[A8,BP,isShift,qZ3,qZ8];rw[B8 Ab Ab];rfl)) ?_;refine wk 4 ?_;refine aq 11 (AS rfl rfl hkl hfit.1) ?_;refine wk 2 ?_;exact⟨k+1,qV1 (by repeat(first|exact EDrop.new _ _|refine EDrop.put ?_ (by first|rfl|exact congrArg (fun(n:Nat)=>some (AV.int .i64 (n:Int))) (by rw[hs1])) d9)) FM,trivial,by omega⟩
 refine Bg ?_;have hke:((b.funcs.take k).map BFunc.count).sum=b.count:=pt (by simpa using hb1);refine wk 6 ?_;refine CE ⟨[_],⟨rfl,trivial⟩,?_,rfl⟩;show AV.int .i64 _=AV.int .i64 _;congr 1;rw[hke]
theorem pC(t:Tac):Pu Tryz.prog 74 [.agg t.cells] (.int .i64 t.sets):=by
 refine qK5 (n:=14) Ah Tryz.func74 rfl rfl ?_;refine FL ?_;refine ax 1 (CC 8 0) ?_;refine wk 15 ?_;refine asp 5 (fun hb1=>?_) fun hb1=>?_
 .
  refine wk 9 ?_;exact Zg
 refine wk 6 ?_;refine asp 5 (fun hb2=>?_) fun hb2=>?_
 .
  refine wk 9 ?_;exact Zg
 refine wk 6 ?_;refine asp 5 (fun hb3=>?_) fun hb3=>?_
 .
  refine wk 9 ?_;exact Zg
 refine wk 6 ?_;refine asp 5 (fun hb4=>?_) fun hb4=>?_
 .
  refine wk 9 ?_;exact Zg
 refine wk 6 ?_;refine asp 5 (fun hb5=>?_) fun hb5=>?_
 .
  refine wk 9 ?_;exact Zg
 refine wk 5 ?_;refine asp 5 (fun hb6=>?_) fun hb6=>?_
 .
  refine wk 7 ?_;exact Zg
 refine wk 6 ?_;exact Zg
theorem pn(t:Tac):Pu Tryz.prog 75 [.agg t.cells] (AI t.uses):=by
 refine qK5 (n:=21) Ah Tryz.func75 rfl rfl ?_;refine FL ?_;refine ax 1 (CC 8 0) ?_;refine wk 15 ?_;refine asp 5 (fun hb1=>?_) fun hb1=>?_
 .
  refine wk 7 ?_;exact bV
 refine wk 6 ?_;refine asp 5 (fun hb2=>?_) fun hb2=>?_
 .
  refine wk 7 ?_;exact bV
 refine wk 6 ?_;refine asp 5 (fun hb3=>?_) fun hb3=>?_
 .
  refine wk 7 ?_;exact bV
 refine wk 5 ?_;refine asp 5 (fun hb4=>?_) fun hb4=>?_
 .
  refine wk 5 ?_;exact bV
 refine wk 7 ?_;refine asp 13 (fun hb5=>?_) fun hb5=>?_
 .
  refine wk 9 ?_;exact rB
 refine wk 5 ?_;refine asp 13 (fun hb6=>?_) fun hb6=>?_
 .
  refine wk 7 ?_;exact rB
 refine wk 6 ?_;refine qJ0 (.empty 2 rfl) ?_;exact uC
theorem CW(i j:Int):Pu Tryz.prog 73 [.int .i64 i,.int .i64 j] (.bool (A2 i j)):=by
 refine qK5 (n:=12) Ah Tryz.func73 rfl rfl ?_;refine wk 9 ?_;refine BM 7 (fun hb1=>?_) fun hb1=>?_
 .
  exact rj
 exact rj
theorem qL(b:Block)(blocks regs:Int):Pu Tryz.prog 54 [.agg b.cells,.int .i64 blocks,.int .i64 regs] (.bool (b.ends blocks regs)):=by
 refine qK5 (n:=61) Ah Tryz.func54 rfl rfl ?_;refine FL ?_;refine ax 3 (CC 5 0) ?_;refine wk 14 ?_;refine asp 9 (fun hb1=>?_) fun hb1=>?_
 .
  refine wk 6 ?_;refine ax 14 (Cn Tryz.func73 (CW _ _)) ?_;refine wk 1 ?_;refine BM 15 (fun hb2=>?_) fun hb2=>?_
  .
   refine wk 5 ?_;refine BM 20 (fun hb3=>?_) fun hb3=>?_
   .
    refine wk 6 ?_;exact SZ
   refine wk 6 ?_;exact SZ
  refine wk 11 ?_;exact SZ
 refine wk 6 ?_;refine asp 25 (fun hb4=>?_) fun hb4=>?_
 .
  refine wk 6 ?_;refine ax 30 (Cn Tryz.func73 (CW _ _)) ?_;refine wk 1 ?_;refine BM 31 (fun hb5=>?_) fun hb5=>?_
  .
   refine wk 3 ?_;refine ax 35 (Cn Tryz.func73 (CW _ _)) ?_;refine wk 2 ?_;refine BM 37 (fun hb6=>?_) fun hb6=>?_
   .
    refine wk 3 ?_;refine ax 41 (Cn Tryz.func73 (CW _ _)) ?_;refine wk 3 ?_;exact SZ
   refine wk 7 ?_;exact SZ
  refine wk 13 ?_;exact SZ
 refine wk 8 ?_;refine BM 46 (fun hb7=>?_) fun hb7=>?_
 .
  refine wk 5 ?_;refine BM 51 (fun hb8=>?_) fun hb8=>?_
  .
   refine wk 5 ?_;refine BM 56 (fun hb9=>?_) fun hb9=>?_
   .
    refine wk 6 ?_;exact SZ
   refine wk 6 ?_;exact SZ
  refine wk 11 ?_;exact SZ
 refine wk 16 ?_;exact SZ
theorem qH(t:Tac)(f regs words:Int)(hw:0<=words)(hw2:words<=1048576):Pu Tryz.prog 55 [.agg t.cells,.int .i64 f,.int .i64 regs,.int .i64 words] (.bool (t.fits f regs words)):=by
 refine qK5 (n:=166) Ah Tryz.func55 rfl rfl ?_;refine FL ?_;refine ax 4 (CC 8 0) ?_;refine wk 9 ?_;refine BM 15 (fun hb1=>?_) fun hb1=>?_
 .
  refine wk 10 ?_;exact rp
 refine wk 5 ?_;refine asp 19 (fun hb2=>?_) fun hb2=>?_
 .
  refine wk 5 ?_;exact rp
 refine wk 7 ?_;refine ax 9 (DA Ah 1) ?_;refine wk 3 ?_;refine qV2 (γ:=Int) (fun d=>⟨166,(Aa (Aa (Aa (Aa (Aa AU 1 (.int .i64 f)) 2 (.int .i64 regs)) 3 (.int .i64 words)) 4 (pZ 0)) 9 (pZ 1)),(Af (Af (A0 2) 0 (rf 8 [t.cells])) 1 (rf 8 [[.int .i64 t.op,.int .i64 d,.int .i64 0,.int .i64 0,.int .i64 0,.int .i64 0,.int .i64 0,.int .u32 0]]))⟩) (fun d=>(!setsOp t.op||A2 t.d regs)=true/\d=bif setsOp t.op then t.d else 0) ?_ ?_
 .
  refine wk 3 ?_;refine ax 24 (Cn Tryz.func74 (pC _)) ?_;refine wk 2 ?_;refine BM 26 (fun hb3=>?_) fun hb3=>?_
  .
   refine wk 43 ?_;refine ax 62 (Cn Tryz.func73 (CW _ _)) ?_;refine wk 2 ?_;refine asp 63 (fun hb4=>?_) fun hb4=>?_
   .
    exact Zi
   exact Zk
  refine wk 5 ?_;refine BM 31 (fun hb5=>?_) fun hb5=>?_
  .
   refine wk 38 ?_;refine ax 62 (Cn Tryz.func73 (CW _ _)) ?_;refine wk 2 ?_;refine asp 63 (fun hb6=>?_) fun hb6=>?_
   .
    exact Zi
   exact Zk
  refine wk 5 ?_;refine BM 36 (fun hb7=>?_) fun hb7=>?_
  .
   refine wk 33 ?_;refine ax 62 (Cn Tryz.func73 (CW _ _)) ?_;refine wk 2 ?_;refine asp 63 (fun hb8=>?_) fun hb8=>?_
   .
    exact Zi
   exact Zk
  refine wk 5 ?_;refine BM 41 (fun hb9=>?_) fun hb9=>?_
  .
   refine wk 28 ?_;refine ax 62 (Cn Tryz.func73 (CW _ _)) ?_;refine wk 2 ?_;refine asp 63 (fun hb10=>?_) fun hb10=>?_
   .
    exact Zi
   exact Zk
  refine wk 5 ?_;refine BM 46 (fun hb11=>?_) fun hb11=>?_
  .
   refine wk 23 ?_;refine ax 62 (Cn Tryz.func73 (CW _ _)) ?_;refine wk 2 ?_;refine asp 63 (fun hb12=>?_) fun hb12=>?_
   .
    exact Zi
   exact Zk
  refine wk 5 ?_;refine BM 51 (fun hb13=>?_) fun hb13=>?_
  .
   refine wk 18 ?_;refine ax 62 (Cn Tryz.func73 (CW _ _)) ?_;refine wk 2 ?_;refine asp 63 (fun hb14=>?_) fun hb14=>?_
   .
    exact Zi
   exact Zk
  refine wk 5 ?_;refine asp 55 (fun hb15=>?_) fun hb15=>?_
  .
   refine wk 13 ?_;refine ax 62 (Cn Tryz.func73 (CW _ _)) ?_;refine wk 2 ?_;refine asp 63 (fun hb16=>?_) fun hb16=>?_
   .
    exact Zi
   exact Zk
  refine wk 2 ?_;exact⟨0,qJ1 B4 B5,⟨by simp[setsOp, *],by simp[setsOp, *]⟩⟩
 intro d ⟨hd,hdd⟩;refine wk 3 ?_;refine ax 65 (Cn Tryz.func75 (pn _)) ?_;refine wk 8 ?_;refine Ap (γ:=Nat) 2 (fun j=>⟨166,(Aa (Aa (Aa (Aa (Aa (Aa (Aa AU 1 (.int .i64 f)) 2 (.int .i64 regs)) 3 (.int .i64 words)) 4 (pZ 0)) 9 (pZ 1)) 10 (AI t.uses)) 11 (iN j)),(Af (Af (A0 2) 0 (rf 8 [t.cells])) 1 (rf 8 [[.int .i64 t.op,.int .i64 d,.int .i64 0,.int .i64 0,.int .i64 0,.int .i64 0,.int .i64 0,.int .u32 0]]))⟩) (fun j=>(t.uses.take j).all (fun r=>A2 r regs)=true) (fun j=>t.uses.length-j) 0 (qJ1 B4 B5) rfl (fun _=>B9) ?_;intro j hj;refine wk 8 ?_;refine asp 69 (fun hb17=>?_) fun hb17=>?_
 .
  refine Ba ?_;have hjl:j<t.uses.length:=Dq hb17;obtain⟨u,hu⟩:=Ad hjl;refine wk 7 ?_;refine aq 74 F6 ?_;refine wk 2 ?_;refine ax 77 (Cn Tryz.func73 (CW _ _)) ?_;refine wk 2 ?_;refine asp 78 (fun hb18=>?_) fun hb18=>?_
  .
   refine Ba ?_;have hbw:=hb18;refine wk 4 ?_;refine CE ⟨[_],⟨rfl,trivial⟩,?_,rfl⟩;refine bc ?_;exact(nh (Cw hu (by simpa using hbw))).symm
  refine Bg ?_;have hbw:=hb18;refine wk 3 ?_;refine aq 71 (AS rfl rfl hjl (qX2 (W6 t) Al)) ?_;exact tF
 refine Bg ?_;have hall:=CJ hj (Dr hb17);refine wk 2 ?_;refine qV2 (γ:=Int) (fun a=>⟨166,(Aa (Aa (Aa (Aa (Aa (Aa AU 1 (.int .i64 f)) 2 (.int .i64 regs)) 3 (.int .i64 words)) 4 (pZ 0)) 9 (pZ 1)) 10 (AI t.uses)),(Af (Af (A0 2) 0 (rf 8 [t.cells])) 1 (rf 8 [[.int .i64 t.op,.int .i64 d,.int .i64 a,.int .i64 0,.int .i64 0,.int .i64 0,.int .i64 0,.int .u32 0]]))⟩) (fun a=>a=bif use1 t.op||use2 t.op then t.a else 0) ?_ ?_
 .
  refine wk 6 ?_;refine asp 81 (fun hb19=>?_) fun hb19=>?_
  .
   refine wk 7 ?_;exact⟨t.a,qJ1 B4 B5,by have h3:=O9 t.op;cases h1:use1 t.op<;>cases h2:use2 t.op<;>simp_all[Tac.uses]⟩
  exact wU
 intro a haa;refine oK ?_;refine qV2 (γ:=Int) (fun b=>⟨166,(Aa (Aa (Aa (Aa (Aa AU 1 (.int .i64 f)) 2 (.int .i64 regs)) 3 (.int .i64 words)) 4 (pZ 0)) 9 (pZ 1)),(Af (Af (A0 2) 0 (rf 8 [t.cells])) 1 (rf 8 [[.int .i64 t.op,.int .i64 d,.int .i64 a,.int .i64 b,.int .i64 0,.int .i64 0,.int .i64 0,.int .u32 0]]))⟩) (fun b=>b=bif use2 t.op then t.b else 0) ?_ ?_
 .
  refine wk 6 ?_;refine asp 87 (fun hb20=>?_) fun hb20=>?_
  .
   refine wk 7 ?_;exact⟨t.b,qJ1 B4 B5,by have h3:=O9 t.op;cases h1:use1 t.op<;>cases h2:use2 t.op<;>simp_all[Tac.uses]⟩
  exact wU
 intro b hbb;refine wk 12 ?_;refine asp 93 (fun hb21=>?_) fun hb21=>?_
 .
  refine wk 11 ?_;exact ri
 refine wk 6 ?_;refine asp 98 (fun hb22=>?_) fun hb22=>?_
 .
  refine wk 14 ?_;refine BM 106 (fun hb23=>?_) fun hb23=>?_
  .
   refine wk 10 ?_;exact iL
  refine wk 5 ?_;refine asp 110 (fun hb24=>?_) fun hb24=>?_
  .
   refine wk 5 ?_;exact iL
  refine wk 6 ?_;exact ri
 refine wk 7 ?_;refine asp 111 (fun hb25=>?_) fun hb25=>?_
 .
  refine wk 15 ?_;refine ax 120 (Cn Tryz.func73 (CW _ _)) ?_;refine wk 2 ?_;refine asp 121 (fun hb26=>?_) fun hb26=>?_
  .
   refine wk 5 ?_;exact iL
  refine wk 6 ?_;exact ri
 refine wk 5 ?_;refine asp 111 (fun hb27=>?_) fun hb27=>?_
 .
  refine wk 13 ?_;refine ax 120 (Cn Tryz.func73 (CW _ _)) ?_;refine wk 2 ?_;refine asp 121 (fun hb28=>?_) fun hb28=>?_
  .
   refine wk 5 ?_;exact iL
  refine wk 6 ?_;exact ri
 refine wk 7 ?_;refine asp 122 (fun hb29=>?_) fun hb29=>?_
 .
  refine wk 20 ?_;refine BM 134 (fun hb30=>?_) fun hb30=>?_
  .
   refine wk 24 ?_;exact WQ
  refine wk 5 ?_;refine BM 139 (fun hb31=>?_) fun hb31=>?_
  .
   refine wk 19 ?_;exact WQ
  refine wk 5 ?_;refine BM 144 (fun hb32=>?_) fun hb32=>?_
  .
   refine wk 14 ?_;exact WQ
  refine wk 9 ?_;refine asp 152 (fun hb33=>?_) fun hb33=>?_
  .
   refine wk 5 ?_;exact WQ
  refine wk 6 ?_;exact ri
 refine wk 5 ?_;refine asp 122 (fun hb34=>?_) fun hb34=>?_
 .
  refine wk 18 ?_;refine BM 134 (fun hb35=>?_) fun hb35=>?_
  .
   refine wk 24 ?_;exact WQ
  refine wk 5 ?_;refine BM 139 (fun hb36=>?_) fun hb36=>?_
  .
   refine wk 19 ?_;exact WQ
  refine wk 5 ?_;refine BM 144 (fun hb37=>?_) fun hb37=>?_
  .
   refine wk 14 ?_;exact WQ
  refine wk 9 ?_;refine asp 152 (fun hb38=>?_) fun hb38=>?_
  .
   refine wk 5 ?_;exact WQ
  refine wk 6 ?_;exact ri
 refine wk 6 ?_;refine asp 153 (fun hb39=>?_) fun hb39=>?_
 .
  refine wk 13 ?_;refine ax 161 (Cn Tryz.func73 (CW _ _)) ?_;refine wk 2 ?_;refine asp 162 (fun hb40=>?_) fun hb40=>?_
  .
   refine wk 5 ?_;exact iL
  refine wk 6 ?_;exact ri
 refine wk 6 ?_;exact ri
theorem vI(f:BFunc)(number words:Int)(hw:0<=words)(hw2:words<=1048576):Pu Tryz.prog 40 [.agg f.cells,.int .i64 number,.int .i64 words] (.bool (f.one number words)):=by
 refine qK5 (n:=68) Ah Tryz.func40 rfl rfl ?_;refine oK ?_;refine Ij 0 rfl (fun H ι v=>N9) (fun hfit=>?_);refine bB ?_;refine ax 3 (CC 2 0) ?_;refine wk 9 ?_;refine BM 12 (fun hb1=>?_) fun hb1=>?_
 .
  refine wk 16 ?_;exact i5
 refine wk 5 ?_;refine BM 17 (fun hb2=>?_) fun hb2=>?_
 .
  refine wk 11 ?_;exact i5
 refine wk 6 ?_;refine asp 22 (fun hb3=>?_) fun hb3=>?_
 .
  refine wk 5 ?_;exact i5
 refine Bg ?_;have h0:0<=f.regs/\f.regs<=4000/\f.blocks.length≠0:=by simp_all<;>omega
 refine wk 7 ?_;refine Ap (γ:=Nat) 1 (fun k=>⟨68,(Aa (Aa (Aa (Aa AU 1 (.int .i64 number)) 2 (.int .i64 words)) 3 (pZ 0)) 7 (iN k)),(Af (A0 1) 0 (rf 2 [f.cells]))⟩) (fun k=>(f.blocks.take k).all (fun x=>x.ok f.blocks.length f.regs number words)=true) (fun k=>f.blocks.length-k) 0 (qJ1 B4 B5) rfl (fun _=>B9) ?_;intro k hk;refine wk 9 ?_;refine asp 27 (fun hb4=>?_) fun hb4=>?_
 .
  refine Ba ?_;have hkl:k<f.blocks.length:=Dq hb4;obtain⟨x,hx⟩:=Ad hkl;refine wk 9 ?_;refine dq 33 F6 ?_;refine wk 6 ?_;refine dx 40 (Cn Tryz.func54 (qL x _ _)) ?_;refine dq 41 (Iu rfl rfl) ?_;refine wk 1 ?_;refine asp 41 (fun hb5=>?_) fun hb5=>?_
  .
   refine Ba ?_;have hends:x.ends f.blocks.length f.regs=false:=by simpa using hb5
   refine wk 4 ?_;refine CE ⟨[_],⟨rfl,trivial⟩,?_,rfl⟩;refine bc ?_;rw[Iw h0.1 h0.2.1 h0.2.2,Cw hx (by simp[Block.ok,hends])]
  refine Bg ?_;have hends:x.ends f.blocks.length f.regs=true:=by simpa using hb5
  refine wk 6 ?_;refine Ap (γ:=Nat) 1 (fun j=>⟨68,(Aa (Aa (Aa (Aa (Aa AU 1 (.int .i64 number)) 2 (.int .i64 words)) 3 (pZ 0)) 7 (iN k)) 8 (iN j)),(Af (A0 1) 0 (rf 2 [f.cells]))⟩) (fun j=>(x.ins.take j).all (fun t=>t.fits number f.regs words)=true) (fun j=>x.ins.length-j) 0 (qJ1 B4 B5) rfl (fun _=>B9) ?_;intro j hj;refine wk 7 ?_;refine aq 46 F6 ?_;refine wk 5 ?_;refine asp 50 (fun hb6=>?_) fun hb6=>?_
  .
   refine Ba ?_;have hjl:j<x.ins.length:=Dq hb6;obtain⟨u,hu⟩:=Ad hjl;refine wk 8 ?_;refine dq 56 F6 ?_;refine wk 3 ?_;refine dq 60 F6 ?_;refine wk 5 ?_;refine dx 66 (Cn Tryz.func55 (qH u _ _ _ hw hw2)) ?_;refine dq 67 (Iu rfl rfl) ?_;refine wk 1 ?_;refine asp 67 (fun hb7=>?_) fun hb7=>?_
   .
    refine Ba ?_;have hbw:=hb7;refine wk 4 ?_;refine CE ⟨[_],⟨rfl,trivial⟩,?_,rfl⟩;refine bc ?_;rw[Iw h0.1 h0.2.1 h0.2.2,Cw hx (by simp only[Block.ok,Cw (p:=fun t=>Tac.fits t number f.regs words) hu (by simpa using hbw),q97])]
   refine Bg ?_;have hbw:=hb7;refine wk 3 ?_;refine aq 52 (AS rfl rfl hjl (hfit.2 x (q33 hx))) ?_;exact tF
  refine Bg ?_;have hins:=CJ hj (Dr hb6);refine wk 3 ?_;refine aq 29 (AS rfl rfl hkl hfit.1) ?_;refine wk 2 ?_;exact⟨k+1,qV1 D5 FM,Cv hx hk (by simp[Block.ok,hends,hins]),by omega⟩
 refine Bg ?_;have hall:=CJ hk (Dr hb4);refine wk 5 ?_;refine CE ⟨[_],⟨rfl,trivial⟩,?_,rfl⟩;refine bc ?_;rw[Iw h0.1 h0.2.1 h0.2.2,hall]
theorem M0(b:Blocks):Pu Tryz.prog 29 [.agg b.cells] (.bool b.right):=by
 refine qK5 (n:=35) Ah Tryz.func29 rfl rfl ?_;refine oK ?_;refine Ij 0 rfl (fun H ι v=>M2) (fun hfit=>?_);refine bB ?_;refine ax 1 (CC 2 0) ?_;refine wk 9 ?_;refine BM 7 (fun hb1=>?_) fun hb1=>?_
 .
  refine wk 16 ?_;exact i6
 refine wk 5 ?_;refine BM 12 (fun hb2=>?_) fun hb2=>?_
 .
  refine wk 11 ?_;exact i6
 refine wk 6 ?_;refine asp 17 (fun hb3=>?_) fun hb3=>?_
 .
  refine wk 5 ?_;exact i6
 refine Bg ?_;have h0:0<=b.words/\b.words<=1048576/\b.funcs.length≠0:=by simp_all<;>omega
 refine wk 7 ?_;refine Ap (γ:=Nat) 1 (fun k=>⟨35,(Aa (Aa AU 1 (pZ 0)) 3 (iN k)),(Af (A0 1) 0 (rf 2 [b.cells]))⟩) (fun k=>(b.funcs.zipIdx.take k).all (fun p=>p.1.one (p.2:Int) b.words)=true) (fun k=>b.funcs.length-k) 0 (qJ1 B4 B5) rfl (fun _=>B9) ?_;intro k hk;refine wk 9 ?_;refine asp 22 (fun hb4=>?_) fun hb4=>?_
 .
  refine Ba ?_;have hkl:k<b.funcs.length:=Dq hb4;obtain⟨x,hx⟩:=Ad hkl;refine wk 8 ?_;refine dq 28 F6 ?_;refine wk 4 ?_;refine dx 33 (Cn Tryz.func40 (vI x _ _ h0.1 h0.2.1)) ?_;refine dq 34 (Iu rfl rfl) ?_;refine wk 1 ?_;refine asp 34 (fun hb5=>?_) fun hb5=>?_
  .
   refine Ba ?_;have hone:=hb5;refine wk 4 ?_;refine CE ⟨[_],⟨rfl,trivial⟩,?_,rfl⟩;refine bc ?_;rw[HG h0.1 h0.2.1 h0.2.2,Cw (BG hx) (by simpa using hone)]
  refine Bg ?_;have hone:=hb5;refine wk 3 ?_;refine aq 24 (AS rfl rfl hkl hfit.1) ?_;refine wk 2 ?_;exact⟨k+1,qV1 D5 FM,Cv (BG hx) hk (by simpa using hone),by omega⟩
 refine Bg ?_;have hall:=CJ hk (by rw[List.length_zipIdx];exact Dr hb4);exact rz
theorem ZM(b:Blocks)(hL:b.Lim):Pu Tryz.prog 13 [.agg b.cells] (.bool (Ir b)):=by
 have hn:=hL.n;refine qK5 (n:=37) Ah Tryz.func13 rfl rfl ?_;refine FL ?_;refine ax 1 (CC 2 0) ?_;refine wk 10 ?_;refine BM 8 (fun hb1=>?_) fun hb1=>?_
 .
  refine wk 20 ?_;exact bU
 refine wk 5 ?_;refine BM 13 (fun hb2=>?_) fun hb2=>?_
 .
  refine wk 15 ?_;exact bU
 refine wk 1 ?_;refine ax 15 (Cn Tryz.func29 (M0 b)) ?_;refine wk 3 ?_;refine BM 18 (fun hb3=>?_) fun hb3=>?_
 .
  refine wk 10 ?_;exact bU
 refine wk 1 ?_;refine ax 20 (Cn Tryz.func27 (kL b (by have:=hL.c;omega))) ?_;refine wk 3 ?_;refine asp 22 (fun hb4=>?_) fun hb4=>?_
 .
  refine wk 5 ?_;exact bU
 refine Bg ?_;have hg1:b.funcs.length<=6:=by have h:=hb1;simp at h;omega
 have hg2:b.words<=400:=by have h:=hb2;simp at h;omega
 have hg3:b.right=true:=by have h:=hb3;simpa using h
 have hg4:b.count<=200:=by have h:=hb4;simp at h;omega
 refine wk 7 ?_;refine Ap (γ:=Nat) 1 (fun k=>⟨37,(Aa (Aa AU 1 (pZ 0)) 3 (iN k)),(Af (A0 1) 0 (rf 2 [b.cells]))⟩) (fun k=>k<=b.funcs.length/\(b.funcs.take k).all RL=true) (fun k=>b.funcs.length-k) 0 (qJ1 Cq B5) ⟨qZ1 _,rfl⟩ (fun _=>B9) ?_;intro k hF;refine wk 9 ?_;refine asp 27 (fun hb5=>?_) fun hb5=>?_
 .
  refine Ba ?_;have hkl:=Dq hb5;obtain⟨f,hf⟩:=Ad hkl;refine wk 8 ?_;refine aq 33 (En Ah (Au hf)) ?_;refine wk 4 ?_;refine asp 36 (fun hb6=>?_) fun hb6=>?_
  .
   refine Ba ?_;have hno:¬f.regs<=30:=by have h:=hb6;simp at h;omega
   have hnall:=vR (q33 hf) hno;refine wk 4 ?_;refine CE ⟨[_],⟨rfl,trivial⟩,?_,rfl⟩;refine bc ?_;simp[Ir,hnall]
  refine Bg ?_;have hyes:f.regs<=30:=by have h:=hb6;simp at h;omega
  refine wk 3 ?_;refine aq 29 (AS rfl rfl hkl Bq) ?_;refine wk 2 ?_;exact⟨k+1,qV1 D5 FM,⟨hkl,mE hf hF.2 hyes⟩,by omega⟩
 refine Bg ?_;have hge:=Dr hb5;have hall:b.funcs.all RL=true:=by have h:=hF.2;rwa[q20 hge]at h
 refine wk 5 ?_;refine CE ⟨[_],⟨rfl,trivial⟩,?_,rfl⟩;refine bc ?_;simp[Ir,hg1,hg2,hg3,hg4,hall]
theorem P6(k:Int):Pu Tryz.prog 31 [.int .i64 k] (.tup [.val (Uh k),.bool (BL k)]):=by
 refine qK5 (n:=28) Ah Tryz.func31 rfl rfl ?_;refine wk 9 ?_;refine ax 4 (DA Ah 0) ?_;refine wk 13 ?_;refine asp 8 (fun hb1=>?_) fun hb1=>?_
 .
  refine Ba ?_;have hk1:k=1:=by simpa using hb1
  subst hk1;refine wk 4 ?_;refine aq 12 (PV Ah rfl rfl rfl rfl D6) ?_;exact bS
 refine Bg ?_;have hn1:k≠1:=by simpa using hb1
 refine wk 5 ?_;refine asp 13 (fun hb2=>?_) fun hb2=>?_
 .
  refine Ba ?_;have hk2:k=2:=by simpa using hb2
  subst hk2;refine wk 4 ?_;refine aq 17 (PV Ah rfl rfl rfl rfl D6) ?_;exact bS
 refine Bg ?_;have hn2:k≠2:=by simpa using hb2
 refine wk 5 ?_;refine asp 18 (fun hb3=>?_) fun hb3=>?_
 .
  refine Ba ?_;have hk3:k=3:=by simpa using hb3
  subst hk3;refine wk 4 ?_;refine aq 22 (PV Ah rfl rfl rfl rfl D6) ?_;exact bS
 refine Bg ?_;have hn3:k≠3:=by simpa using hb3
 refine wk 5 ?_;refine asp 23 (fun hb4=>?_) fun hb4=>?_
 .
  refine Ba ?_;have hk4:k=4:=by simpa using hb4
  subst hk4;refine wk 4 ?_;refine aq 27 (PV Ah rfl rfl rfl rfl D6) ?_;exact bS
 refine Bg ?_;have hn4:k≠4:=by simpa using hb4
 refine wk 7 ?_;refine⟨[_,_],⟨rfl,rfl,trivial⟩,?_,rfl⟩;rw[lO hn1 hn2 hn3 hn4,qr hn1 hn2 hn3 hn4];rfl
variable {p : List Int}
theorem KS{n:Nat}(b0 i j:Nat){p:Bool}{sz0:Nat}{x:AV}(y:AV)(hb0:h b0=some (.row p sz0 es))(hi:es[i]?=some cs)(hj:cs[j]?=some x)(hxy:∀H ι v,Rel H ι x v->Rel H ι y v)(h1:y.cell1=true):
 Ghost ⟨n,e,h⟩ ⟨n,e,Af h b0 (.row p sz0 (es.set i (cs.set j y)))⟩:=fun H ι a w hs=>by
 obtain⟨u1,u2⟩:=hs.heap.recell hb0 hi hj (y:=y) (fun v hv=>hxy _ _ v hv) h1;exact⟨H,ι,⟨hs.n,hs.d,hs.env,u1⟩,u2⟩
section
variable {next : List (List Int)} {reach : List Bool} {a : Int} {i k : Nat} {r : Bool} {row : List Int}
end
variable {f : BFunc} {k : Nat}
set_option maxRecDepth 100000
theorem cv(k:Int)(g:BFunc):Pu Tryz.prog 126 [.agg [.int .i64 k],.agg g.cells] (.agg (⟨k,⟨[]⟩,[],g⟩:OPass).cells):=by
 refine qK5 (n:=9) Ah Tryz.func126 rfl rfl ?_;refine wk 40 ?_;refine ax 2 (CC 1 0) ?_;refine ax 3 (CC 2 1) ?_;refine ax 4 (DA Ah 2) ?_;refine wk 9 ?_;refine qJ0 (KS 2 0 1 (.lst false []) rfl rfl rfl (fun _ _ _=>Xs) rfl) ?_;refine qJ0 (KS 2 0 2 (.lst false []) rfl rfl rfl (fun _ _ _=>Xs) rfl) ?_;exact rO
theorem Wt(k:Int)(fo:Nat){fn:Func}(hf:Tryz.prog.funcs[fo]?=some fn)(hn:(fn.name== "runtime.NumGoroutine")=false)(hb:fn.body.isSome=true)(f g:BFunc)(c:Cert)(hO:Pu Tryz.prog fo [.agg f.cells] (.tup [.agg g.cells,.agg c.cells])):Pu Tryz.prog 128 [.agg [.int .i64 k,.val (.func (.func fo) #[] #[])],.agg f.cells] (.tup [.agg g.cells,.agg (⟨k,c,[],g⟩:OPass).cells]):=by
 refine qK5 (n:=24) Ah Tryz.func128 rfl rfl ?_;refine wk 40 ?_;refine ax 2 (CC 2 0) ?_;refine ax 3 (CC 2 1) ?_;refine ax 4 (DA Ah 2) ?_;refine ax 5 (DA Ah 3) ?_;refine wk 40 ?_;refine ax 13 (f7 rfl rfl hf hn hb rfl rfl hO) ?_;refine wk 40 ?_;refine ax 6 (DA Ah 4) ?_;refine ax 7 (DA Ah 5) ?_;refine wk 40 ?_;refine ax 19 (Cn Tryz.func126 (cv k g)) ?_;exact sU
theorem qu(k:Int)(f g:BFunc)(ps:List (List Int))(hO:Pu Tryz.prog 144 [.agg f.cells] (.tup [.agg g.cells,Ax ps])):Pu Tryz.prog 142 [.agg [.int .i64 k],.agg f.cells] (.tup [.agg g.cells,.agg (⟨k,⟨[]⟩,ps,g⟩:OPass).cells]):=by
 refine qK5 (n:=22) Ah Tryz.func142 rfl rfl ?_;refine wk 40 ?_;refine ax 2 (CC 1 0) ?_;refine ax 3 (CC 2 1) ?_;refine ax 4 (DA Ah 2) ?_;refine ax 5 (DA Ah 3) ?_;refine wk 40 ?_;refine ax 11 (Cn Tryz.func144 hO) ?_;refine wk 40 ?_;refine ax 6 (DA Ah 4) ?_;refine wk 40 ?_;refine ax 17 (Cn Tryz.func126 (cv k g)) ?_;exact sU
structure WC(f:BFunc)(G:Int->OPass):Prop where
  c1:Pu Tryz.prog 41 [.agg f.cells] (.tup [.agg (G 1).f.cells,.agg (G 1).cert.cells])
  c2:Pu Tryz.prog 42 [.agg f.cells] (.tup [.agg (G 2).f.cells,.agg (G 2).cert.cells])
  c3:Pu Tryz.prog 43 [.agg f.cells] (.tup [.agg (G 3).f.cells,.agg (G 3).cert.cells])
  c4:Pu Tryz.prog 144 [.agg f.cells] (.tup [.agg (G 4).f.cells,Ax (G 4).paths])
  e1:G 1=⟨1,(G 1).cert,[],(G 1).f⟩
  e2:G 2=⟨2,(G 2).cert,[],(G 2).f⟩
  e3:G 3=⟨3,(G 3).cert,[],(G 3).f⟩
  e4:G 4=⟨4,⟨[]⟩,(G 4).paths,(G 4).f⟩
variable {o : Oper} {e : A3} {h : Aj}
theorem Abb{G:Int->OPass}(hG:WC f G){k:Int}(hk:BL k=true){recv:Operand}{args:Array Operand}{tys:Array TypeId}(ho:o.op=.call {callee:=.invoke recv "seedcorn/optimize.run",args:=args,argTypes:=tys})
 (hr:At e recv=some (.val (Uh k))) (hx:BA e args.toList=some [.agg f.cells]):OLoc Tryz.prog o e h [] [] (some (.tup [.agg (G k).f.cells,.agg (G k).cells])):=by
 rcases Mn hk with h1|h1|h1|h1<;>subst h1
 . rw[congrArg OPass.cells hG.e1];exact G6 ho hr (fun w=>mo _ w) (FU (by rfl)) Tryz.func128 AF rfl hx rfl (Wt 1 _ Tryz.func41 AF rfl f _ _ hG.c1)
 . rw[congrArg OPass.cells hG.e2];exact G6 ho hr (fun w=>mo _ w) (FU (by rfl)) Tryz.func128 AF rfl hx rfl (Wt 2 _ Tryz.func42 AF rfl f _ _ hG.c2)
 . rw[congrArg OPass.cells hG.e3];exact G6 ho hr (fun w=>mo _ w) (FU (by rfl)) Tryz.func128 AF rfl hx rfl (Wt 3 _ Tryz.func43 AF rfl f _ _ hG.c3)
 . rw[congrArg OPass.cells hG.e4];exact G6 ho hr (fun w=>Abe _ w) (FU (by rfl)) Tryz.func142 AF rfl hx rfl (qu 4 f _ _ hG.c4)
theorem lQ(f:BFunc)(G:Int->OPass)(hG:WC f G)(k:Int)(hk:BL k=true):Pu Tryz.prog 21 [.agg f.cells,.int .i64 k] (.tup [.agg (G k).f.cells,.agg (G k).cells,.int .i64 0]):=by
 refine qK5 (n:=28) Ah Tryz.func21 rfl rfl ?_;refine wk 40 ?_;refine ax 2 (CC 2 0) ?_;refine ax 4 (DA Ah 1) ?_;refine ax 5 (DA Ah 2) ?_;refine wk 40 ?_;refine ax 13 (Cn Tryz.func31 (P6 k)) ?_;rw[hk];refine wk 40 ?_;refine ax 23 (Abb hG hk rfl rfl rfl) ?_;refine wk 40 ?_;refine ax 9 (DA Ah 3) ?_;refine ax 10 (DA Ah 4) ?_;refine wk 40 ?_;exact⟨[_,_,_],⟨⟨_,_,_,_,rfl,rfl,.ptr _ _ _ _ _ _ _ _ rfl rfl rfl,rfl⟩,⟨_,_,_,_,rfl,rfl,.ptr _ _ _ _ _ _ _ _ rfl rfl rfl,rfl⟩,rfl,trivial⟩,rfl,rfl⟩
theorem pO(z R i:Nat)(p:Nat->Bool)(hi:i<R)(hR:R<=100000):Ca Tryz.prog 106 [.ref z (nw R) 0 (nw R),.int .i64 (i:Int)] (Af hNew z (rt 1 (B1 R p))) (.tup []) (Af hNone z (rt 1 (B1 R (fun v=>p v||v==i)))):=by
 have hj:=XT hi;refine qK4 (n:=14) Ah Tryz.func106 rfl rfl ?_;refine wk 3 ?_;refine dq 6 (A9 (r:=.int .i64 ((i/64:Nat):Int)) rfl rfl rfl (cS Ab)) ?_;refine dq 7 (Ae Ah rfl rfl rfl rfl rfl rfl (AB _ _ _) (BJ _ _).symm rfl (q46 _) Ab) ?_;refine dq 8 (Ao Ah rfl rfl rfl (.ptr _ _ _ _ _ _ _ (B6 p (i/64)) (AB _ _ _) (BJ _ _).symm cg) rfl) ?_;refine dm 9 ?_;refine dq 10 (A9 (r:=.int .i64 ((i%64:Nat):Int)) rfl rfl rfl kY) ?_;refine dq 11 (A9 (r:=.int .u64 ((wd (fun v=>v==i%64):Nat):Int)) rfl rfl rfl (jH Ab)) ?_;refine dq 12 (A9 rfl rfl rfl (jG (fun v=>p (64*(i/64)+v)) (fun v=>v==i%64))) ?_;refine dq 13 (Ae Ah rfl rfl rfl rfl rfl rfl (AB _ _ _) (BJ _ _).symm rfl (q46 _) Ab) ?_;refine qK8 rfl rfl (AY Ah (es:=B1 R p) (cs:=B6 p (i/64)) rfl rfl rfl rfl rfl (AB _ _ _) (BJ _ _).symm cg rfl Al rfl (fun _=>rfl)) ?_
 refine wk 1 ?_;refine⟨[],trivial,rfl,qJ5 (qJ6 _) ((AB _ _ _).trans (congrArg (fun es=>some (rt 1 es)) ?_))⟩;rw[qQ8,q55];exact(congrArg ((B1 R p).set (i/64)) (Zp p i)).symm.trans (MV (fun v hv=>by
  have:(v==i)=false:=by rw[q40];intro e;exact hv (by rw[e])
  simp[this]))
theorem vo(z R i:Nat)(p:Nat->Bool)(hi:i<R)(hR:R<=100000):Ca Tryz.prog 108 [.ref z (nw R) 0 (nw R),.int .i64 (i:Int)] (Af hNew z (rt 1 (B1 R p))) (.tup []) (Af hNone z (rt 1 (B1 R (fun v=>p v&& !(v==i))))):=by
 have hj:=XT hi;refine qK4 (n:=14) Ah Tryz.func108 rfl rfl ?_;refine wk 3 ?_;refine dq 6 (A9 (r:=.int .i64 ((i/64:Nat):Int)) rfl rfl rfl (cS Ab)) ?_;refine dq 7 (Ae Ah rfl rfl rfl rfl rfl rfl (AB _ _ _) (BJ _ _).symm rfl (q46 _) Ab) ?_;refine dq 8 (Ao Ah rfl rfl rfl (.ptr _ _ _ _ _ _ _ (B6 p (i/64)) (AB _ _ _) (BJ _ _).symm cg) rfl) ?_;refine dm 9 ?_;refine dq 10 (A9 (r:=.int .i64 ((i%64:Nat):Int)) rfl rfl rfl kY) ?_;refine dq 11 (A9 (r:=.int .u64 ((wd (fun v=>v==i%64):Nat):Int)) rfl rfl rfl (jH Ab)) ?_;refine dq 12 (A9 rfl rfl rfl (Tu (fun v=>p (64*(i/64)+v)) (fun v=>v==i%64))) ?_;refine dq 13 (Ae Ah rfl rfl rfl rfl rfl rfl (AB _ _ _) (BJ _ _).symm rfl (q46 _) Ab) ?_;refine qK8 rfl rfl (AY Ah (es:=B1 R p) (cs:=B6 p (i/64)) rfl rfl rfl rfl rfl (AB _ _ _) (BJ _ _).symm cg rfl Al rfl (fun _=>rfl)) ?_
 refine wk 1 ?_;refine⟨[],trivial,rfl,qJ5 (qJ6 _) ((AB _ _ _).trans (congrArg (fun es=>some (rt 1 es)) ?_))⟩;rw[qQ8,q55];exact(congrArg ((B1 R p).set (i/64)) (eA p i)).symm.trans (MV (fun v hv=>by
  have:(v==i)=false:=by rw[q40];intro e;exact hv (by rw[e])
  simp[this]))
theorem MW(z R:Nat)(hR:R<=100000):Ca Tryz.prog 98 [.int .i64 (R:Int)] (Af hNew z .free) (.ref z (nw R) 0 (nw R)) (Af hNone z (rt 1 (B1 R (fun _=>false)))):=by
 refine qK4 (n:=7) Ah Tryz.func98 rfl rfl ?_;refine wk 7 ?_;refine aq 4 (A9 (r:=.int .i64 ((R+63:Nat):Int)) rfl rfl rfl (Jk (a:=R) (b:=63) (KW Ab))) ?_;refine aq 5 (A9 (r:=.int .i64 ((nw R:Nat):Int)) rfl rfl rfl (cS Ab)) ?_;refine ax 6 (AK Ah (n:=nw R) (m:=nw R) z true rfl rfl rfl rfl rfl rfl rfl rfl (AB _ _ _) rfl (q68 _) rfl (qZ0 _) (by unfold nw;show 8*_<=_;omega) (by unfold nw;simp only[maxLen];omega)) ?_;refine wk 3 ?_;refine⟨[_],⟨rfl,trivial⟩,rfl,qJ5 (qJ6 _) ((AB _ _ _).trans (congrArg (fun es=>some (rt 1 es)) (fD R)))⟩
theorem QW(z R:Nat)(p:Nat->Bool)(hR:R<=100000):Ca Tryz.prog 91 [.ref (z+16) (nw R) 0 (nw R),.int .i64 (R:Int)] (Af hNew (z+16) (rt 1 (B1 R p))) (Co (H7 R p)) (Af hNone (z+16) (rt 1 (B1 R p))):=by
 refine qK4 (n:=29) Ah Tryz.func91 rfl rfl ?_;refine wk 7 ?_;refine ax 8 (AK Ah (n:=R) (m:=R) 0 true rfl rfl rfl (rfl) (rfl) rfl rfl rfl rfl rfl (q68 _) rfl (qZ0 _) (by show 1*R<=_;omega) Bq) ?_;refine wk 10 ?_;refine qJ7 (γ:=Nat) (fun k=>⟨29,(Aa (Aa (Aa (Aa AU 0 (.ref (z+16) (nw R) 0 (nw R))) 5 (.ref 0 R 0 R)) 10 (iN R)) 11 (iN k)),(Af (Af hNone (z+16) (rt 1 (B1 R p))) 0 (rt 1 (((H7 R p).take k).map Bn++List.replicate (R-k) [AV.bool false])))⟩) (fun k=>k<=R) (fun k=>R-k) 0 (qJ1 Cq (by repeat(first|exact qJ4 _|exact qJ6 _|exact AO _|exact AG Dl|refine qJ5 ?_ (by first|rfl|exact AB _ _ _|((try simp only[AQ]);repeat(first|rfl|exact AB _ _ _|refine AP Dd ?_|refine hrm_skip Ab ?_|refine(Dy _ LL).trans ?_)))|refine AN ?_ Dl|refine Bh ?_ Al))) (qZ1 _) ?_;intro k hk
 refine wk 5 ?_;refine asp 12 (fun hb1=>?_) fun hb1=>?_
 .
  refine Ba ?_;have hkl:k<R:=by have h:=hb1;simp at h;exact h
  have hpk:(fun v=>p (64*(k/64)+v)) (k%64)=p k:=by show p (64*(k/64)+k%64)=p k;rw[Nat.div_add_mod]
  refine wk 13 ?_;refine aq 18 (A9 (r:=.int .i64 ((k/64:Nat):Int)) rfl rfl rfl (cS Ab)) ?_;refine aq 19 (Ae Ah (hb:=B7) (hm:=(BJ _ _).symm) (hn:=(by have:=XT hkl;omega))) ?_;refine aq 20 (Ao Ah rfl rfl rfl (.ptr _ _ _ _ true 1 (B1 R p) (B6 p (k/64)) B7 (BJ _ _).symm (by rw[qQ8,q55];exact FA (XT hkl))) rfl) ?_;refine wk 1 ?_;refine aq 22 (A9 (r:=.int .i64 ((k%64:Nat):Int)) rfl rfl rfl kY) ?_;refine aq 23 (A9 rfl rfl rfl (uY (p:=fun v=>p (64*(k/64)+v)) Ab)) ?_;refine aq 24 (A9 rfl rfl rfl (pf (fun v=>p (64*(k/64)+v)) Ab)) ?_;refine aq 25 (A9 rfl rfl rfl (uZ _)) ?_;refine aq 26 (Ae Ah rfl rfl rfl rfl rfl rfl rfl (AL (Jd R p) (qX0 hkl)) rfl (q46 _) Ab) ?_;refine qK6 rfl rfl (AY Ah rfl rfl rfl rfl rfl rfl (AL (Jd R p) (qX0 hkl)) (CH (Jd R p) hkl) rfl Al rfl C1) ?_;refine wk 2 ?_;refine aq 27 (AS rfl rfl hkl Bq) ?_;refine wk 2 ?_;exact⟨k+1,qJ1 B4 (by repeat(first|exact qJ4 _|exact qJ6 _|exact AO _|exact AG Dl|refine qJ5 ?_ (by first|rfl|exact congrArg (fun es=>some (rt 1 es)) (Ct (f:=Bn) (x:=p (64*(k/64)+k%64)) (Jd R p) ((XW hkl).trans (congrArg some hpk.symm)))|((try simp only[AQ]);repeat(first|rfl|exact AB _ _ _|refine AP Dd ?_|refine hrm_skip Ab ?_|refine(Dy _ LL).trans ?_)))|refine AN ?_ Dl|refine Bh ?_ Al)),hkl,by omega⟩
 refine Bg ?_;have hge:R<=k:=by have h:=hb1;simp at h;exact h
 refine wk 2 ?_;refine qJ0 (.freeze 5 0 rfl rfl (AL (Jd R p) hk)) ?_;rw[Dg (Jd R p) hge];refine wk 5 ?_;refine⟨[_],⟨rfl,trivial⟩,rfl,qJ5 (qJ6 _) B7⟩
end Go.Proofs.YtbbfelelocccmaaGreat.Sv
