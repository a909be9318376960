/-
  THE CHECKER'S TABLE AND WALK, IN PLAIN LEAN: own work, over no program.
-/
import Derived.Test.YtbbfelelocccmaaGreatPOptimizeHolds3
set_option linter.unusedVariables false
set_option linter.unusedSimpArgs false
set_option maxRecDepth 100000
set_option maxHeartbeats 2000000
namespace Go.Proofs.YtbbfelelocccmaaGreat.Sv
open Go
def kidx(k:List Int):List (List Int)->Option Nat
  | []=>none
  |x::r=>bif k==x then some 0 else(kidx k r).map (· +1)
def D0(first:Int)(K:List (List Int))(k:List Int):Int×List (List Int):=
  match kidx k K with
  |some i=>(first+(i:Int),K)
  |none=>(first+(K.length:Int),K++[k])
def DJ(first:Int):List (List Int)->KU
  | []=>[]
  |x::r=>(x,.int .i64 first)::DJ (first+1) r
theorem Tx(k:List Int):∀(K:List (List Int)) (first:Int),IC k (DJ first K)=(kidx k K).map fun(i:Nat)=>(i,AV.int .i64 (first+(i:Int)))
 | [],_=>rfl
 |x::r,first=>by
  unfold DJ IC kidx
  cases hx:k==x with
  |true=>simp
  |false=>
   simp only[qZ3,Tx k r (first+1),Option.map_map];congr 1;funext i;show(i+1,AV.int .i64 (first+1+(i:Int)))=(i+1,AV.int .i64 (first+((i+1:Nat):Int)));rw[show first+1+(i:Int)=first+((i+1:Nat):Int) by omega]
theorem Qt(k:List Int)(K:List (List Int))(first:Int):YW k (DJ first K)=(kidx k K).map fun(i:Nat)=>AV.int .i64 (first+(i:Int)):=by
 unfold YW;rw[Tx,Option.map_map];rfl
theorem W1{k:List Int}:∀{K:List (List Int)} {first:Int},kidx k K=none->PN k (.int .i64 (first+(K.length:Int))) (DJ first K)=DJ first (K++[k])
 | [],first,_=>by simp[DJ,PN]
 |x::r,first,h=>by
  unfold kidx at h
  cases hx:k==x with
  |true=>rw[hx]at h;cases h
  |false=>
   rw[hx]at h;have h':kidx k r=none:=by simpa using h
   have ih:=W1 (first:=first+1) h';simp only[q73,DJ,PN,hx,qZ3,q70];rw[<-ih];congr 3
   push_cast;omega
variable {K : List (List Int)}
theorem Ty(h:∀k∈K,k.length=4):∀{first:Int},∀p∈DJ first K,p.1.length=4:=by
 induction K with
 |nil=>intro first p hp;simp[DJ]at hp
 |cons x r ih=>
  intro first p hp
  simp only[DJ,q99]at hp;rcases hp with rfl|hp
  . exact h x Aq
  . exact ih (fun k hk=>h k (by simp[hk])) p hp
theorem Wa{k:List Int}:∀{K:List (List Int)} {i:Nat},kidx k K=some i->i<K.length/\K[i]?=some k
 | [],i,h=>by cases h
 |x::r,i,h=>by
  unfold kidx at h
  cases hx:k==x with
  |true=>rw[hx]at h;cases h;exact⟨by simp,by simp at hx;simp[hx]⟩
  |false=>
   rw[hx]at h;simp only[qZ3,q22]at h;obtain⟨j,hj,rfl⟩:=h;obtain⟨h1,h2⟩:=Wa hj;exact⟨by simp;omega,by simpa using h2⟩
def BE(first:Int)(K:List (List Int))(n:Int):Int×Bool:=
  bif decide (n<first)then(0,false)else(IntKind.u32.wrap (Ai ((K[(n-first).toNat]?).getD []) 1),Ai ((K[(n-first).toNat]?).getD []) 0==1)
def CA(first:Int)(K:List (List Int))(op a b:Int):Int×List (List Int):=
  bif (BE first K a).2&&(BE first K b).2&&(Cp op (BE first K a).1 (BE first K b).1).2==0 then D0 first K [1,(Cp op (BE first K a).1 (BE first K b).1).1,0,0]
  else D0 first K [2,op,a,b]
structure VW where
  K:List (List Int)
  vals:List Int
  effs:List (List Int)
  time:Int
def VW.put(w:VW)(z:Int)(p:Int×List (List Int)):VW:={w with K:=p.2,vals:=A4 w.vals z p.1}
def VW.hap(w:VW)(t:Tac)(a b:Int):VW:={w with effs:=w.effs++[[2,t.op,t.base,t.size,a,b]]}
def VW.tick(w:VW):VW:={w with time:=w.time+1}
def J8(first:Int)(w:VW):Int×List (List Int):=D0 first w.K [4,(w.effs.length:Int),0,0]
def vrisky(first:Int)(w:VW)(t:Tac):Bool:=(t.k==7||t.k==8)&&(!(BE first w.K (Ai w.vals t.b)).2||(BE first w.K (Ai w.vals t.b)).1==0)
def VW.div(first:Int)(w:VW)(t:Tac):VW:=bif vrisky first w t then {w with effs:=w.effs++[[1,t.k,Ai w.vals t.a,Ai w.vals t.b,0,0]]}else w
def VW.bin(first:Int)(w:VW)(t:Tac):VW:=(w.div first t).put t.d (CA first w.K t.k (Ai w.vals t.a) (Ai w.vals t.b))
def VW.step(first:Int)(w:VW)(t:Tac):VW:=
  bif t.op==1 then w.put t.d (D0 first w.K [1,t.n,0,0])
  else bif t.op==2 then {w with vals:=A4 w.vals t.d (Ai w.vals t.a)}
  else bif t.op==3 then w.bin first t
  else bif t.op==4 then w.put t.d (D0 first w.K [3,t.base,w.time,0])
  else bif t.op==5 then(w.hap t (Ai w.vals t.a) 0).tick
  else bif t.op==6 then(w.hap t (Ai w.vals t.a) 0).put t.d (J8 first (w.hap t (Ai w.vals t.a) 0))
  else bif t.op==7 then(w.hap t (Ai w.vals t.a) (Ai w.vals t.b)).tick
  else bif t.op==8 then(w.hap t 0 0).put t.d (J8 first (w.hap t 0 0))
  else bif t.op==9 then w.hap t (Ai w.vals t.a) 0
  else bif t.op==10 then(w.hap t 0 0).tick
  else w
structure VOk(first:Int)(R m:Nat)(w:VW):Prop where
  f:0<=first/\first<=100000
  k4:∀k∈w.K,k.length=4
  e6:∀k∈w.effs,k.length=6
  kl:w.K.length<=m
  el:w.effs.length<=m
  tl:0<=w.time/\w.time<=m
  vl:w.vals.length=R
  v:∀n∈w.vals,0<=n/\n<first+w.K.length
variable {k : List Int}
theorem MC{first:Int}(h:∀k∈K,k.length=4)(hk:k.length=4)(hf:0<=first):
 (∀x∈(D0 first K k).2,x.length=4)/\K.length<=(D0 first K k).2.length/\(D0 first K k).2.length<=K.length+1/\0<=(D0 first K k).1/\(D0 first K k).1<first+(D0 first K k).2.length:=by
 unfold D0
 cases e:kidx k K with
 |none=>
  refine⟨fun x hx=>?_,by simp,by simp,by dsimp only;omega,by simp;omega⟩;simp only[q78,q47]at hx;rcases hx with hx|rfl
  . exact h x hx
  . exact hk
 |some i=>
  have:=(Wa e).1;exact⟨h,qZ0 _,Nat.le_succ _,by dsimp only;omega,by dsimp only;omega⟩
variable {op a b : Int}
theorem eJ{first:Int}(h:∀k∈K,k.length=4)(hf:0<=first):
 (∀x∈(CA first K op a b).2,x.length=4)/\K.length<=(CA first K op a b).2.length/\(CA first K op a b).2.length<=K.length+1/\0<=(CA first K op a b).1/\(CA first K op a b).1<first+(CA first K op a b).2.length:=by
 unfold CA
 cases (BE first K a).2&&(BE first K b).2&&(Cp op (BE first K a).1 (BE first K b).1).2==0 with
 |true=>exact MC h rfl hf
 |false=>exact MC h rfl hf
variable {R m : Nat} {w : VW}
theorem VOk.mono{first:Int}{m':Nat}(h:VOk first R m w)(hm:m<=m'):VOk first R m' w:=
 ⟨h.f,h.k4,h.e6,qX2 h.kl hm,qX2 h.el hm,⟨h.tl.1,by have:=h.tl.2;omega⟩,h.vl,h.v⟩
theorem VOk.put{first:Int}{R m:Nat}{w:VW}(h:VOk first R m w)(z:Int){p:Int×List (List Int)}(hp:(∀x∈p.2,x.length=4)/\w.K.length<=p.2.length/\p.2.length<=w.K.length+1/\0<=p.1/\p.1<first+p.2.length):VOk first R (m+1) (w.put z p) where
 f:=h.f
 k4:=hp.1
 e6:=h.e6
 kl:=by have:=h.kl;show p.2.length<=_;omega
 el:=by have:=h.el;show w.effs.length<=_;omega
 tl:=⟨h.tl.1,by have:=h.tl.2;show w.time<=_;omega⟩
 vl:=by show(A4 w.vals z p.1).length=R;rw[B3];exact h.vl
 v:=fun n hn=>by
  have hn':n∈A4 w.vals z p.1:=hn;unfold A4 at hn';show 0<=n/\n<first+(p.2.length:Int)
  rcases q08 hn' with hn'|rfl
  . have:=h.v n hn';omega
  . exact hp.2.2.2
variable {x : List Int}
theorem VOk.eff{first:Int}(h:VOk first R m w)(hx:x.length=6):VOk first R (m+1) {w with effs:=w.effs++[x]} where
 f:=h.f
 k4:=h.k4
 e6:=fun k hk=>by
  have hk':k∈w.effs++[x]:=hk;simp only[q78,q47]at hk';rcases hk' with hk'|rfl
  . exact h.e6 k hk'
  . exact hx
 kl:=by have:=h.kl;show w.K.length<=_;omega
 el:=by have:=h.el;show(w.effs++[x]).length<=_;simp;omega
 tl:=⟨h.tl.1,by have:=h.tl.2;show w.time<=_;omega⟩
 vl:=h.vl
 v:=h.v
theorem VOk.tick{first:Int}{R m:Nat}{w:VW}(h:VOk first R m w):VOk first R (m+1) w.tick where
 f:=h.f
 k4:=h.k4
 e6:=h.e6
 kl:=by have:=h.kl;show w.K.length<=_;omega
 el:=by have:=h.el;show w.effs.length<=_;omega
 tl:=⟨by have:=h.tl.1;show 0<=w.time+1;omega,by have:=h.tl.2;show w.time+1<=_;push_cast;omega⟩
 vl:=h.vl
 v:=h.v
theorem VOk.div{first:Int}{R m:Nat}{w:VW}(h:VOk first R m w)(t:Tac):VOk first R (m+1) (w.div first t):=by
 unfold VW.div
 cases vrisky first w t with
 |true=>exact h.eff rfl
 |false=>exact h.mono (Nat.le_succ _)
theorem nC(first:Int)(w:VW)(t:Tac):(w.div first t).K=w.K:=by unfold VW.div;cases vrisky first w t<;>rfl
variable {l : List Int} {z : Int}
theorem PT(h:0<=z/\z<l.length):Ai l z∈l:=by
 unfold Ai;rw[q13 Ab];exact List.getElem_mem _
theorem VOk.step{first:Int}{R m:Nat}{w:VW}(h:VOk first R m w)(t:Tac)(ha:use1 t.op=true->0<=t.a/\t.a<R):VOk first R (m+2) (w.step first t):=by
 unfold VW.step;have hp:=fun(k:List Int) (hk:k.length=4)=>MC (k:=k) h.k4 hk h.f.1
 cases t.op==1 with
 |true=>exact(h.put _ (hp _ rfl)).mono (Nat.le_succ _)
 |false=>
 cases h2:t.op==2 with
 |true=>
  have h2':t.op=2:=by simpa using h2
  refine VOk.mono (m:=m) ⟨h.f,h.k4,h.e6,h.kl,h.el,h.tl,?_,fun n hn=>?_⟩ Ab
  . show(A4 w.vals t.d _).length=R;rw[B3];exact h.vl
  . have hn':n∈A4 w.vals t.d (Ai w.vals t.a):=hn;unfold A4 at hn';rcases q08 hn' with hn'|rfl
    . exact h.v n hn'
    . have:=ha (by simp[use1,h2']);exact h.v _ (PT (by rw[h.vl];exact this))
 |false=>
 cases t.op==3 with
 |true=>
  have h1:=h.div t;have:=eJ (op:=t.k) (a:=Ai w.vals t.a) (b:=Ai w.vals t.b) h.k4 h.f.1;rw[<-nC first w t]at this;have h2:=h1.put t.d this;rw[nC]at h2;exact h2
 |false=>
 cases t.op==4 with
 |true=>exact(h.put _ (hp _ rfl)).mono (Nat.le_succ _)
 |false=>
 cases t.op==5 with
 |true=>exact VOk.tick (VOk.eff h rfl)
 |false=>
 cases t.op==6 with
 |true=>exact VOk.put (VOk.eff h rfl) _ (MC (k:=[4,_,0,0]) h.k4 rfl h.f.1)
 |false=>
 cases t.op==7 with
 |true=>exact VOk.tick (VOk.eff h rfl)
 |false=>
 cases t.op==8 with
 |true=>exact VOk.put (VOk.eff h rfl) _ (MC (k:=[4,_,0,0]) h.k4 rfl h.f.1)
 |false=>
 cases t.op==9 with
 |true=>exact(VOk.eff h rfl).mono (Nat.le_succ _)
 |false=>
 cases t.op==10 with
 |true=>exact VOk.tick (VOk.eff h rfl)
 |false=>exact h.mono Ab
inductive WD:Nat->Nat->Nat->Prop
  |a:WD 6 5 10
  |b:WD 8 7 11
theorem t3{M:Nat->Nat->Nat->Prop}(h1:let p:=6;let v:=5;let o:=10;M p v o)(h2:let p:=8;let v:=7;let o:=11;M p v o):∀p v o,WD p v o->M p v o
 |_,_,_,.a=>h1
 |_,_,_,.b=>h2
variable {y : Int}
theorem wB{x:Int}(h1: -9223372036854775808<=x+y)(h2:x+y<=9223372036854775807)(hz:z=x+y):A8 .add (.int .i64 x) (.int .i64 y)=some (.int .i64 z):=by
 subst hz;show BP .add .i64 x y=_;simp only[BP];rw[B8 h1 h2]
theorem vi{x:Int}(h1: -9223372036854775808<=x-y)(h2:x-y<=9223372036854775807)(hz:z=x-y):A8 .sub (.int .i64 x) (.int .i64 y)=some (.int .i64 z):=by
 subst hz;show BP .sub .i64 x y=_;simp only[BP];rw[B8 h1 h2]
theorem Adj{x:Int}(h1: -9223372036854775808<=x*y)(h2:x*y<=9223372036854775807)(hz:z=x*y):A8 .mul (.int .i64 x) (.int .i64 y)=some (.int .i64 z):=by
 subst hz;show BP .mul .i64 x y=_;simp only[BP];rw[B8 h1 h2]
theorem yE{first:Int}(h:(!(YW k (DJ first K)).isSome)=true):kidx k K=none:=by
 rw[Qt]at h
 cases e:kidx k K with
 |none=>rfl
 |some i=>rw[e]at h;cases h
theorem yD{first:Int}(h:(!(YW k (DJ first K)).isSome)=false):∃i,kidx k K=some i:=by
 rw[Qt]at h
 cases e:kidx k K with
 |none=>rw[e]at h;cases h
 |some i=>exact⟨i,rfl⟩
theorem Qs{first:Int}(h:kidx k K=none):D0 first K k=(first+(K.length:Int),K++[k]):=by unfold D0;rw[h]
theorem Qr{first:Int}{i:Nat}(h:kidx k K=some i):D0 first K k=(first+(i:Int),K):=by unfold D0;rw[h]
variable {q : IntKind}
theorem Wz{n:Nat}(h:∀k∈K,k.length=n):∀cs∈K.map (Az q),cs.length=n:=fun cs hc=>by
 obtain⟨k,hk,rfl⟩:=qX3.1 hc;simp[Az,h k hk]
theorem q7(q:IntKind)(k:List Int):(Az q k).all AV.isPure1=true:=by
 rw[q67];intro x hx;obtain⟨n,_,rfl⟩:=qX3.1 hx;rfl
theorem SF(K:List (List Int)):∀cs∈K.map (Az q),cs.all AV.isPure1=true:=fun cs hc=>by
 obtain⟨k,hk,rfl⟩:=qX3.1 hc;exact q7 q k
variable {k : Nat -> Bool}
theorem NZ(x:Int)(es:List (List AV))(h1:k 3=true)(h2:k 9=true):(AObj.row false 3 [[.int .i64 x,.map 3,Bo 9 es]]).avoid k=true:=by
 have h:=Cb es h2;have g:(AV.map 3).avoid k=true:=h1;have g2:(AV.int .i64 x).avoid k=true:=rfl;simp only[AObj.avoid,qQ1,qX7,h,g,g2,Bool.and_self]
variable {v : Nat}
theorem NQ{p:Nat}(es es2:List (List AV))(x:Int)(h1:k 4=true)(h2:k v=true)(h3:k p=true):(AObj.row false 4 [[.ptr 4 1 0 0,GB v es,Bo p es2,.int .i64 x]]).avoid k=true:=by
 have h:=Cb es2 h3;have h':=NT es h2;exact sx
theorem Adk{k:List Int}(h:k.length=4):∃a b c d,k=[a,b,c,d]:=by
 match k,h with
 | [a,b,c,d],_=>exact⟨a,b,c,d,rfl⟩
theorem Qv(first:Int)(K:List (List Int))(n:Int):FY (BE first K n).1:=by
 unfold BE
 cases decide (n<first)with
 |true=>exact EB
 |false=>exact Gp _
variable {n : Int}
theorem AbQ{first:Int}(h4:∀k∈K,k.length=4)(hn:0<=n/\n<first+K.length)(h:decide (n<first)=false):
 0<=n-first/\n-first<((K.map (Az .i64)).length:Int)/\∃a b c d:Int,(K.map (Az .i64))[(n-first).toNat]?=some [.int .i64 a,.int .i64 b,.int .i64 c,.int .i64 d]/\BE first K n=(IntKind.u32.wrap b,a==1):=by
 have hge:first<=n:=by simpa using h
 have hlt:(n-first).toNat<K.length:=by omega
 obtain⟨k,hk⟩:=Ad hlt;obtain⟨a,b,c,d,rfl⟩:=Adk (h4 k (q33 hk));refine⟨by omega,by rw[q76];omega,a,b,c,d,by rw[q54,hk];rfl,?_⟩;unfold BE;rw[h,hk];rfl
theorem L3{first:Int}(h:decide (n<first)=true):BE first K n=(0,false):=by unfold BE;rw[h];rfl
theorem W2{first:Int}(h1:(BE first K a).2=true)(h2:(BE first K b).2=true)(h3:((Cp op (BE first K a).1 (BE first K b).1).2==0)=true):CA first K op a b=D0 first K [1,(Cp op (BE first K a).1 (BE first K b).1).1,0,0]:=by
 unfold CA;rw[h1,h2,h3];rfl
theorem TD{first:Int}(h1:(BE first K a).2=false):CA first K op a b=D0 first K [2,op,a,b]:=by
 unfold CA;rw[h1];rfl
theorem TC{first:Int}(h1:(BE first K b).2=false):CA first K op a b=D0 first K [2,op,a,b]:=by
 unfold CA;rw[h1,q97];rfl
theorem TB{first:Int}(h3:((Cp op (BE first K a).1 (BE first K b).1).2==0)=false):CA first K op a b=D0 first K [2,op,a,b]:=by
 unfold CA;rw[h3,q97];rfl
structure Kb(t:Tac)(R:Nat):Prop where
  d:setsOp t.op=true->0<=t.d/\t.d<R
  a:use1 t.op=true\/use2 t.op=true->0<=t.a/\t.a<R
  b:use2 t.op=true->0<=t.b/\t.b<R
  n:FY t.n
def A5(l:List Int):List (List AV):=l.map fun n=>[AV.int .i64 n]
abbrev W9(h:Aj)(first:Int)(K:List (List Int)):Aj:=(Af (Af (Af h 3 (.map (C5 .i64 (DJ first K)))) 4 (.row false 3 [[.int .i64 first,.map 3,Bo 9 (K.map (Az .i64))]])) 9 (BU 4 (K.map (Az .i64))))
abbrev PJ(p v o:Nat)(h:Aj)(w:VW):Aj:=(Af (Af (Af h p (.row false 4 [[.ptr 4 1 0 0,GB v (A5 w.vals),Bo o (w.effs.map (Az .i64)),.int .i64 w.time]])) v (Il (A5 w.vals))) o (BU 6 (w.effs.map (Az .i64))))
abbrev vH(p v o:Nat)(first:Int)(h:Aj)(w:VW):Aj:=PJ p v o (W9 h first w.K) w
theorem C2(l:List Int):(A5 l).length=l.length:=q76 ..
theorem CP(l:List Int):∀cs∈A5 l,cs.length=1:=fun cs hc=>by
 obtain⟨n,_,rfl⟩:=qX3.1 hc;rfl
theorem BI(h:0<=z/\z<l.length):(A5 l)[z.toNat]?=some [AV.int .i64 (Ai l z)]:=by
 unfold A5 Ai;rw[q54,q13 Ab];rfl
theorem W4(l:List Int)(z v:Int):A5 (A4 l z v)=(A5 l).set z.toNat [AV.int .i64 v]:=by
 unfold A5 A4;rw[List.map_set]
theorem ME(b:Nat)(l:List Int)(z v:Int):GB b (A5 (A4 l z v))=GB b (A5 l):=Vu (by rw[C2,C2,B3])
variable {t : Tac}
theorem qY{first:Int}(h:vrisky first w t=true):w.bin first t=⟨(CA first w.K t.k (Ai w.vals t.a) (Ai w.vals t.b)).2,A4 w.vals t.d (CA first w.K t.k (Ai w.vals t.a) (Ai w.vals t.b)).1,w.effs++[[1,t.k,Ai w.vals t.a,Ai w.vals t.b,0,0]],w.time⟩:=by
 unfold VW.bin VW.div VW.put;rw[h];rfl
theorem wq{first:Int}(h:vrisky first w t=false):w.bin first t=⟨(CA first w.K t.k (Ai w.vals t.a) (Ai w.vals t.b)).2,A4 w.vals t.d (CA first w.K t.k (Ai w.vals t.a) (Ai w.vals t.b)).1,w.effs,w.time⟩:=by
 unfold VW.bin VW.div VW.put;rw[h];rfl
theorem VOk.at{first:Int}(h:VOk first R m w)(hz:0<=z/\z<R):0<=z/\z<w.vals.length/\z<((A5 w.vals).length:Int)/\0<=Ai w.vals z/\Ai w.vals z<first+w.K.length:=by
 have h1:=h.vl;have h2:=h.v _ (PT (z:=z) (by rw[h1];exact hz));rw[C2,h1];exact⟨hz.1,hz.2,hz.2,h2.1,h2.2⟩
theorem jX{first:Int}(ho:t.op=1):w.step first t=w.put t.d (D0 first w.K [1,t.n,0,0]):=by
 unfold VW.step;rw[ho];rfl
theorem jW{first:Int}(ho:t.op=2):w.step first t={w with vals:=A4 w.vals t.d (Ai w.vals t.a)}:=by
 unfold VW.step;rw[ho];rfl
theorem jV{first:Int}(ho:t.op=3):w.step first t=w.bin first t:=by
 unfold VW.step;rw[ho];rfl
theorem jU{first:Int}(ho:t.op=4):w.step first t=w.put t.d (D0 first w.K [3,t.base,w.time,0]):=by
 unfold VW.step;rw[ho];rfl
theorem jT{first:Int}(ho:t.op=5):w.step first t=(w.hap t (Ai w.vals t.a) 0).tick:=by
 unfold VW.step;rw[ho];rfl
theorem jS{first:Int}(ho:t.op=6):w.step first t=(w.hap t (Ai w.vals t.a) 0).put t.d (J8 first (w.hap t (Ai w.vals t.a) 0)):=by
 unfold VW.step;rw[ho];rfl
theorem jR{first:Int}(ho:t.op=7):w.step first t=(w.hap t (Ai w.vals t.a) (Ai w.vals t.b)).tick:=by
 unfold VW.step;rw[ho];rfl
theorem jQ{first:Int}(ho:t.op=8):w.step first t=(w.hap t 0 0).put t.d (J8 first (w.hap t 0 0)):=by
 unfold VW.step;rw[ho];rfl
theorem jP{first:Int}(ho:t.op=9):w.step first t=w.hap t (Ai w.vals t.a) 0:=by
 unfold VW.step;rw[ho];rfl
theorem cp{first:Int}(ho:t.op=10):w.step first t=(w.hap t 0 0).tick:=by
 unfold VW.step;rw[ho];rfl
theorem u6{first:Int}(h1:(t.op==1)=false)(h2:(t.op==2)=false)(h3:(t.op==3)=false)(h4:(t.op==4)=false)(h5:(t.op==5)=false)(h6:(t.op==6)=false)(h7:(t.op==7)=false)(h8:(t.op==8)=false)(h9:(t.op==9)=false)(h10:(t.op==10)=false):w.step first t=w:=by
 unfold VW.step;rw[h1,h2,h3,h4,h5,h6,h7,h8,h9,h10];rfl
theorem Aa5{x:Int}(h:0<=x/\x<=90000):A8 .add (.int .i64 x) (.int .i64 1)=some (.int .i64 (x+1)):=wB Ab Ab rfl
def Dx(R k:Nat)(f:Nat->Int):List Int:=(List.range k).map f++List.replicate (R-k) 0
variable {k : Nat}
theorem F1(f:Nat->Int)(h:k<=R):(Dx R k f).length=R:=by simp[Dx];omega
theorem Qw(R:Nat)(f:Nat->Int):A5 (Dx R 0 f)=List.replicate R [AV.int .i64 0]:=by
 simp[Dx,A5]
theorem gQ(f:Nat->Int)(h:k<R):(Dx R k f).set k (f k)=Dx R (k+1) f:=by
 unfold Dx;rw[List.set_append_right _ _ Aq,q79,q77,q63];congr 1;rw[show R-k=(R-(k+1))+1 by omega,List.replicate_succ]
 simp
theorem Lr(R:Nat)(f:Nat->Int):Dx R R f=(List.range R).map f:=by simp[Dx]
def Ka(R:Nat):List Int:=(List.range R).map fun(v:Nat)=>(v:Int)
def EV(R:Nat)(row:List Bool)(v:Nat):Int:=bif (row[v]?).getD false then(v:Int)else((R+v:Nat):Int)
def Jh(R:Nat)(row:List Bool):List Int:=(List.range R).map (EV R row)
def Cert.at'(c:Cert)(k:Int):List Bool:=(c.same[k.toNat]?).getD []
def De(first:Int)(l:List Tac)(w:VW):VW:=l.foldl (VW.step first) w
def CO(R:Nat)(old:Block):VW:=De (2*R:Nat) old.ins ⟨[],Ka R,[],0⟩
def D8(R:Nat)(old new:Block)(row:List Bool):VW:=De (2*R:Nat) new.ins ⟨(CO R old).K,Jh R row,[],0⟩
def EM(x y:VW)(row:List Bool):Bool:=row.zipIdx.all fun p=> !p.1||Ai x.vals (p.2:Int)==Ai y.vals (p.2:Int)
def HR(R:Nat)(old new:Block)(c:Cert)(i:Int)(next:List Int):Bool:=
  decide ((CO R old).effs=(D8 R old new (c.at' i)).effs)&&((!(old.fin==2)||Ai (CO R old).vals old.v==Ai (D8 R old new (c.at' i)).vals new.v)&&next.all fun k=>EM (CO R old) (D8 R old new (c.at' i)) (c.at' k))
variable {l : List Tac}
theorem Zu{first:Int}(h:l[k]?=some t):De first (l.take (k+1)) w=(De first (l.take k) w).step first t:=by
 unfold De;rw[AT h,List.foldl_append];rfl
theorem TA{first:Int}(h:l.length<=k):De first (l.take k) w=De first l w:=by
 rw[q20 h]
theorem Qu{first:Int}(h:VOk first R m w)(hl:∀t∈l,Kb t R):VOk first R (m+2*l.length) (De first l w):=by
 unfold De
 induction l generalizing w m with
 |nil=>exact h
 |cons t l ih=>
  have h1:=h.step t (fun hu=>(hl t Aq).a (.inl hu));have h2:=ih h1 (fun u hu=>hl u IR);rw[q70,show m+2*(l.length+1)=m+2+2*l.length by omega];exact h2
theorem Tz{first:Int}(h:VOk first R m w)(hl:∀t∈l,Kb t R)(k:Nat):VOk first R (m+2*l.length) (De first (l.take k) w):=
 (Qu h (l:=l.take k) (fun t ht=>hl t (List.mem_of_mem_take ht))).mono Qj
theorem tU(hR:R<=40000):VOk (2*R:Nat) R 0 ⟨[],Ka R,[],0⟩ where
 f:=by omega
 k4:=fun k hk=>by simp at hk
 e6:=fun k hk=>by simp at hk
 kl:=qZ0 _
 el:=qZ0 _
 tl:=⟨Int.le_refl 0,by show(0:Int)<=0;decide⟩
 vl:=by simp[Ka]
 v:=fun n hn=>by
  simp only[Ka,qX3,q94]at hn;obtain⟨v,hv,rfl⟩:=hn;show 0<=(v:Int)/\(v:Int)<((2*R:Nat):Int)+0;omega
theorem tT(hw:VOk (2*R:Nat) R m w)(row:List Bool):VOk (2*R:Nat) R m ⟨w.K,Jh R row,[],0⟩ where
 f:=hw.f
 k4:=hw.k4
 e6:=fun k hk=>by simp at hk
 kl:=hw.kl
 el:=qZ1 _
 tl:=⟨Int.le_refl 0,by show(0:Int)<=m;omega⟩
 vl:=by simp[Jh]
 v:=fun n hn=>by
  simp only[Jh,qX3,q94]at hn;obtain⟨v,hv,rfl⟩:=hn;show 0<=EV R row v/\EV R row v<((2*R:Nat):Int)+(w.K.length:Int);unfold EV
  cases (row[v]?).getD false<;>simp only[qZ7,qZ3]<;>omega
variable {K : IntKind}
theorem XZ{l:List Int}{i:AC}(h:i.k.isAgg=true)(hs:i.size=l.length):JF i (Az K l)=some (.agg (Az K l)):=by
 unfold JF;rw[h,hs];have e:(Az K l).length=l.length:=by simp[Az]
 rw[<-e,show Nat.ble (Az K l).length (Az K l).length=true by rw[qZ5];exact qZ0 _,q71];rfl
theorem dP{L:List (List Int)}(h:L[k]?=some x):(L.map (Az K))[((k:Nat):Int).toNat]?=some (Az K x):=by
 rw[q55,q54,h];rfl
theorem MN{α:Type}{l l':List α}{x:α}(h:l.take k=l'.take k)(hx:l[k]?=some x)(hy:l'[k]?=some x):l.take (k+1)=l'.take (k+1):=by
 rw[AT hx,AT hy,h]
theorem Vo{cs cs':List AV}(hl:cs'.length=cs.length)(h:∀(j:Nat) (x y:AV),cs[j]?=some x->cs'[j]?=some y->x=y\/(x=.nil/\y=.lst true [])):
 ∀(i:Nat) (ds ds':List AV),[cs][i]?=some ds->[cs'][i]?=some ds'->ds'.length=ds.length/\∀(j:Nat) (x y:AV),ds[j]?=some x->ds'[j]?=some y->(x.cell1=true->y.cell1=true)/\∀H ι v,Rel H ι x v->Rel H ι y v:=by
 intro i ds ds' h1 h2
 cases i with
 |succ i=>simp at h1
 |zero=>
  simp at h1 h2;subst h1;subst h2;refine⟨hl,fun j x y hx hy=>?_⟩;rcases h j x y hx hy with rfl|⟨rfl,rfl⟩
  . exact⟨id,fun _ _ _=>id⟩
  . exact⟨fun _=>rfl,fun _ _ _=>V5⟩
theorem pe{a b:AV}:∀(i:Nat) (ds ds':List AV),[[a,b,AV.nil]][i]?=some ds->[[a,b,AV.lst true []]][i]?=some ds'->ds'.length=ds.length/\∀(j:Nat) (x y:AV),ds[j]?=some x->ds'[j]?=some y->(x.cell1=true->y.cell1=true)/\∀H ι v,Rel H ι x v->Rel H ι y v:=
 Vo rfl fun j x y hx hy=>by
  match j with
  |0=>simp at hx hy;exact .inl (hx.symm.trans hy)
  |1=>simp at hx hy;exact .inl (hx.symm.trans hy)
  |2=>simp at hx hy;exact .inr ⟨hx.symm,hy.symm⟩
  |j+3=>simp at hx
theorem Vn{a b d:AV}:∀(i:Nat) (ds ds':List AV),[[a,b,AV.nil,d]][i]?=some ds->[[a,b,AV.lst true [],d]][i]?=some ds'->ds'.length=ds.length/\∀(j:Nat) (x y:AV),ds[j]?=some x->ds'[j]?=some y->(x.cell1=true->y.cell1=true)/\∀H ι v,Rel H ι x v->Rel H ι y v:=
 Vo rfl fun j x y hx hy=>by
  match j with
  |0=>simp at hx hy;exact .inl (hx.symm.trans hy)
  |1=>simp at hx hy;exact .inl (hx.symm.trans hy)
  |2=>simp at hx hy;exact .inr ⟨hx.symm,hy.symm⟩
  |3=>simp at hx hy;exact .inl (hx.symm.trans hy)
  |j+4=>simp at hx
theorem eK(l:List Int)(k:Nat)(v:Int):(A5 l).set k [AV.int .i64 v]=A5 (l.set k v):=by unfold A5;rw[List.map_set]
theorem Wn(f:Nat->Int)(h:k<R):some (Il ((A5 (Dx R k f)).set ((k:Nat):Int).toNat [AV.int .i64 (f k)]))=some (Il (A5 (Dx R (k+1) f))):=by
 rw[q55,eK,gQ f h]
theorem nl(h:k<R):some (Il ((A5 (Dx R k (fun v:Nat=>(v:Int)))).set ((k:Nat):Int).toNat [AV.int .i64 (k:Int)]))=some (Il (A5 (Dx R (k+1) (fun v:Nat=>(v:Int))))):=Wn _ h
variable {row : List Bool}
theorem nj(h:k<R)(hb:row[k]?=some true):some (Il ((A5 (Dx R k (EV R row))).set ((k:Nat):Int).toNat [AV.int .i64 (k:Int)]))=some (Il (A5 (Dx R (k+1) (EV R row)))):=by
 have e:(k:Int)=EV R row k:=by unfold EV;rw[hb];rfl
 have:=Wn (EV R row) h;rw[<-e]at this;exact this
theorem gP(h:k<R)(hb:row[k]?=some false):some (Il (((A5 (Dx R k (EV R row))).set ((k:Nat):Int).toNat [AV.int .i64 (k:Int)]).set ((k:Nat):Int).toNat [AV.int .i64 ((R+k:Nat):Int)]))=some (Il (A5 (Dx R (k+1) (EV R row)))):=by
 have e:((R+k:Nat):Int)=EV R row k:=by unfold EV;rw[hb];rfl
 have:=Wn (EV R row) h;rw[<-e]at this;rw[List.set_set];exact this
theorem qJ(f:Nat->Int)(a x y:AV)(h:k<R):some (AObj.row false 4 [[a,GB v (A5 (Dx R k f)),x,y]])=some (AObj.row false 4 [[a,GB v (A5 (Dx R (k+1) f)),x,y]]):=by
 rw[Vu (es:=A5 (Dx R k f)) (es':=A5 (Dx R (k+1) f)) (by rw[C2,C2,F1 f h,F1 f (qX0 h)])]
theorem Abo:some (Il (A5 (Dx R R (fun v:Nat=>(v:Int)))))=some (Il (A5 (Ka R))):=by rw[Lr];rfl
theorem Abn(row:List Bool):some (Il (A5 (Dx R R (EV R row))))=some (Il (A5 (Jh R row))):=by rw[Lr];rfl
theorem vV(a x y:AV):some (AObj.row false 4 [[a,GB v (A5 (Dx R R (fun v:Nat=>(v:Int)))),x,y]])=some (AObj.row false 4 [[a,GB v (A5 (Ka R)),x,y]]):=by rw[Lr];rfl
theorem vU(row:List Bool)(a x y:AV):some (AObj.row false 4 [[a,GB v (A5 (Dx R R (EV R row))),x,y]])=some (AObj.row false 4 [[a,GB v (A5 (Jh R row)),x,y]]):=by rw[Lr];rfl
theorem wi(f:Nat->Int):some (Il (List.replicate R [AV.int .i64 0]))=some (Il (A5 (Dx R 0 f))):=by rw[Qw]
theorem wh(f:Nat->Int)(a x y:AV):some (AObj.row false 4 [[a,GB v (List.replicate R [AV.int .i64 0]),x,y]])=some (AObj.row false 4 [[a,GB v (A5 (Dx R 0 f)),x,y]]):=by rw[Qw]
theorem JV(h:(a !=b)=true):¬a=b:=by simpa using h
theorem HE(h:(a !=b)=false):a=b:=by simpa using h
variable {p : Prop}
theorem qi [Decidable p](h:(!decide p)=true):¬p:=by simpa using h
theorem mm [Decidable p](h:(!decide p)=false):p:=by simpa using h
def G1(x y:VW)(row:List Bool)(k:Nat):Prop:=∀j,j<k->∀b,row[j]?=some b->b=true->Ai x.vals (j:Int)=Ai y.vals (j:Int)
variable {x y : VW}
theorem vagree_zero:G1 x y row 0:=fun j h=>absurd h (Nat.not_lt_zero _)
variable {must : Bool}
theorem O8(h:G1 x y row k)(hm:row[k]?=some must)(hk:must=true->Ai x.vals (k:Int)=Ai y.vals (k:Int)):G1 x y row (k+1):=fun j hj b hb hbt=>by
 by_cases hjk:j=k
 . subst hjk;rw[hm]at hb;exact hk ((q86 hb).trans hbt)
 . exact h j Ab b hb hbt
theorem vagree_iff:EM x y row=true↔ ∀(j:Nat) (b:Bool),row[j]?=some b->b=true->Ai x.vals (j:Int)=Ai y.vals (j:Int):=by
 unfold EM;rw[q67];constructor
 . intro h j b hb hbt;have:=h (b,j) (q33 (BG hb));subst hbt;simpa using this
 . rintro h ⟨b,j⟩ hp
   obtain⟨i,hi⟩:=q27.1 hp;rw[q37,q22]at hi;obtain⟨b',hb',e⟩:=hi;simp only[qQ8,q98]at e;obtain⟨rfl,rfl⟩:=e
   cases b' with
   |false=>rfl
   |true=>simpa using h _ true hb' rfl
theorem Qx(hk:row.length<=k)(h:G1 x y row k):EM x y row=true:=
 vagree_iff.2 fun j b hb hbt=>h j (by have:=(q05.1 hb).1;omega) b hb hbt
theorem TG(hm:row[k]?=some must)(ht:must=true)(hne:¬Ai x.vals (k:Int)=Ai y.vals (k:Int)):EM x y row=false:=by
 rw[q64];intro h;exact hne (vagree_iff.1 h k must hm ht)
section
variable {R : Nat} {old new : Block} {c : Cert} {i : Int} {next : List Int}
theorem eH(h:¬(CO R old).effs=(D8 R old new (c.at' i)).effs):HR R old new c i next=false:=by
 unfold HR;rw[q89 h];rfl
theorem eG(hf:old.fin=2)(h:¬Ai (CO R old).vals old.v=Ai (D8 R old new (c.at' i)).vals new.v):HR R old new c i next=false:=by
 unfold HR;rw[hf,show(Ai (CO R old).vals old.v==Ai (D8 R old new (c.at' i)).vals new.v)=false by simpa using h]
 simp
theorem eF{j:Nat}{nk:Int}(hj:next[j]?=some nk)(h:EM (CO R old) (D8 R old new (c.at' i)) (c.at' nk)=false):HR R old new c i next=false:=by
 unfold HR;rw[Cw hj (p:=fun k=>EM (CO R old) (D8 R old new (c.at' i)) (c.at' k)) h,q97,q97]
theorem eE(h1:(CO R old).effs=(D8 R old new (c.at' i)).effs)(h2:old.fin=2->Ai (CO R old).vals old.v=Ai (D8 R old new (c.at' i)).vals new.v)(h3:(next.all fun k=>EM (CO R old) (D8 R old new (c.at' i)) (c.at' k))=true):HR R old new c i next=true:=by
 unfold HR;rw[q96 h1,h3]
 by_cases hf:old.fin=2
 . rw[h2 hf];simp
 . have:(old.fin==2)=false:=by simpa using hf
   rw[this];rfl
end
variable {m n sz : Nat} {e : A3} {h : Aj} {es : List (List AV)}
theorem Ghost.freezeA(t b:Nat)(ht:e t=some (.ref b m 0 m))(hb:h b=some (.row true sz es))(hm:m=es.length):
 Ghost ⟨n,e,h⟩ ⟨n,Aa e t (.lst false es),hrm h b⟩:=by
 exact i8
def Gj(p:List Int):List AV:=[AI p]
def Block.nexts(b:Block):List Int:=bif b.fin==1 then [b.to]else bif b.fin==2 then [b.to,b.els]else []
def BFunc.nexts(f:BFunc):List (List Int):=f.blocks.map Block.nexts
theorem AZ(f:BFunc):f.nexts.length=f.blocks.length:=by simp[BFunc.nexts]
variable {k : Nat} {x : Block} {f : BFunc}
theorem C8(h:f.blocks[k]?=some x):f.nexts[k]?=some x.nexts:=by simp[BFunc.nexts,h]
variable {α : Type}
theorem gO{F:List α}{f:α->List AV}{z:List AV}{x:α}(hF:F.length=n)(hx:F[k]?=some x)(hz:f x=z):((F.take k).map f++List.replicate (n-k) z)=(F.take (k+1)).map f++List.replicate (n-(k+1)) z:=by
 have hk:k<n:=by rw[<-hF];exact(q05.1 hx).1
 rw[AT hx,q77,q63];congr 1;obtain⟨m,hm⟩:∃m,n-k=m+1:=⟨n-k-1,by omega⟩
 grind
structure DS where
  been:List Bool
  way:List (Int×Int)
def notBeen(been:List Bool)(b:Int):Bool:=decide (b>=0)&&decide (b<been.length)&& !((been[b.toNat]?).getD true)
def Cu(b:Int)(s:DS):DS:=bif notBeen s.been b then⟨s.been.set b.toNat true,s.way++[(b,0)]⟩else s
def Cl(next:List (List Int))(b:Int):List Int:=(next[b.toNat]?).getD []
def Ha(next:List (List Int))(s:DS):DS:=
  match s.way.getLast? with
  |none=>s
  |some (b,i)=>bif decide (i<(Cl next b).length)then Cu (((Cl next b)[i.toNat]?).getD 0) ⟨s.been,s.way.dropLast++[(b,i+1)]⟩else⟨s.been,s.way.dropLast⟩
def KK(next:List (List Int)):Nat->DS->DS
  |0,s=>s
  |g+1,s=>if s.way.isEmpty then s else KK next g (Ha next s)
def nu:List Bool->List (List Int)->Nat
  |x::xs,l::ls=>(bif x then 0 else l.length+2)+nu xs ls
  |_,_=>0
def yC(next:List (List Int))(way:List (Int×Int)):Nat:=(way.map fun p=>(Cl next p.1).length-p.2.toNat+1).sum
def Ws(next:List (List Int))(s:DS):Nat:=nu s.been next+yC next s.way
theorem me:∀{been:List Bool} {next:List (List Int)} {i:Nat} {l:List Int},been[i]?=some false->next[i]?=some l->nu (been.set i true) next+(l.length+2)=nu been next
 | [],_,_,_,h,_=>by simp at h
 |_::_,[],_,_,_,h=>by simp at h
 |x::xs,m::ls,0,l,h1,h2=>by
  grind[nu]
 |x::xs,m::ls,i+1,l,h1,h2=>by
  simp only[q17]at h1 h2;have:=me h1 h2
  grind[nu]
def cr(l:List Bool):Nat:=(l.map fun x=>bif x then 0 else 1).sum
theorem MJ:∀{been:List Bool} {i:Nat},been[i]?=some false->cr (been.set i true)+1=cr been
 | [],_,h=>by simp at h
 |x::xs,0,h=>by simp at h;subst h;simp[cr];omega
 |x::xs,i+1,h=>by
  simp only[q17]at h;have:=MJ h
  grind[cr]
variable {b : Int}
theorem FV{been:List Bool}(h:notBeen been b=true):0<=b/\b<been.length/\been[b.toNat]?=some false:=by
 grind[notBeen,Ad]
theorem Qn(next:List (List Int))(w:List (Int×Int))(p:Int×Int):yC next (w++[p])=yC next w+((Cl next p.1).length-p.2.toNat+1):=by simp[yC]
variable {s : DS}
theorem nD{next:List (List Int)}(hn:s.been.length=next.length):Ws next (Cu b s)<=Ws next s:=by
 grind[Cu,notBeen,FV,Ad,me,Ws,Qn,Cl]
variable {p : Int × Int}
theorem IW{w:List (Int×Int)}(h:w.getLast?=some p):w=w.dropLast++[p]:=by
 cases w with
 |nil=>simp at h
 |cons x r=>
  have hne:x::r≠[]:=by simp
  rw[List.getLast?_eq_some_getLast hne]at h
  cases h
  exact(List.dropLast_concat_getLast hne).symm
theorem KL{l:List α}(h:n<=l.length):(l.take n).dropLast=l.take (n-1):=by
 rw[List.dropLast_eq_take,List.take_take,q69];congr 1;omega
structure DS.ok(next:List (List Int))(s:DS):Prop where
  len:s.been.length=next.length
  way:∀p∈s.way,0<=p.1/\p.1<next.length/\0<=p.2/\p.2<=(Cl next p.1).length
theorem Sn{next:List (List Int)}(h:s.ok next):(Cu b s).ok next:=by
 unfold Cu
 cases e:notBeen s.been b with
 |false=>exact h
 |true=>
  obtain⟨h1,h2,h3⟩:=FV e;have:=h.len;refine⟨by simpa using h.len,fun p hp=>?_⟩;simp only[qZ7,q78,q47]at hp;rcases hp with hp|rfl
  . exact h.way p hp
  . exact⟨h1,by omega,Int.le_refl _,q46 _⟩
theorem YB{next:List (List Int)}(h:s.ok next):(Ha next s).ok next:=by
 unfold Ha;split
 . exact h
 . rename_i b i e;have hw:=IW e;have hb:=h.way (b,i) (by rw[hw];simp)
   cases hi:decide (i<(Cl next b).length)with
   |false=>exact⟨h.len,fun p hp=>h.way p (q39 _ hp)⟩
   |true=>
    simp only[q56]at hi;refine Sn ⟨h.len,fun p hp=>?_⟩;simp only[q78,q47]at hp;rcases hp with hp|rfl
    . exact h.way p (q39 _ hp)
    . exact⟨hb.1,hb.2.1,by show 0<=i+1;have:=hb.2.2.1;simp only at this;omega,by show i+1<=((Cl next b).length:Int);omega⟩
theorem YC{next:List (List Int)}(h:s.ok next)(hne:s.way≠[]):Ws next (Ha next s)<Ws next s:=by
 unfold Ha
 cases e:s.way.getLast? with
 |none=>rw[List.getLast?_eq_none_iff]at e;exact absurd e hne
 |some p=>
  obtain⟨b,i⟩:=p;have hw:=IW e;have hb:=h.way (b,i) (by rw[hw];simp);simp only at hb;have e1:Ws next s=nu s.been next+(yC next s.way.dropLast+((Cl next b).length-i.toNat+1)):=by
   unfold Ws;conv=>lhs;rw[hw]
   rw[Qn]
  dsimp only
  cases hi:decide (i<(Cl next b).length)with
  |false=>
   rw[e1];simp only[qZ3,Ws];omega
  |true=>
   simp only[q56]at hi;simp only[qZ7];refine Nat.lt_of_le_of_lt (nD h.len) ?_;rw[e1];simp only[Ws,Qn];omega
variable {g : Nat}
theorem U5{next:List (List Int)}(hne:s.way≠[]):KK next (g+1) s=KK next g (Ha next s):=by
 grind[KK,Ha]
theorem YF{next:List (List Int)}(h:s.way=[]):KK next g s=s:=by
 cases g with
 |zero=>rfl
 |succ g=>simp[KK,h]
def GM(been:List Bool):DS:=Cu 0 ⟨been,[]⟩
def IP(next:List (List Int))(been:List Bool):List Bool:=(KK next (Ws next (GM been)+1) (GM been)).been
def BFunc.reach(f:BFunc):List Bool:=IP f.nexts (List.replicate f.nexts.length false)
def Ey(p:Int×Int):List AV:=[.int .i64 p.1,.int .i64 p.2]
structure WayIn(n:Nat)(s:DS)(es:List (List AV)):Prop where
  le:s.way.length<=es.length
  eq:es.take s.way.length=s.way.map Ey
  cap:es.length+cr s.been<=n
def Wg(b:Int)(s:DS)(es:List (List AV)):List (List AV):=bif notBeen s.been b then Eo es s.way.length (Ey (b,0))else es
theorem VX{len:Nat}{cs:List AV}:(Eo es len cs).length<=es.length+1:=by
 grind[Eo]
theorem WayIn.into(h:WayIn n s es):WayIn n (Cu b s) (Wg b s es):=by
 unfold Cu Wg
 cases e:notBeen s.been b with
 |false=>exact h
 |true=>
  obtain⟨h1,h2,h3⟩:=FV e;have hu:=MJ h3;simp only[qZ7];refine⟨by simpa using Of h.le,?_,?_⟩
  . show(Eo es s.way.length (Ey (b,0))).take (s.way++[(b,0)]).length=_;rw[q48];simp only[q70,q84,q77,qQ0,qX9];rw[Me h.le,h.eq]
  . have:=VX (es:=es) (len:=s.way.length) (cs:=Ey (b,0));have:=h.cap;show(Eo es s.way.length (Ey (b,0))).length+cr (s.been.set b.toNat true)<=n;omega
theorem WayIn.top(h:WayIn n s es)(hp:s.way.getLast?=some p):es[s.way.length-1]?=some (Ey p)/\0<s.way.length:=by
 have hw:=IW hp;have hpos:0<s.way.length:=by rw[hw];simp
 have h1:(es.take s.way.length)[s.way.length-1]?=es[s.way.length-1]?:=q14 Ab;rw[<-h1,h.eq,q54];rw[List.getLast?_eq_getElem?]at hp;rw[hp];exact⟨rfl,hpos⟩
theorem WayIn.seen(h:WayIn n s es){i:Int}(hp:s.way.getLast?=some (b,i)):WayIn n ⟨s.been,s.way.dropLast++[(b,i+1)]⟩ (es.set (s.way.length-1) (Ey (b,i+1))):=by
 obtain⟨h1,h2⟩:=h.top hp;have hl:(s.way.dropLast++[(b,i+1)]).length=s.way.length:=by simp;omega
 have hle:=h.le;refine⟨by simp only[hl,q83];exact hle,?_,by simpa using h.cap⟩;simp only[hl];obtain⟨m,hm⟩:∃m,s.way.length=m+1:=⟨s.way.length-1,by omega⟩
 rw[hm];simp only[Nat.add_sub_cancel];have hlt:m<es.length:=by omega
 rw[AT (q21 hlt),List.take_set_of_le (qZ0 _),q77];congr 1;have:=h.eq;rw[hm]at this;have h3:=congrArg List.dropLast this;rw[List.map_dropLast];rw[<-h3,KL Ab];rfl
theorem WayIn.pop(h:WayIn n s es)(hp:s.way.getLast?=some p):WayIn n ⟨s.been,s.way.dropLast⟩ es:=by
 obtain⟨h1,h2⟩:=h.top hp;have hle:=h.le;refine⟨by simp only[List.length_dropLast];omega,?_,h.cap⟩;simp only[List.length_dropLast];have h3:=congrArg List.dropLast h.eq;rw[List.map_dropLast,<-h3,KL Ab]
def GY(b:Int):Tac:=⟨10,0,0,0,0,b,0,0⟩
def Tac.callOk(t:Tac):Bool:=t.op !=10||(decide (0<=t.base)&&t.same (GY t.base))
def Ee(l:List Tac):List Tac:=l.filter fun t=>t.op !=10
def Block.bare(x:Block):Block:={x with ins:=Ee x.ins}
def BFunc.bare(f:BFunc):BFunc:=⟨f.regs,f.blocks.map Block.bare⟩
def BFunc.stands(f:BFunc):Bool:=f.blocks.all (fun x=>x.ins.all Tac.callOk)&&(Blocks.mk 1048576 [f.bare]).right
def EW(x y:Block):Bool:=x.fin==y.fin&&(x.to==y.to&&x.els==y.els)
def vshaped(old new:BFunc):Bool:=decide (old.regs=new.regs)&&(decide (old.blocks.length=new.blocks.length)&&(old.stands&&(new.stands&&(old.blocks.zip new.blocks).all fun p=>EW p.1 p.2)))
def MD(old new:BFunc)(c:Cert):Bool:=(old.blocks.zip new.blocks).zipIdx.all fun p=>HR old.regs.toNat p.1.1 p.1.2 c (p.2:Int) p.1.1.nexts
def Dj(old new:BFunc)(c:Cert):Bool:=vshaped old new&&(decide (c.same.length=old.blocks.length)&&((c.same.all fun r=>decide ((r.length:Int)=old.regs))&&MD old new c))
def co(f:BFunc):Cert:=⟨List.replicate f.blocks.length (List.replicate f.regs.toNat true)⟩
theorem Ghost.freezeAll0(t b:Nat)(ht:e t=some (.ref b m 0 m))(hb:h b=some (.row true sz es))(hm:m=es.length):
 Ghost ⟨n,e,h⟩ ⟨n,Aa e t (.lst false es),hrm h b⟩:=by
 exact i8
variable {b : Bool}
theorem FX(h:(!b)=false):b=true:=by simpa using h
theorem E5(h:(!b)=true):b=false:=by simpa using h
variable {t : Tac}
theorem OQ(h:(t.op !=10)=true):t.callOk=true:=by unfold Tac.callOk;rw[h];rfl
theorem YQ(h:(t.op !=10)=false)(hb:decide (t.base<0)=true):t.callOk=false:=by
 grind[Tac.callOk]
theorem YP(h:(t.op !=10)=false)(hb:t.same (GY t.base)=false):t.callOk=false:=by
 grind[Tac.callOk,GY]
theorem Sx(h:(t.op !=10)=false)(hb:decide (t.base<0)=false)(h2:t.same (GY t.base)=true):t.callOk=true:=by
 grind[Tac.callOk,GY]
variable {l : List Tac}
theorem Rs(hx:l[k]?=some t)(h:(t.op !=10)=true):Ee (l.take (k+1))=Ee (l.take k)++[t]:=by
 grind[Ee,AT]
theorem Uq(hx:l[k]?=some t)(h:(t.op !=10)=false):Ee (l.take (k+1))=Ee (l.take k):=by
 unfold Ee;rw[AT hx,q52];simp[h]
theorem aD(l:List Tac):(Ee l).length<=l.length:=List.length_filter_le _ _
theorem Kw(l:List Tac)(k:Nat):(Ee (l.take k)).length<=l.length:=qX2 (aD _) Qj
theorem QI{j:Nat}(hx:f.blocks[k]?=some x)(ht:x.ins[j]?=some t)(h:t.callOk=false):f.stands=false:=by
 grind[BFunc.stands,Cw,Block,Tac.callOk]
theorem ZK(h:f.blocks.all (fun x=>x.ins.all Tac.callOk)=true):f.stands=(Blocks.mk 1048576 [f.bare]).right:=by
 unfold BFunc.stands;rw[h];rfl
theorem n9(h:f.blocks[k]?=some x):(f.blocks.map Block.bare)[k]?=some x.bare:=by simp[h]
structure om(f:BFunc):Prop where
  r0:0<=f.regs
  r1:f.regs<=4000
  ne:f.blocks.length≠0
  tacs:∀x∈f.blocks,∀t∈x.ins,FY t.n->Kb t f.regs.toNat
  fin:∀x∈f.blocks,x.fin=1\/x.fin=2\/x.fin=3
  v:∀x∈f.blocks,x.fin=2->0<=x.v/\x.v<f.regs
  next:∀x∈f.blocks,∀k∈x.nexts,0<=k/\k<f.blocks.length
theorem Fe(h:f.stands=true):om f:=by
 unfold BFunc.stands at h;rw[q66]at h;obtain⟨h1,h2⟩:=h;simp only[Blocks.right,q66,q56,q67]at h2;have h3:=h2.2.2.2 (f.bare,0) Aq;simp only[BFunc.one,q66,q56,q61,q10,q67,BFunc.bare,q76]at h3;obtain⟨a1,a2,a3,a4⟩:=h3;have hb:∀x∈f.blocks,x.ends f.blocks.length f.regs=true/\∀t∈Ee x.ins,t.fits 0 f.regs 1048576=true:=fun x hx=>by
  have:=a4 x.bare (qX3.2 ⟨x,hx,rfl⟩);unfold Block.ok at this;rw[q66,q67]at this;exact this
 have hend:∀x∈f.blocks,(x.fin=1/\A2 x.to f.blocks.length=true)\/(x.fin=2/\A2 x.to f.blocks.length=true/\A2 x.els f.blocks.length=true/\A2 x.v f.regs=true)\/x.fin=3:=fun x hx=>by
  have he:=(hb x hx).1;unfold Block.ends at he
  cases e1:x.fin==1 with
  |true=>rw[e1]at he;simp only[qZ7,q66]at he;exact .inl ⟨by simpa using e1,he.1⟩
  |false=>
   cases e2:x.fin==2 with
   |true=>rw[e1,e2]at he;simp only[qZ7,qZ3,q66]at he;exact .inr (.inl ⟨by simpa using e2,he.1,he.2.1,he.2.2⟩)
   |false=>rw[e1,e2]at he;simp only[qZ3,q66,qZ4]at he;exact .inr (.inr he.1)
 have hw:∀{i n:Int},A2 i n=true->0<=i/\i<n:=fun {i n} h=>by simpa[A2]using h
 refine⟨q58 a1,q58 a2,fun e=>a3 (by simp[q01 e]),fun x hx t ht hn=>?_,fun x hx=>?_,fun x hx hf=>?_,fun x hx k hk=>?_⟩
 . by_cases h10:t.op=10
   . exact⟨(fun h=>by rw[h10]at h;cases h),(fun h=>by rw[h10]at h;rcases h with h|h<;>cases h),(fun h=>by rw[h10]at h;cases h),hn⟩
   . have hf:=(hb x hx).2 t (q90.2 ⟨ht,by simpa using h10⟩);have hi:=QH hf;exact⟨hi.d,hi.a,hi.b,hn⟩
 . rcases hend x hx with h|h|h
   . exact .inl h.1
   . exact .inr (.inl h.1)
   . exact .inr (.inr h)
 . rcases hend x hx with h|h|h
   . exact absurd (hf.symm.trans h.1) Al
   . exact hw h.2.2.2
   . exact absurd (hf.symm.trans h) Al
 . rcases hend x hx with h|h|h
   . rw[Block.nexts,show(x.fin==1)=true by simp[h.1]]at hk;simp only[qZ7,q47]at hk;rw[hk];exact hw h.2
   . rw[Block.nexts,show(x.fin==1)=false by simp[h.1],show(x.fin==2)=true by simp[h.1]]at hk;simp only[qZ7,qZ3,q99,List.not_mem_nil,or_false]at hk;rcases hk with rfl|rfl
     . exact hw h.2.1
     . exact hw h.2.2.1
   . rw[Block.nexts,show(x.fin==1)=false by simp[h],show(x.fin==2)=false by simp[h]]at hk;simp at hk
theorem Pq(x:Block):x.nexts.length<=100000:=by
 grind[Block.nexts]
theorem L1{β:Type}{l:List α}{m:List β}{x:α}{y:β}(hx:l[k]?=some x)(hy:m[k]?=some y):(l.zip m)[k]?=some (x,y):=by
 grind
theorem Vr{old new:BFunc}(h:(old.regs !=new.regs)=true):vshaped old new=false:=by
 grind[vshaped]
theorem W0{old new:BFunc}(h:¬old.blocks.length=new.blocks.length):vshaped old new=false:=by
 grind[vshaped]
theorem Zt{old new:BFunc}(h:old.stands=false):vshaped old new=false:=by unfold vshaped;rw[h];simp
theorem Zs{old new:BFunc}(h:new.stands=false):vshaped old new=false:=by unfold vshaped;rw[h];simp
variable {y : Block}
theorem NR{old new:BFunc}(hx:old.blocks[k]?=some x)(hy:new.blocks[k]?=some y)(h:EW x y=false):vshaped old new=false:=by
 unfold vshaped;rw[Cw (L1 hx hy) (p:=fun p:Block×Block=>EW p.1 p.2) h];simp
theorem O7{old new:BFunc}(h1:old.regs=new.regs)(h2:old.blocks.length=new.blocks.length)(h3:old.stands=true)(h4:new.stands=true)(h5:((old.blocks.zip new.blocks).all fun p=>EW p.1 p.2)=true):vshaped old new=true:=by
 grind[vshaped,EW]
theorem Vs{old new:BFunc}(h:((((old.blocks.map Block.cells).length:Nat):Int) !=(((new.blocks.map Block.cells).length:Nat):Int))=true):vshaped old new=false:=
 W0 (fun e=>by rw[q76,q76,e]at h;simp at h)
theorem dj{old new:BFunc}(h:((((old.blocks.map Block.cells).length:Nat):Int) !=(((new.blocks.map Block.cells).length:Nat):Int))=false):old.blocks.length=new.blocks.length:=by
 grind
theorem pA(h:(x.fin !=y.fin)=true):EW x y=false:=by
 grind[EW]
theorem pz(h:(x.to !=y.to)=true):EW x y=false:=by
 grind[EW]
theorem pB(h:(x.els !=y.els)=true):EW x y=false:=by
 grind[EW]
theorem py(h1:(x.fin !=y.fin)=false)(h2:(x.to !=y.to)=false)(h3:(x.els !=y.els)=false):EW x y=true:=by
 unfold EW;rw[HE h1,HE h2,HE h3];simp
theorem Zz{old new:BFunc}{c:Cert}(h:vshaped old new=false):Dj old new c=false:=by unfold Dj;rw[h];rfl
theorem Zy{old new:BFunc}{c:Cert}(h:((((c.same.map fun r=>[Co r]).length:Nat):Int) !=(((old.blocks.map Block.cells).length:Nat):Int))=true):Dj old new c=false:=by
 grind[Dj,List.length_map,Co,Block.cells]
theorem YO{old:BFunc}{c:Cert}(h:((((c.same.map fun r=>[Co r]).length:Nat):Int) !=(((old.blocks.map Block.cells).length:Nat):Int))=false):c.same.length=old.blocks.length:=by
 grind
theorem Zx{old new:BFunc}{c:Cert}{r:List Bool}(hr:c.same[k]?=some r)(h:¬(r.length:Int)=old.regs):Dj old new c=false:=by
 grind[Dj,Cw]
theorem Zw{old new:BFunc}{c:Cert}(hx:old.blocks[k]?=some x)(hy:new.blocks[k]?=some y)(h:HR old.regs.toNat x y c (k:Int) x.nexts=false):Dj old new c=false:=by
 unfold Dj MD;rw[Cw (BG (L1 hx hy)) (p:=fun p:(Block×Block)×Nat=>HR old.regs.toNat p.1.1 p.1.2 c (p.2:Int) p.1.1.nexts) h]
 simp
theorem Zv{old new:BFunc}{c:Cert}(h1:vshaped old new=true)(h2:c.same.length=old.blocks.length)(h3:(c.same.all fun r=>decide ((r.length:Int)=old.regs))=true)(h4:MD old new c=true):Dj old new c=true:=by
 grind[Dj,vshaped,MD]
structure wD(old new:BFunc):Prop where
  regs:old.regs=new.regs
  len:old.blocks.length=new.blocks.length
  so:old.stands=true
  sn:new.stands=true
  b:∀(k:Nat) (x y:Block),old.blocks[k]?=some x->new.blocks[k]?=some y->x.fin=y.fin/\x.to=y.to/\x.els=y.els
theorem HQ{old new:BFunc}(h:vshaped old new=true):wD old new:=by
 simp only[vshaped,q66,q56,q67]at h;refine⟨h.1,h.2.1,h.2.2.1,h.2.2.2.1,fun k x y hx hy=>?_⟩;have:=h.2.2.2.2 (x,y) (q33 (L1 hx hy))
 grind[EW,vshaped]
variable {P : Program} {T : Nat -> Option AC} {o : Oper}
theorem Rd(hT:Dz P T){w:World}:∀{fl:List Field},(∀f∈fl,∃i',T f.type=some i')->
 ∃l:List (Nat×Nat),(fl.mapM fun f=>(do pure (f.offset,<-sizeOf f.type):Sem (Nat×Nat))).run P w=.ok l w/\∀(i off t:Nat),(fl.map fun f=>(f.offset,f.type))[i]?=some (off,t)->∃i',T t=some i'/\l[i]?=some (off,i'.size)
 | [],_=>⟨[],by simp,fun i off t h=>by simp at h⟩
 |f::fl,hk=>by
  obtain⟨l,h1,h2⟩:=Rd hT (w:=w) (fl:=fl) (fun g hg=>hk g (by simp[hg]));obtain⟨i',hi'⟩:=hk f Aq;exact tO
variable {x : AV}
theorem XQ{H:AJ}{ι:BD}{v:Value}(h:Rel H ι x v)(hc:x.cell1=true):∃u,v.cells= #[u]/\Rel H ι x u:=by
 obtain⟨c1,c2⟩:=GN h;have hx:x.cells=[x]:=by cases x<;>first|rfl|cases hc
 rw[hx]at c1 c2;have hs:v.cells.size=1:=by simpa using c1.symm
 obtain⟨u,hu⟩:=BN (c:=v.cells) (j:=0) Ab;refine⟨u,?_,c2 0 x u rfl hu⟩;apply Array.ext
 . simp[hs]
 . intro j h1 h2;have:j=0:=by omega
   subst this;rw[q12 h1]at hu;simpa using hu
variable {t : TypeId}
theorem lD(hT:Dz P T){parts:Array (Nat×Operand)}{i i0 i1 i2:AC}{y:AV}{t0 t1 t2:Nat}{z0 z1:Value}(ho:o.op=.build t parts)(hx:Ch e parts.toList=some [(0,x),(1,y)])(hi:T t=some i)(hk:i.k=.struct [(0,t0),(1,t1),(2,t2)])
 (h0:T t0=some i0) (h1:T t1=some i1) (h2:T t2=some i2) (s0:i0.size=1) (s1:i1.size=1) (hz:(P.info? t).bind (·.zero)=some (.agg #[z0,z1,.slice none 0 0])) (hx1:x.cell1=true) (hy1:y.cell1=true):QLoc P o e h [] (.agg [x,y,.nil]):=by
 intro H ι a w s hs g1 g2;have hx':Ch s.env parts.toList=some [(0,x),(1,y)]:=by
  exact WV
 obtain⟨l1,l2⟩:=DX hs hx';obtain⟨info,d,e1,e2,e3,e4,e5,e6⟩:=Am (hT _ _ hi);obtain⟨A,rfl,hA,hzz⟩:=FO (P:=P) (d:=d) (e3▸hk);have hzv:info.zero=some (.agg #[z0,z1,.slice none 0 0]):=by rw[e1]at hz;exact hz
 obtain⟨l,k1,k2⟩:=Rd hT (w:=w) (fl:=A.toList) (fun f hf=>by
  have hm:(f.offset,f.type)∈A.toList.map fun f=>(f.offset,f.type):=qX3.2 ⟨f,hf,rfl⟩
  rw[<-hA]at hm;simp only[q99,q98,List.not_mem_nil,or_false]at hm;rcases hm with⟨_,q⟩|⟨_,q⟩|⟨_,q⟩<;>rw[q]
  . exact⟨_,h0⟩
  . exact⟨_,h1⟩
  . exact⟨_,h2⟩)
 have hpl:(A.mapM fun f=>(do pure (f.offset,<-sizeOf f.type):Sem (Nat×Nat))).run P w=.ok l.toArray w:=by
  rw[Array.mapM_eq_mapM_toList];simp only[Sem.run_map,k1];rfl
 obtain⟨j0,q0,p0⟩:=k2 0 0 t0 (by rw[<-hA];rfl);obtain⟨j1,q1,p1⟩:=k2 1 1 t1 (by rw[<-hA];rfl);rw[h0]at q0;cases q0;rw[h1]at q1;cases q1;rw[s0]at p0;rw[s1]at p1;generalize hpp:parts.toList=pl at l1 l2 hx'
 match pl,l1 with
 | [(n0,x0),(n1,x1)],_=>
  obtain⟨a1,a2⟩:=l2 0 (0,x) (n0,a.eval x0) rfl rfl;obtain⟨b1,b2⟩:=l2 1 (1,y) (n1,a.eval x1) rfl rfl;simp only at a1 a2 b1 b2;subst a1;subst b1;obtain⟨u0,c0,d0⟩:=XQ a2 hx1;obtain⟨u1,c1,d1⟩:=XQ b2 hy1;have hfill:Instr.fill (l.toArray[·]?) #[z0,z1,.slice none 0 0] [(0,a.eval x0),(1,a.eval x1)]=some #[u0,u1,.slice none 0 0]:=by
   simp[Instr.fill,p0,p1,c0,c1]
  have hparts:(parts.map fun(i,x)=>(i,a.eval x)).toList=[(0,a.eval x0),(1,a.eval x1)]:=by simp[hpp]
  refine⟨.agg #[u0,u1,.slice none 0 0],.agg _ _ _ rfl (fun j z v hz hv=>?_),?_⟩
  . match j,hz,hv with
    |0,hz,hv=>simp at hz hv;subst hz;subst hv;exact d0
    |1,hz,hv=>simp at hz hv;subst hz;subst hv;exact d1
    |2,hz,hv=>simp at hz hv;subst hz;subst hv;exact .nil _
    |j+3,hz,hv=>simp at hz
  . simp only[execOp,ho,Instr.build,zeroValue,typeInfo,qQ9,run_program,q57,e1,hzv,qX1,As e2,hpl,hparts,Value.cells,hfill]
variable {b : Nat} {es' : List (List AV)}
theorem fO(hT:Dz P T){x y:Operand}{k:IntKind}{n:Int}{i j:AC}{u:Nat}(ho:o.op=.indexAddr t x y)(hx:At e x=some (GB b es'))(hy:At e y=some (.int k n))
 (hi:T t=some i) (hk:i.k=.slice u) (hj:T u=some j) (hb:h b=some (Il es)) (hsz:1=j.size) (hl:es.length=es'.length) (h0:0<=n) (hn:n<es.length):QLoc P o e h [b] (.ptr b es.length n.toNat 0):=
 Ce hT ho (by rw[hx,Vu hl]) hy hi hk hj hb hsz h0 hn
structure RVal where
  kind:Int
  op:Int
  a:Int
  b:Int
  name:Int
  side:Int
  base:Int
  time:Int
  n:Int
  deriving DecidableEq
def RVal.cells(v:RVal):List AV:=[.int .i64 v.kind,.int .i64 v.op,.int .i64 v.a,.int .i64 v.b,.int .i64 v.name,.int .i64 v.side,.int .i64 v.base,.int .i64 v.time,.int .u32 v.n]
def RVal.same(x y:RVal):Bool:=x.kind==y.kind&&(x.op==y.op&&(x.a==y.a&&(x.b==y.b&&(x.name==y.name&&(x.side==y.side&&(x.base==y.base&&(x.time==y.time&&(x.n==y.n&&true))))))))
theorem RVal.same_iff(x y:RVal):x.same y=true↔x=y:=by
 obtain⟨a1,a2,a3,a4,a5,a6,a7,a8,a9⟩:=x;obtain⟨b1,b2,b3,b4,b5,b6,b7,b8,b9⟩:=y
 grind[RVal.same]
structure REff where
  op:Int
  k:Int
  base:Int
  size:Int
  a:Int
  b:Int
  deriving DecidableEq
def REff.cells(v:REff):List AV:=[.int .i64 v.op,.int .i64 v.k,.int .i64 v.base,.int .i64 v.size,.int .i64 v.a,.int .i64 v.b]
def REff.same(x y:REff):Bool:=x.op==y.op&&(x.k==y.k&&(x.base==y.base&&(x.size==y.size&&(x.a==y.a&&(x.b==y.b&&true)))))
theorem REff.same_iff(x y:REff):x.same y=true↔x=y:=by
 obtain⟨a1,a2,a3,a4,a5,a6⟩:=x;obtain⟨b1,b2,b3,b4,b5,b6⟩:=y
 grind[REff.same]
def ridx(v:RVal):List RVal->Option Nat
  | []=>none
  |x::r=>bif x.same v then some 0 else(ridx v r).map (· +1)
def Cd(L:List RVal)(v:RVal):Int×List RVal:=match ridx v L with
  |some i=>((i:Int),L)
  |none=>((L.length:Int),L++[v])
theorem QZ{v:RVal}:∀{L:List RVal} {k:Nat} {x:RVal},L[k]?=some x->x.same v=true->(∀j,j<k->∀y,L[j]?=some y->y.same v=false)->ridx v L=some k
 | [],k,x,h,_,_=>by simp at h
 |y::r,0,x,h,hx,_=>by
  grind[ridx]
 |y::r,k+1,x,h,hx,hb=>by
  unfold ridx;rw[hb 0 Ab y rfl];have:=QZ (L:=r) (k:=k) HN hx (fun j hj z hz=>hb (j+1) Ab z (by simpa using hz));rw[this];rfl
theorem T1{v:RVal}:∀{L:List RVal},(∀(j:Nat) (y:RVal),L[j]?=some y->y.same v=false)->ridx v L=none
 | [],_=>rfl
 |y::r,h=>by
  unfold ridx;rw[h 0 y rfl,T1 (L:=r) (fun j z hz=>h (j+1) z (by simpa using hz))];rfl
theorem VL{v:RVal}:∀{L:List RVal} {i:Nat},ridx v L=some i->i<L.length/\L[i]?=some v
 | [],i,h=>by cases h
 |x::r,i,h=>by
  unfold ridx at h
  cases hx:x.same v with
  |true=>rw[hx]at h;cases h;exact⟨by simp,by rw[(RVal.same_iff x v).1 hx];rfl⟩
  |false=>
   rw[hx]at h;simp only[qZ3,q22]at h;obtain⟨j,hj,rfl⟩:=h;obtain⟨h1,h2⟩:=VL hj;exact⟨by simp;omega,by simpa using h2⟩
variable {v : RVal} {L : List RVal}
theorem MZ(h:ridx v L=none):Cd L v=((L.length:Int),L++[v]):=by unfold Cd;rw[h]
theorem MY{i:Nat}(h:ridx v L=some i):Cd L v=((i:Int),L):=by unfold Cd;rw[h]
theorem K4:L.length<=(Cd L v).2.length/\(Cd L v).2.length<=L.length+1/\0<=(Cd L v).1/\(Cd L v).1<(Cd L v).2.length:=by
 cases e:ridx v L with
 |none=>rw[MZ e];simp;omega
 |some i=>
  rw[MY e];have:=(VL e).1;exact⟨qZ0 _,Nat.le_succ _,by dsimp only;omega,by dsimp only;omega⟩
def ZT(L:List RVal)(i:Int):RVal:=(L[i.toNat]?).getD ⟨0,0,0,0,0,0,0,0,0⟩
def CN(L:List RVal)(i:Int):Int×Bool:=((ZT L i).n,(ZT L i).kind==1)
theorem Xk{i:Int}(h:0<=i/\i<L.length):(L.map RVal.cells)[i.toNat]?=some (ZT L i).cells:=by
 grind[ZT,RVal.cells]
theorem VF(hL:∀v∈L,FY v.n)(i:Int):FY (ZT L i).n:=by
 grind[ZT,EB,List.mem_of_getElem?,FY]
structure RW where
  L:List RVal
  regs:List Int
  out:List REff
  time:Int
def RW.put(w:RW)(z:Int)(p:Int×List RVal):RW:={w with L:=p.2,regs:=A4 w.regs z p.1}
def RW.eff(w:RW)(e:REff):RW:={w with out:=w.out++[e]}
def RW.tick(w:RW):RW:={w with time:=w.time+1}
def rrisky(w:RW)(t:Tac):Bool:=(t.k==7||t.k==8)&&(!(CN w.L (Ai w.regs t.b)).2||(CN w.L (Ai w.regs t.b)).1==0)
def RW.div(w:RW)(t:Tac):RW:=bif rrisky w t then w.eff ⟨t.op,t.k,0,0,Ai w.regs t.a,Ai w.regs t.b⟩else w
def Hu(w:RW)(t:Tac):Bool:=(CN w.L (Ai w.regs t.a)).2&&((CN w.L (Ai w.regs t.b)).2&& !rrisky w t)
def Es(w:RW)(t:Tac):RVal:=bif Hu w t then⟨1,0,0,0,0,0,0,0,(Cp t.k (CN w.L (Ai w.regs t.a)).1 (CN w.L (Ai w.regs t.b)).1).1⟩else⟨3,t.k,Ai w.regs t.a,Ai w.regs t.b,0,0,0,0,0⟩
def RW.bin(w:RW)(t:Tac):RW:=(w.div t).put t.d (Cd w.L (Es w t))
def I4(n:Nat):RVal:=⟨2,0,0,0,(n:Int),2,0,0,0⟩
def RW.get(w:RW)(t:Tac)(e:REff):RW:=(w.eff e).put t.d (Cd w.L (I4 w.out.length))
def RW.step(w:RW)(t:Tac):RW:=
  bif t.op==1 then w.put t.d (Cd w.L ⟨1,0,0,0,0,0,0,0,t.n⟩)
  else bif t.op==2 then {w with regs:=A4 w.regs t.d (Ai w.regs t.a)}
  else bif t.op==3 then w.bin t
  else bif t.op==4 then w.put t.d (Cd w.L ⟨4,0,0,0,0,0,t.base,w.time,0⟩)
  else bif t.op==5 then(w.eff ⟨t.op,0,t.base,0,Ai w.regs t.a,0⟩).tick
  else bif t.op==6 then w.get t ⟨t.op,0,t.base,t.size,Ai w.regs t.a,0⟩
  else bif t.op==7 then(w.eff ⟨t.op,0,t.base,t.size,Ai w.regs t.a,Ai w.regs t.b⟩).tick
  else bif t.op==8 then w.get t ⟨t.op,0,0,0,0,0⟩
  else bif t.op==9 then w.eff ⟨t.op,0,0,0,Ai w.regs t.a,0⟩
  else(w.eff ⟨t.op,0,t.base,0,0,0⟩).tick
structure ROk(R m:Nat)(w:RW):Prop where
  wn:∀v∈w.L,FY v.n
  kl:w.L.length<=m
  el:w.out.length<=m
  tl:0<=w.time/\w.time<=m
  vl:w.regs.length=R
  v:∀n∈w.regs,0<=n/\n<w.L.length
variable {w : RW}
theorem ROk.mono{R m':Nat}(h:ROk R m w)(hm:m<=m'):ROk R m' w:=
 ⟨h.wn,qX2 h.kl hm,qX2 h.el hm,⟨h.tl.1,by have:=h.tl.2;omega⟩,h.vl,h.v⟩
theorem ZY(hL:∀v∈L,FY v.n)(hv:FY v.n):∀x∈(Cd L v).2,FY x.n:=by
 grind[ridx,MZ,MY,FY,Cd]
theorem ROk.put{R m:Nat}{w:RW}(h:ROk R m w)(z:Int){v:RVal}(hv:FY v.n):ROk R (m+1) (w.put z (Cd w.L v)) where
 wn:=ZY h.wn hv
 kl:=by have:=h.kl;have:=(K4 (v:=v) (L:=w.L)).2.1;show(Cd w.L v).2.length<=_;omega
 el:=by have:=h.el;show w.out.length<=_;omega
 tl:=⟨h.tl.1,by have:=h.tl.2;show w.time<=_;omega⟩
 vl:=by show(A4 w.regs z _).length=R;rw[B3];exact h.vl
 v:=fun n hn=>by
  have hn':n∈A4 w.regs z (Cd w.L v).1:=hn;unfold A4 at hn';show 0<=n/\n<((Cd w.L v).2.length:Int);have hp:=K4 (v:=v) (L:=w.L);rcases q08 hn' with hn'|rfl
  . have:=h.v n hn';omega
  . exact hp.2.2
theorem ROk.eff{R m:Nat}{w:RW}(h:ROk R m w)(e:REff):ROk R (m+1) (w.eff e) where
 wn:=h.wn
 kl:=by have:=h.kl;show w.L.length<=_;omega
 el:=by have:=h.el;show(w.out++[e]).length<=_;simp;omega
 tl:=⟨h.tl.1,by have:=h.tl.2;show w.time<=_;omega⟩
 vl:=h.vl
 v:=h.v
theorem ROk.tick{R m:Nat}{w:RW}(h:ROk R m w):ROk R (m+1) w.tick where
 wn:=h.wn
 kl:=by have:=h.kl;show w.L.length<=_;omega
 el:=by have:=h.el;show w.out.length<=_;omega
 tl:=⟨by have:=h.tl.1;show 0<=w.time+1;omega,by have:=h.tl.2;show w.time+1<=_;push_cast;omega⟩
 vl:=h.vl
 v:=h.v
theorem ROk.div{R m:Nat}{w:RW}(h:ROk R m w)(t:Tac):ROk R (m+1) (w.div t):=by
 unfold RW.div
 cases rrisky w t with
 |true=>exact h.eff _
 |false=>exact h.mono (Nat.le_succ _)
theorem k8(w:RW)(t:Tac):(w.div t).L=w.L:=by unfold RW.div;cases rrisky w t<;>rfl
theorem fL(hL:∀v∈w.L,FY v.n)(t:Tac):FY (Es w t).n:=by
 unfold Es
 cases Hu w t with
 |true=>exact HF (VF hL _) (VF hL _)
 |false=>exact EB
theorem ROk.at{R:Nat}(h:ROk R m w){z:Int}(hz:0<=z/\z<R):0<=z/\z<w.regs.length/\z<((A5 w.regs).length:Int)/\0<=Ai w.regs z/\Ai w.regs z<w.L.length:=by
 have h1:=h.vl;have h2:=h.v _ (PT (z:=z) (by rw[h1];exact hz))
 grind[C2,A5,Ai]
theorem ROk.bin{R m:Nat}{w:RW}(h:ROk R m w)(t:Tac):ROk R (m+2) (w.bin t):=by
 have h1:=(h.div t).put t.d (fL h.wn t);rw[k8]at h1;exact h1
theorem ROk.get{R m:Nat}{w:RW}(h:ROk R m w)(t:Tac)(e:REff):ROk R (m+2) (w.get t e):=ROk.put (h.eff e) t.d (v:=I4 w.out.length) EB
theorem ROk.step{R m:Nat}{w:RW}(h:ROk R m w){t:Tac}(ht:Kb t R):ROk R (m+2) (w.step t):=by
 unfold RW.step
 cases t.op==1 with
 |true=>exact(h.put _ ht.n).mono (Nat.le_succ _)
 |false=>
 cases h2:t.op==2 with
 |true=>
  have h2':t.op=2:=by simpa using h2
  refine ROk.mono (m:=m) ⟨h.wn,h.kl,h.el,h.tl,?_,fun n hn=>?_⟩ Ab
  . show(A4 w.regs t.d _).length=R;rw[B3];exact h.vl
  . have hn':n∈A4 w.regs t.d (Ai w.regs t.a):=hn;unfold A4 at hn';rcases q08 hn' with hn'|rfl
    . exact h.v n hn'
    . have:=ht.a (.inl (by simp[use1,h2']));exact h.v _ (PT (by rw[h.vl];exact this))
 |false=>
 cases t.op==3 with
 |true=>exact h.bin t
 |false=>
 cases t.op==4 with
 |true=>exact(h.put _ (v:=⟨4,0,0,0,0,0,_,_,0⟩) EB).mono (Nat.le_succ _)
 |false=>
 cases t.op==5 with
 |true=>exact ROk.tick (h.eff _)
 |false=>
 cases t.op==6 with
 |true=>exact h.get t _
 |false=>
 cases t.op==7 with
 |true=>exact ROk.tick (h.eff _)
 |false=>
 cases t.op==8 with
 |true=>exact h.get t _
 |false=>
 cases t.op==9 with
 |true=>exact(h.eff _).mono (Nat.le_succ _)
 |false=>exact ROk.tick (h.eff _)
theorem vm(L:List RVal):∀cs∈L.map RVal.cells,cs.length=9:=fun cs hc=>by
 exact bO
theorem pF(L:List RVal):∀cs∈L.map RVal.cells,cs.all AV.isPure1=true:=fun cs hc=>by
 exact bO
theorem vx(L:List REff):∀cs∈L.map REff.cells,cs.length=6:=fun cs hc=>by
 exact bO
theorem pM(L:List REff):∀cs∈L.map REff.cells,cs.all AV.isPure1=true:=fun cs hc=>by
 exact bO
variable {k : Nat -> Bool}
theorem QV(es:List (List AV))(h2:k 9=true):(AObj.row false 1 [[Bo 9 es]]).avoid k=true:=by
 grind[Cb,AObj.avoid,Bo]
theorem QS{v p:Nat}(es es2:List (List AV))(x:Int)(h1:k 4=true)(h2:k v=true)(h3:k p=true):(AObj.row false 4 [[.ptr 4 1 0 0,Bo v es,Bo p es2,.int .i64 x]]).avoid k=true:=by
 have h:=Cb es2 h3;have h':=Cb es h2;exact sx
theorem pw(h:es'.length=es.length):Bo b es'=Bo b es\/es=[]:=by
 grind[Bo,UJ]
theorem MF(b:Nat)(l:List Int)(z v:Int):Bo b (A5 (A4 l z v))=Bo b (A5 l):=by
 grind[pw,A5,A4,C2,B3,Bo]
variable {k : Nat}
theorem H6(hT:Dz P T){x y:Operand}{q:AV}{i:AC}(ho:o.op=.store t x y)(hd:o.dst=none)(hx:At e x=some (.ptr b es.length k 0))(hy:At e y=some q)(hi:T t=some i)(his:i.size=1)
 (hb:h b=some (BU 1 es)) (hk:k<es.length) (hc:∀cs∈es,cs.length=1) (hq:q.cells=[q]) (h1:q.cell1=true) (hp:q.isPure1=true):
 OLoc P o e h [b] [(b,BU 1 (es.set k [q]))] none:=by
 rw[Kl hk]at hb;have hg:=q13 hk;have:=CS hT ho hd hx hy hi his hb rfl hg hq (qZ0 _) h1 (fun _=>hp);have hl:es[k].length=1:=hc _ (List.getElem_mem hk);have e1:Er es[k] 0 [q]=[q]:=by
  unfold Er
  grind
 rw[e1]at this;rwa[Kl (k:=k) (by rw[q83];exact hk)]
variable {t : Tac}
theorem la(h:rrisky w t=true):w.bin t=⟨(Cd w.L (Es w t)).2,A4 w.regs t.d (Cd w.L (Es w t)).1,w.out++[⟨t.op,t.k,0,0,Ai w.regs t.a,Ai w.regs t.b⟩],w.time⟩:=by
 unfold RW.bin RW.div RW.put RW.eff;rw[h];rfl
theorem pN(h:rrisky w t=false):w.bin t=⟨(Cd w.L (Es w t)).2,A4 w.regs t.d (Cd w.L (Es w t)).1,w.out,w.time⟩:=by
 unfold RW.bin RW.div RW.put;rw[h];rfl
theorem T6(h:Hu w t=true):Es w t=⟨1,0,0,0,0,0,0,0,(Cp t.k (CN w.L (Ai w.regs t.a)).1 (CN w.L (Ai w.regs t.b)).1).1⟩:=by unfold Es;rw[h];rfl
theorem K5(h:Hu w t=false):Es w t=⟨3,t.k,Ai w.regs t.a,Ai w.regs t.b,0,0,0,0,0⟩:=by unfold Es;rw[h];rfl
structure RI where
  L:List RVal
  xs:List Int
  ys:List Int
def RVal.reg(v:Nat)(side:Int):RVal:=⟨2,0,0,0,(v:Int),side,0,0,0⟩
def Hs(row:List Bool)(v:Nat):Int:=bif (row[v]?).getD false then 0 else 1
def RI.first(s:RI)(v:Nat):RI:=⟨(Cd s.L (RVal.reg v 0)).2,s.xs++[(Cd s.L (RVal.reg v 0)).1],s.ys⟩
def RI.second(s:RI)(v:Nat)(side:Int):RI:=⟨(Cd s.L (RVal.reg v side)).2,s.xs,s.ys++[(Cd s.L (RVal.reg v side)).1]⟩
def Bv(row:List Bool):Nat->RI
  |0=>⟨[],[],[]⟩
  |v+1=>((Bv row v).first v).second v (Hs row v)
structure Adl(s:RI)(k:Nat):Prop where
  wn:∀v∈s.L,FY v.n
  kl:s.L.length<=2*k
  xl:s.xs.length=k
  yl:s.ys.length=k
  xv:∀n∈s.xs,0<=n/\n<s.L.length
  yv:∀n∈s.ys,0<=n/\n<s.L.length
theorem Ez(row:List Bool):∀k,Adl (Bv row k) k
 |0=>⟨fun v h=>by simp[Bv]at h,by simp[Bv],rfl,rfl,fun v h=>by simp[Bv]at h,fun v h=>by simp[Bv]at h⟩
 |k+1=>by
  have h:=Ez row k;have h1:=K4 (v:=RVal.reg k 0) (L:=(Bv row k).L);have h2:=K4 (v:=RVal.reg k (Hs row k)) (L:=(Cd (Bv row k).L (RVal.reg k 0)).2);refine⟨ZY (ZY h.wn EB) EB,?_,?_,?_,fun n hn=>?_,fun n hn=>?_⟩
  . have:=h.kl;show(Cd (Cd (Bv row k).L (RVal.reg k 0)).2 (RVal.reg k (Hs row k))).2.length<=_;omega
  . show((Bv row k).xs++[_]).length=_;rw[q48,h.xl];rfl
  . show((Bv row k).ys++[_]).length=_;rw[q48,h.yl];rfl
  . have hn':n∈(Bv row k).xs++[(Cd (Bv row k).L (RVal.reg k 0)).1]:=hn;show 0<=n/\n<((Cd (Cd (Bv row k).L (RVal.reg k 0)).2 (RVal.reg k (Hs row k))).2.length:Int);simp only[q78,q47]at hn';rcases hn' with hn'|rfl
    . have:=h.xv n hn';omega
    . omega
  . have hn':n∈(Bv row k).ys++[(Cd (Cd (Bv row k).L (RVal.reg k 0)).2 (RVal.reg k (Hs row k))).1]:=hn;show 0<=n/\n<((Cd (Cd (Bv row k).L (RVal.reg k 0)).2 (RVal.reg k (Hs row k))).2.length:Int);simp only[q78,q47]at hn';rcases hn' with hn'|rfl
    . have:=h.yv n hn';omega
    . omega
def Im(L:List RVal)(regs:List Int)(l:List Tac):RW:=l.foldl RW.step ⟨L,regs,[],0⟩
def Ck(R:Nat)(row:List Bool)(old:Block):RW:=Im (Bv row R).L (Bv row R).xs old.ins
def CM(R:Nat)(row:List Bool)(old new:Block):RW:=Im (Ck R row old).L (Bv row R).ys new.ins
def RW.vw(w:RW):VW:=⟨[],w.regs,[],0⟩
def Ht(R:Nat)(old new:Block)(c:Cert)(i:Int)(next:List Int):Bool:=
  decide ((Ck R (c.at' i) old).out=(CM R (c.at' i) old new).out)&&((!(old.fin==2)||Ai (Ck R (c.at' i) old).regs old.v==Ai (CM R (c.at' i) old new).regs new.v)&&next.all fun k=>EM (Ck R (c.at' i) old).vw (CM R (c.at' i) old new).vw (c.at' k))
def PU(old new:BFunc)(c:Cert):Bool:=(old.blocks.zip new.blocks).zipIdx.all fun p=>Ht old.regs.toNat p.1.1 p.1.2 c (p.2:Int) p.1.1.nexts
def EX(f:BFunc)(c:Cert):Bool:=decide (c.same.length=f.blocks.length)&&c.same.all fun r=>decide ((r.length:Int)=f.regs)
def Gf(old new:BFunc)(c:Cert):Bool:=vshaped old new&&(EX old c&&PU old new c)
variable {regs : List Int}
theorem fC(h:l[k]?=some t):Im L regs (l.take (k+1))=(Im L regs (l.take k)).step t:=by
 unfold Im;rw[AT h,List.foldl_append];rfl
theorem kN(h:l.length<=k):Im L regs (l.take k)=Im L regs l:=by rw[q20 h]
theorem VJ{R:Nat}(h:ROk R m ⟨L,regs,[],0⟩)(hl:∀t∈l,Kb t R):ROk R (m+2*l.length) (Im L regs l):=by
 unfold Im;generalize(⟨L,regs,[],0⟩:RW)=w at*
 induction l generalizing w m with
 |nil=>exact h
 |cons t l ih=>
  have h2:=ih (fun u hu=>hl u IR) _ (h.step (hl t Aq));rw[q70,show m+2*(l.length+1)=m+2+2*l.length by omega];exact h2
theorem kM{R:Nat}(h:ROk R m ⟨L,regs,[],0⟩)(hl:∀t∈l,Kb t R)(k:Nat):ROk R (m+2*l.length) (Im L regs (l.take k)):=
 (VJ h (l:=l.take k) (fun t ht=>hl t (List.mem_of_mem_take ht))).mono Qj
theorem tX(row:List Bool)(R:Nat):ROk R (2*R) ⟨(Bv row R).L,(Bv row R).xs,[],0⟩ where
 wn:=(Ez row R).wn
 kl:=(Ez row R).kl
 el:=qZ1 _
 tl:=⟨Int.le_refl 0,by show(0:Int)<=_;omega⟩
 vl:=(Ez row R).xl
 v:=(Ez row R).xv
theorem Q0(l:List Tac):L.length<=(Im L regs l).L.length:=by
 unfold Im
 suffices h:∀(w:RW),w.L.length<=(l.foldl RW.step w).L.length by exact h ⟨L,regs,[],0⟩
 induction l with
 |nil=>exact fun w=>qZ0 _
 |cons t l ih=>
  intro w;have hp:=fun v=>(K4 (v:=v) (L:=w.L)).1
  refine qX2 ?_ (ih (w.step t));unfold RW.step
  cases t.op==1 with
  |true=>exact hp _
  |false=>
  cases t.op==2 with
  |true=>exact qZ0 _
  |false=>
  cases t.op==3 with
  |true=>show w.L.length<=((w.div t).put t.d (Cd w.L (Es w t))).L.length;exact hp _
  |false=>
  cases t.op==4 with
  |true=>exact hp _
  |false=>
  cases t.op==5 with
  |true=>exact qZ0 _
  |false=>
  cases t.op==6 with
  |true=>exact hp _
  |false=>
  cases t.op==7 with
  |true=>exact qZ0 _
  |false=>
  cases t.op==8 with
  |true=>exact hp _
  |false=>
  cases t.op==9 with
  |true=>exact qZ0 _
  |false=>exact qZ0 _
theorem tW{R:Nat}{row:List Bool}(hw:ROk R m w)(hm:(Bv row R).L.length<=w.L.length):ROk R m ⟨w.L,(Bv row R).ys,[],0⟩ where
 wn:=hw.wn
 kl:=hw.kl
 el:=qZ1 _
 tl:=⟨Int.le_refl 0,by show(0:Int)<=_;omega⟩
 vl:=(Ez row R).yl
 v:=fun n hn=>by have:=(Ez row R).yv n hn;exact⟨this.1,by show n<(w.L.length:Int);omega⟩
section
variable {R : Nat} {old new : Block} {c : Cert} {i : Int} {next : List Int}
theorem TW(h:¬(Ck R (c.at' i) old).out=(CM R (c.at' i) old new).out):Ht R old new c i next=false:=by
 grind[Ht,Ck,CM]
theorem fA(hf:old.fin=2)(h:¬Ai (Ck R (c.at' i) old).regs old.v=Ai (CM R (c.at' i) old new).regs new.v):Ht R old new c i next=false:=by
 grind[Ht,Ai,Ck,CM]
theorem fy{j:Nat}{nk:Int}(hj:next[j]?=some nk)(h:EM (Ck R (c.at' i) old).vw (CM R (c.at' i) old new).vw (c.at' nk)=false):Ht R old new c i next=false:=by
 unfold Ht
 grind
theorem fx(h1:(Ck R (c.at' i) old).out=(CM R (c.at' i) old new).out)(h2:old.fin=2->Ai (Ck R (c.at' i) old).regs old.v=Ai (CM R (c.at' i) old new).regs new.v)(h3:(next.all fun k=>EM (Ck R (c.at' i) old).vw (CM R (c.at' i) old new).vw (c.at' k))=true):Ht R old new c i next=true:=by
 grind[Ht,Ck,CM,Ai,EM]
end
variable {P : Program} {T : Nat -> Option AC} {h : Aj}
variable {k : Nat} {es : List (List AV)}
theorem t4{b sz o:Nat}{cs:List AV}(hb:h b=some (BU sz es))(hi:es[k]?=some cs):PtsTo h (.ptr b es.length k o) [b] (cs.drop o):=by
 have hlt:k<es.length:=(q05.1 hi).1;rw[Kl hlt]at hb;exact .ptr b es.length k o true sz es cs hb rfl hi
variable {w : RW} {t : Tac}
theorem kJ(ho:t.op=1):w.step t=w.put t.d (Cd w.L ⟨1,0,0,0,0,0,0,0,t.n⟩):=by
 grind[RW.step,Cd]
theorem kI(ho:t.op=2):w.step t={w with regs:=A4 w.regs t.d (Ai w.regs t.a)}:=by
 grind[RW.step,A4,Ai]
theorem kH(ho:t.op=3):w.step t=w.bin t:=by
 grind[RW.step]
theorem kG(ho:t.op=4):w.step t=w.put t.d (Cd w.L ⟨4,0,0,0,0,0,t.base,w.time,0⟩):=by
 grind[RW.step,Cd]
theorem kF(ho:t.op=5):w.step t=(w.eff ⟨t.op,0,t.base,0,Ai w.regs t.a,0⟩).tick:=by
 grind[RW.step,Ai]
theorem kE(ho:t.op=6):w.step t=w.get t ⟨t.op,0,t.base,t.size,Ai w.regs t.a,0⟩:=by
 grind[RW.step,Ai]
theorem kC(ho:t.op=7):w.step t=(w.eff ⟨t.op,0,t.base,t.size,Ai w.regs t.a,Ai w.regs t.b⟩).tick:=by
 grind[RW.step,Ai]
theorem kB(ho:t.op=8):w.step t=w.get t ⟨t.op,0,0,0,0,0⟩:=by
 grind[RW.step]
theorem kA(ho:t.op=9):w.step t=w.eff ⟨t.op,0,0,0,Ai w.regs t.a,0⟩:=by
 grind[RW.step,Ai]
theorem kK(h1:(t.op==1)=false)(h2:(t.op==2)=false)(h3:(t.op==3)=false)(h4:(t.op==4)=false)(h5:(t.op==5)=false)(h6:(t.op==6)=false)(h7:(t.op==7)=false)(h8:(t.op==8)=false)(h9:(t.op==9)=false):w.step t=(w.eff ⟨t.op,0,t.base,0,0,0⟩).tick:=by
 grind[RW.step]
variable {row : List Bool}
theorem Mb{s:Int}(h:Hs row k=s):Bv row (k+1)=((Bv row k).first k).second k s:=by rw[<-h];rfl
theorem TE(l:List Int)(n:Int):A5 (l++[n])=A5 l++[[AV.int .i64 n]]:=by simp[A5]
theorem fh(l:List Int)(n:Int):some (BU 1 (A5 l++[[AV.int .i64 n]]))=some (BU 1 (A5 (l++[n]))):=by rw[TE]
theorem fi(b:Nat)(l:List Int)(n:Int):some (Bo b (A5 l++[[AV.int .i64 n]]))=some (Bo b (A5 (l++[n]))):=by rw[TE]
theorem TF(l:List Int):∀cs∈A5 l,cs.all AV.isPure1=true:=fun cs hc=>by
 grind[A5,AV.isPure1]
theorem jF:∀(i:Nat) (ds ds':List AV),[[AV.nil]][i]?=some ds->[[AV.lst true []]][i]?=some ds'->ds'.length=ds.length/\∀(j:Nat) (x y:AV),ds[j]?=some x->ds'[j]?=some y->(x.cell1=true->y.cell1=true)/\∀H ι v,Rel H ι x v->Rel H ι y v:=
 Vo rfl fun j x y hx hy=>by
  grind
variable {b : Bool}
theorem kr(h:row[k]?=some b)(hb:b=true):Hs row k=0:=by unfold Hs;rw[h,hb];rfl
theorem px(h:row[k]?=some b)(hb:b=false):Hs row k=1:=by unfold Hs;rw[h,hb];rfl
variable {α : Type}
theorem pp{l l':List α}{x y:α}(hx:l[k]?=some x)(hy:l'[k]?=some y)(h:¬x=y):¬l=l':=fun e=>by
 grind
theorem fB{x y:REff}(h:(!x.same y)=true):¬x=y:=fun e=>by
 grind[REff.same_iff]
theorem ZX{x y:REff}(h:(!x.same y)=false):x=y:=(REff.same_iff x y).1 HN
theorem TN{l:List α}{n:Nat}(h:n=l.length):l.take n=l:=by rw[h,q71]
variable {f : BFunc}
theorem ZW{c:Cert}(h:((((c.same.map fun r=>[Co r]).length:Nat):Int) !=(((f.blocks.map Block.cells).length:Nat):Int))=true):EX f c=false:=by
 grind[EX,List.length_map,Co,Block.cells]
theorem ZV{c:Cert}{r:List Bool}(hr:c.same[k]?=some r)(h:¬(r.length:Int)=f.regs):EX f c=false:=by
 grind[EX,Cw]
theorem ZU{c:Cert}(h1:c.same.length=f.blocks.length)(h2:(c.same.all fun r=>decide ((r.length:Int)=f.regs))=true):EX f c=true:=by
 grind[EX]
theorem fu{c:Cert}(h:EX f c=true):c.same.length=f.blocks.length/\∀r∈c.same,(r.length:Int)=f.regs:=by
 simpa[EX]using h
theorem Z2{old new:BFunc}{c:Cert}(h:vshaped old new=false):Gf old new c=false:=by unfold Gf;rw[h];rfl
theorem Z1{old new:BFunc}{c:Cert}(h:EX old c=false):Gf old new c=false:=by unfold Gf;rw[h];simp
variable {x y : Block}
theorem Z0{old new:BFunc}{c:Cert}(hx:old.blocks[k]?=some x)(hy:new.blocks[k]?=some y)(h:Ht old.regs.toNat x y c (k:Int) x.nexts=false):Gf old new c=false:=by
 unfold Gf PU;rw[Cw (BG (L1 hx hy)) (p:=fun p:(Block×Block)×Nat=>Ht old.regs.toNat p.1.1 p.1.2 c (p.2:Int) p.1.1.nexts) h]
 simp
theorem ZZ{old new:BFunc}{c:Cert}(h1:vshaped old new=true)(h2:EX old c=true)(h4:PU old new c=true):Gf old new c=true:=by
 unfold Gf;rw[h1,h2,h4];rfl
inductive Tm where
  |old (v:Nat)
  |own (v:Nat)
  |cst (n:Int)
  |op (k:Int) (a b:Tm)
  |ld (base time:Int)
  |unk (n:Nat)
  deriving DecidableEq
structure SE where
  risk:Bool
  op:Int
  k:Int
  base:Int
  size:Int
  a:Option Tm
  b:Option Tm
  deriving DecidableEq
structure SS where
  regs:List Tm
  effs:List SE
  time:Int
def tget(l:List Tm)(z:Int):Tm:=(l[z.toNat]?).getD (.cst 0)
def tset(l:List Tm)(z:Int)(t:Tm):List Tm:=l.set z.toNat t
def Tm.isZero:Tm->Bool
  | .cst n=>n==0
  |_=>true
def trisky(k:Int)(b:Tm):Bool:=(k==7||k==8)&&b.isZero
def Fs(k:Int)(a b:Tm):Tm:=match a,b with
  | .cst x,.cst y=>bif trisky k (.cst y)then .op k a b else .cst (Cp k x y).1
  |_,_=>.op k a b
def SS.put(s:SS)(z:Int)(t:Tm):SS:={s with regs:=tset s.regs z t}
def SS.eff(s:SS)(e:SE):SS:={s with effs:=s.effs++[e]}
def SS.tick(s:SS):SS:={s with time:=s.time+1}
def SS.div(s:SS)(t:Tac):SS:=bif trisky t.k (tget s.regs t.b)then s.eff ⟨true,3,t.k,0,0,some (tget s.regs t.a),some (tget s.regs t.b)⟩else s
def SS.bin(s:SS)(t:Tac):SS:=(s.div t).put t.d (Fs t.k (tget s.regs t.a) (tget s.regs t.b))
def SS.get(s:SS)(t:Tac)(e:SE):SS:=(s.eff e).put t.d (.unk s.effs.length)
def SS.step(s:SS)(t:Tac):SS:=
  bif t.op==1 then s.put t.d (.cst t.n)
  else bif t.op==2 then s.put t.d (tget s.regs t.a)
  else bif t.op==3 then s.bin t
  else bif t.op==4 then s.put t.d (.ld t.base s.time)
  else bif t.op==5 then(s.eff ⟨false,5,0,t.base,0,some (tget s.regs t.a),none⟩).tick
  else bif t.op==6 then s.get t ⟨false,6,0,t.base,t.size,some (tget s.regs t.a),none⟩
  else bif t.op==7 then(s.eff ⟨false,7,0,t.base,t.size,some (tget s.regs t.a),some (tget s.regs t.b)⟩).tick
  else bif t.op==8 then s.get t ⟨false,8,0,0,0,none,none⟩
  else bif t.op==9 then s.eff ⟨false,9,0,0,0,some (tget s.regs t.a),none⟩
  else(s.eff ⟨false,10,0,t.base,0,none,none⟩).tick
structure SM(t:Tac)(R:Nat):Prop extends Kb t R where
  op:1<=t.op/\t.op<=10
  k:t.op=3->4<=t.k/\t.k<=15
  want:t=t.want
def SE.wf(e:SE):Prop:=(e.risk=true/\e.op=3/\e.base=0/\e.size=0/\e.a.isSome/\e.b.isSome)\/
  (e.risk=false/\e.k=0/\(e.op=5/\e.size=0/\e.a.isSome/\e.b=none\/e.op=6/\e.a.isSome/\e.b=none\/e.op=7/\e.a.isSome/\e.b.isSome\/e.op=8/\e.base=0/\e.size=0/\e.a=none/\e.b=none\/e.op=9/\e.base=0/\e.size=0/\e.a.isSome/\e.b=none\/e.op=10/\e.size=0/\e.a=none/\e.b=none))
variable {s : SS}
theorem bF(h:∀e∈s.effs,e.wf)(t:Tac):∀e∈(s.step t).effs,e.wf:=by
 have hap:∀e:SE,e.wf->∀x∈s.effs++[e],x.wf:=fun e he x hx=>by
  grind
 unfold SS.step
 cases t.op==1 with
 |true=>exact h
 |false=>
 cases t.op==2 with
 |true=>exact h
 |false=>
 cases t.op==3 with
 |true=>
  show ∀e∈(s.div t).effs,e.wf
  unfold SS.div
  cases trisky t.k (tget s.regs t.b)with
  |true=>exact hap _ (.inl ⟨rfl,rfl,rfl,rfl,rfl,rfl⟩)
  |false=>exact h
 |false=>
 cases t.op==4 with
 |true=>exact h
 |false=>
 cases t.op==5 with
 |true=>exact hap _ (.inr ⟨rfl,rfl,.inl ⟨rfl,rfl,rfl,rfl⟩⟩)
 |false=>
 cases t.op==6 with
 |true=>exact hap _ (.inr ⟨rfl,rfl,.inr (.inl ⟨rfl,rfl,rfl⟩)⟩)
 |false=>
 cases t.op==7 with
 |true=>exact hap _ (.inr ⟨rfl,rfl,.inr (.inr (.inl ⟨rfl,rfl,rfl⟩))⟩)
 |false=>
 cases t.op==8 with
 |true=>exact hap _ (.inr ⟨rfl,rfl,.inr (.inr (.inr (.inl ⟨rfl,rfl,rfl,rfl,rfl⟩)))⟩)
 |false=>
 cases t.op==9 with
 |true=>exact hap _ (.inr ⟨rfl,rfl,.inr (.inr (.inr (.inr (.inl ⟨rfl,rfl,rfl,rfl,rfl⟩))))⟩)
 |false=>exact hap _ (.inr ⟨rfl,rfl,.inr (.inr (.inr (.inr (.inr ⟨rfl,rfl,rfl,rfl⟩))))⟩)
theorem SS.step_len(s:SS)(t:Tac):(s.step t).regs.length=s.regs.length:=by
 unfold SS.step
 cases t.op==1 with
 |true=>simp[SS.put,tset]
 |false=>
 cases t.op==2 with
 |true=>simp[SS.put,tset]
 |false=>
 cases t.op==3 with
 |true=>simp only[qZ7,qZ3,SS.bin,SS.put,tset,q83,SS.div];cases trisky t.k (tget s.regs t.b)<;>rfl
 |false=>
 cases t.op==4 with
 |true=>simp[SS.put,tset]
 |false=>
 cases t.op==5 with
 |true=>rfl
 |false=>
 cases t.op==6 with
 |true=>simp[SS.get,SS.put,SS.eff,tset]
 |false=>
 cases t.op==7 with
 |true=>rfl
 |false=>
 cases t.op==8 with
 |true=>simp[SS.get,SS.put,SS.eff,tset]
 |false=>
 cases t.op==9 with
 |true=>rfl
 |false=>rfl
def All2{α β:Type}(r:α->β->Prop):List α->List β->Prop
  | [],[]=>True
  |x::xs,y::ys=>r x y/\All2 r xs ys
  |_,_=>False
theorem All2.len{α β:Type}{r:α->β->Prop}:∀{l:List α} {m:List β},All2 r l m->l.length=m.length
 | [],[],_=>rfl
 |x::xs,y::ys,h=>by simp[All2.len h.2]
 | [],y::ys,h=>h.elim
 |x::xs,[],h=>h.elim
theorem All2.mono{α β:Type}{r r':α->β->Prop}(hr:∀x y,r x y->r' x y):∀{l:List α} {m:List β},All2 r l m->All2 r' l m
 | [],[],_=>trivial
 |x::xs,y::ys,h=>⟨hr _ _ h.1,All2.mono hr h.2⟩
 | [],y::ys,h=>h.elim
 |x::xs,[],h=>h.elim
theorem All2.snoc{α β:Type}{r:α->β->Prop}{x:α}{y:β}(hx:r x y):∀{l:List α} {m:List β},All2 r l m->All2 r (l++[x]) (m++[y])
 | [],[],_=>⟨hx,trivial⟩
 |a::l,b::m,h=>⟨h.1,All2.snoc hx h.2⟩
 | [],b::m,h=>h.elim
 |a::l,[],h=>h.elim
theorem All2.get{α β:Type}{r:α->β->Prop}:∀{l:List α} {m:List β},All2 r l m->∀{i:Nat} {x:α} {y:β},l[i]?=some x->m[i]?=some y->r x y
 | [],[],_,i,x,y,h1,_=>by simp at h1
 |a::l,b::m,h,0,x,y,h1,h2=>by simp at h1 h2;subst h1;subst h2;exact h.1
 |a::l,b::m,h,i+1,x,y,h1,h2=>All2.get h.2 JX Ke
 | [],b::m,h,_,_,_,_,_=>h.elim
 |a::l,[],h,_,_,_,_,_=>h.elim
theorem All2.set{α β:Type}{r:α->β->Prop}{x:α}{y:β}(hx:r x y):∀{l:List α} {m:List β} (i:Nat),All2 r l m->All2 r (l.set i x) (m.set i y)
 | [],[],_,_=>trivial
 |a::l,b::m,0,h=>⟨hx,h.2⟩
 |a::l,b::m,i+1,h=>⟨h.1,All2.set hx i h.2⟩
 | [],b::m,_,h=>h.elim
 |a::l,[],_,h=>h.elim
theorem ST{α β:Type}{r r':α->β->Prop}{p:α->Prop}{q:α->Prop}(hf:∀x y y',p x->r x y->r' x y'->y=y')(hi:∀x x' y,p x->q x'->r x y->r' x' y->x=x'):∀{l l':List α} {m m':List β},(∀x∈l,p x)->(∀x∈l',q x)->All2 r l m->All2 r' l' m'->(m=m'↔l=l')
 | [],[],[],[],_,_,_,_=>by simp
 | [],x::l',[],y::m',_,_,_,_=>by simp
 |x::l,[],y::m,[],_,_,_,_=>by simp
 |x::l,x'::l',y::m,y'::m',hp,hq,h,h'=>by
  have ih:=ST hf hi (l:=l) (l':=l') (m:=m) (m':=m') (fun z hz=>hp z (by simp[hz])) (fun z hz=>hq z (by simp[hz])) h.2 h'.2
  grind[All2]
 | [],_,_::_,_,_,_,h,_=>h.elim
 |_::_,_,[],_,_,_,h,_=>h.elim
 |_,[],_,_::_,_,_,_,h=>h.elim
 |_,_::_,_,[],_,_,_,h=>h.elim
theorem Up{l:List α}(h:l.Nodup){i j:Nat}{x:α}(hi:l[i]?=some x)(hj:l[j]?=some x):i=j:=by
 obtain⟨h1,e1⟩:=q05.1 hi;obtain⟨h2,e2⟩:=q05.1 hj;have hp:=List.pairwise_iff_getElem.1 h
 grind
theorem Nc{l m:List α}(h:l<+:m){i:Nat}{x:α}(hi:l[i]?=some x):m[i]?=some x:=by
 obtain⟨r,rfl⟩:=h
 grind
def VN(R:Nat)(ts:List Tm):Tm->Int->Prop
  | .old v,n=>n=(v:Int)/\v<R
  | .own v,n=>n=((R+v:Nat):Int)/\v<R
  |t,n=>∃i:Nat,ts[i]?=some t/\n=((2*R+i:Nat):Int)
def VK(R:Nat)(ts:List Tm):Tm->List Int->Prop
  | .cst n,k=>k=[1,n,0,0]
  | .op o a b,k=>∃x y,VN R ts a x/\VN R ts b y/\k=[2,o,x,y]
  | .ld b τ,k=>k=[3,b,τ,0]
  | .unk n,k=>k=[4,(n:Int)+1,0,0]
  |_,_=>False
structure VT(R:Nat)(ts:List Tm)(K:List (List Int)):Prop where
  nd:ts.Nodup
  len:K.length=ts.length
  key:∀(i:Nat) (t:Tm) (k:List Int),ts[i]?=some t->K[i]?=some k->VK R ts t k
  word:∀(n:Int),Tm.cst n∈ts->FY n
variable {R : Nat} {ts ts' : List Tm} {K : List (List Int)}
theorem VN.ext(hp:ts<+:ts'):∀{t:Tm} {n:Int},VN R ts t n->VN R ts' t n
 | .old _,_,h=>h
 | .own _,_,h=>h
 | .cst _,_,⟨i,h1,h2⟩=>⟨i,Nc hp h1,h2⟩
 | .op _ _ _,_,⟨i,h1,h2⟩=>⟨i,Nc hp h1,h2⟩
 | .ld _ _,_,⟨i,h1,h2⟩=>⟨i,Nc hp h1,h2⟩
 | .unk _,_,⟨i,h1,h2⟩=>⟨i,Nc hp h1,h2⟩
theorem VK.ext(hp:ts<+:ts'):∀{t:Tm} {k:List Int},VK R ts t k->VK R ts' t k
 | .cst _,_,h=>h
 | .op _ _ _,_,⟨x,y,h1,h2,h3⟩=>⟨x,y,h1.ext hp,h2.ext hp,h3⟩
 | .ld _ _,_,h=>h
 | .unk _,_,h=>h
variable {k : List Int} {n : Int} {t : Tm}
theorem ol(hk:VK R ts t k):VN R ts t n↔ ∃i:Nat,ts[i]?=some t/\n=((2*R+i:Nat):Int):=by
 cases t with
 |old=>exact hk.elim
 |own=>exact hk.elim
 |_=>exact Iff.rfl
theorem VN.cls(h:VN R ts t n):(∃v:Nat,t=.old v/\n=(v:Int)/\v<R)\/(∃v:Nat,t=.own v/\n=((R+v:Nat):Int)/\v<R)\/(∃i:Nat,ts[i]?=some t/\n=((2*R+i:Nat):Int)):=by
 cases t with
 |old v=>exact .inl ⟨v,rfl,h.1,h.2⟩
 |own v=>exact .inr (.inl ⟨v,rfl,h.1,h.2⟩)
 |_=>exact .inr (.inr h)
theorem VN.uniq(hnd:ts.Nodup)(hno:∀v,Tm.old v∉ts/\Tm.own v∉ts){m:Int}(h1:VN R ts t n)(h2:VN R ts t m):n=m:=by
 cases t with
 |old=>exact h1.1.trans h2.1.symm
 |own=>exact h1.1.trans h2.1.symm
 |_=>
  obtain⟨i,a1,a2⟩:=h1;obtain⟨j,b1,b2⟩:=h2;have:=Up hnd a1 b1;omega
theorem VN.inj{s:Tm}(h1:VN R ts t n)(h2:VN R ts s n):t=s:=by
 rcases h1.cls with⟨v,rfl,a1,a2⟩|⟨v,rfl,a1,a2⟩|⟨i,a1,a2⟩<;>rcases h2.cls with⟨u,rfl,b1,b2⟩|⟨u,rfl,b1,b2⟩|⟨j,b1,b2⟩
 . rw[show v=u by omega]
 . omega
 . omega
 . omega
 . rw[show v=u by omega]
 . omega
 . omega
 . omega
 . have:i=j:=by omega
   subst this;rw[a1]at b1;exact q86 b1
theorem VT.noreg(h:VT R ts K)(v:Nat):Tm.old v∉ts/\Tm.own v∉ts:=by
 constructor
 . intro hm;exact sD
 . intro hm;exact sD
theorem VT.uniq(h:VT R ts K){t:Tm}{n m:Int}(h1:VN R ts t n)(h2:VN R ts t m):n=m:=VN.uniq h.nd h.noreg h1 h2
theorem VK.uniq(h:VT R ts K):∀{t:Tm} {k k':List Int},VK R ts t k->VK R ts t k'->k=k'
 | .cst _,_,_,h1,h2=>h1.trans h2.symm
 | .op _ _ _,_,_,⟨x,y,a1,a2,a3⟩,⟨x',y',b1,b2,b3⟩=>by rw[a3,b3,h.uniq a1 b1,h.uniq a2 b2]
 | .ld _ _,_,_,h1,h2=>h1.trans h2.symm
 | .unk _,_,_,h1,h2=>h1.trans h2.symm
theorem VK.inj:∀{t s:Tm} {k:List Int},VK R ts t k->VK R ts s k->t=s
 | .cst n,.cst m,_,h1,h2=>by have:=h1.symm.trans h2;simp at this;rw[this]
 | .cst n,.op _ _ _,_,h1,⟨x,y,_,_,h2⟩=>by have:=h1.symm.trans h2;simp at this
 | .cst n,.ld _ _,_,h1,h2=>by have:=h1.symm.trans h2;simp at this
 | .cst n,.unk _,_,h1,h2=>by have:=h1.symm.trans h2;simp at this
 | .op _ _ _,.cst _,_,⟨x,y,_,_,h1⟩,h2=>by have:=h1.symm.trans h2;simp at this
 | .op o a b,.op o' a' b',_,⟨x,y,a1,a2,a3⟩,⟨x',y',b1,b2,b3⟩=>by
  grind[VN.inj,VK]
 | .op _ _ _,.ld _ _,_,⟨x,y,_,_,h1⟩,h2=>by have:=h1.symm.trans h2;simp at this
 | .op _ _ _,.unk _,_,⟨x,y,_,_,h1⟩,h2=>by have:=h1.symm.trans h2;simp at this
 | .ld _ _,.cst _,_,h1,h2=>by have:=h1.symm.trans h2;simp at this
 | .ld _ _,.op _ _ _,_,h1,⟨x,y,_,_,h2⟩=>by have:=h1.symm.trans h2;simp at this
 | .ld b τ,.ld b' τ',_,h1,h2=>by have:=h1.symm.trans h2;simp at this;rw[this.1,this.2]
 | .ld _ _,.unk _,_,h1,h2=>by have:=h1.symm.trans h2;simp at this
 | .unk _,.cst _,_,h1,h2=>by have:=h1.symm.trans h2;simp at this
 | .unk _,.op _ _ _,_,h1,⟨x,y,_,_,h2⟩=>by have:=h1.symm.trans h2;simp at this
 | .unk _,.ld _ _,_,h1,h2=>by have:=h1.symm.trans h2;simp at this
 | .unk n,.unk m,_,h1,h2=>by
  grind[VK]
theorem UG{k:List Int}:∀{K:List (List Int)},kidx k K=none->k∉K
 | [],_=>by simp
 |x::r,h=>by
  unfold kidx at h
  cases hx:k==x with
  |true=>rw[hx]at h;cases h
  |false=>
   rw[hx]at h;have h':kidx k r=none:=by simpa using h
   have:=UG h';simp only[q99,not_or];exact⟨by simpa using hx,this⟩
theorem VT.num(h:VT R ts K)(hk:VK R ts t k)(hw:∀n,t=.cst n->FY n):∃ts',ts<+:ts'/\VT R ts' (D0 ((2*R:Nat):Int) K k).2/\VN R ts' t (D0 ((2*R:Nat):Int) K k).1:=by
 cases e:kidx k K with
 |some i=>
  rw[Qr e];obtain⟨h1,h2⟩:=Wa e;obtain⟨s,hs⟩:=Ad (l:=ts) (k:=i) (by rw[<-h.len];exact h1);have:=VK.inj (h.key i s k hs h2) hk;subst this;exact⟨ts,q87,h,(ol hk).2 ⟨i,hs,by push_cast;omega⟩⟩
 |none=>
  rw[Qs e];have hni:=UG e;have hnt:t∉ts:=fun hm=>by
   obtain⟨i,hi⟩:=q27.1 hm;obtain⟨k',hk'⟩:=Ad (l:=K) (k:=i) jB;have:=VK.uniq h (h.key i t k' hi hk') hk;subst this;exact hni (q33 hk')
  have hp:ts<+:ts++[t]:=List.prefix_append _ _;refine⟨ts++[t],hp,⟨?_,?_,fun i s k' hs hk'=>?_,fun n hn=>?_⟩,?_⟩
  . rw[q65];exact⟨h.nd,by simp,fun a ha b hb=>by simp at hb;subst hb;exact fun e=>hnt (e▸ha)⟩
  . simp[h.len]
  . rw[List.getElem?_append]at hs hk';exact wX
  . simp only[q78,q47]at hn;rcases hn with hn|hn
    . exact h.word n hn
    . exact hw n hn.symm
  . exact(ol (hk.ext hp)).2 ⟨ts.length,by simp,by rw[h.len];push_cast;omega⟩
theorem VT.cst(h:VT R ts K){t:Tm}{n:Int}(hn:VN R ts t n):(∃c,t=.cst c/\FY c/\BE ((2*R:Nat):Int) K n=(c,true))\/((∀c,t≠ .cst c)/\(BE ((2*R:Nat):Int) K n).2=false):=by
 rcases hn.cls with⟨v,rfl,a1,a2⟩|⟨v,rfl,a1,a2⟩|⟨i,a1,a2⟩
 . exact .inr ⟨fun c=>by simp,by rw[L3 Em]⟩
 . exact .inr ⟨fun c=>by simp,by rw[L3 Em]⟩
 . obtain⟨k,hk⟩:=Ad (l:=K) (k:=i) (by rw[h.len];exact(q05.1 a1).1);have hkey:=h.key i t k a1 hk;have hv:BE ((2*R:Nat):Int) K n=(IntKind.u32.wrap (Ai k 1),Ai k 0==1):=by
    unfold BE;rw[show decide (n<((2*R:Nat):Int))=false by simp;omega,show(n-((2*R:Nat):Int)).toNat=i by omega,hk];rfl
   rw[hv]
   cases t with
   |old=>exact hkey.elim
   |own=>exact hkey.elim
   |cst c=>
    have hc:=h.word c (q33 a1);have hk':k=[1,c,0,0]:=hkey;subst hk';refine .inl ⟨c,rfl,hc,?_⟩;show(IntKind.u32.wrap c,true)=_;rw[q75];obtain⟨h1,h2⟩:=hc;congr 1;omega
   |op o a b=>
    obtain⟨x,y,_,_,rfl⟩:=hkey;exact .inr ⟨fun c=>by simp,rfl⟩
   |ld b τ=>
    have hk':k=[3,b,τ,0]:=hkey;subst hk';exact .inr ⟨fun c=>by simp,rfl⟩
   |unk m=>
    have hk':k=[4,(m:Int)+1,0,0]:=hkey;subst hk';exact .inr ⟨fun c=>by simp,rfl⟩
def VO(R:Nat)(ts:List Tm):Option Tm->Int->Prop
  |none,n=>n=0
  |some t,n=>VN R ts t n
def VE(R:Nat)(ts:List Tm)(e:SE)(k:List Int):Prop:=∃x y,VO R ts e.a x/\VO R ts e.b y/\k=bif e.risk then [1,e.k,x,y,0,0]else [2,e.op,e.base,e.size,x,y]
structure VS(R:Nat)(ts:List Tm)(w:VW)(s:SS):Prop where
  t:VT R ts w.K
  regs:All2 (VN R ts) s.regs w.vals
  effs:All2 (VE R ts) s.effs w.effs
  time:w.time=s.time
theorem VO.ext(hp:ts<+:ts'):∀{t:Option Tm} {n:Int},VO R ts t n->VO R ts' t n
 |none,_,h=>h
 |some _,_,h=>VN.ext hp h
theorem VE.ext(hp:ts<+:ts'){e:SE}{k:List Int}:VE R ts e k->VE R ts' e k:=fun⟨x,y,h1,h2,h3⟩=>⟨x,y,h1.ext hp,h2.ext hp,h3⟩
variable {w : VW} {z : Int}
theorem VS.at(h:VS R ts w s)(hz:0<=z/\z<s.regs.length):VN R ts (tget s.regs z) (Ai w.vals z):=by
 have hl:=h.regs.len;obtain⟨x,hx⟩:=Ad (l:=s.regs) (k:=z.toNat) Ab;obtain⟨y,hy⟩:=Ad (l:=w.vals) (k:=z.toNat) Ab;unfold tget Ai;rw[hx,hy];exact h.regs.get hx hy
theorem VS.put{w:VW}{s:SS}(h:VS R ts w s)(z:Int){t:Tm}{k:List Int}(hk:VK R ts t k)(hw:∀n,t=.cst n->FY n):∃ts',ts<+:ts'/\VS R ts' (w.put z (D0 ((2*R:Nat):Int) w.K k)) (s.put z t):=by
 exact sr
theorem VS.eff{w:VW}{s:SS}(h:VS R ts w s){e:SE}{k:List Int}(he:VE R ts e k):VS R ts {w with effs:=w.effs++[k]} (s.eff e):=⟨h.t,h.regs,h.effs.snoc he,h.time⟩
theorem VS.tick{w:VW}{s:SS}(h:VS R ts w s):VS R ts w.tick s.tick:=⟨h.t,h.regs,h.effs,by show w.time+1=s.time+1;rw[h.time]⟩
theorem VS.get{w:VW}{s:SS}(h:VS R ts w s)(t:Tac){e:SE}{a:Int}(he:VE R ts e [2,t.op,t.base,t.size,a,0]):∃ts',ts<+:ts'/\VS R ts' ((w.hap t a 0).put t.d (J8 ((2*R:Nat):Int) (w.hap t a 0))) (s.get t e):=by
 have h1:VS R ts (w.hap t a 0) (s.eff e):=h.eff he;have hlen:(w.hap t a 0).effs.length=s.effs.length+1:=by
  have:=h.effs.len;show(w.effs++[_]).length=_;simp[this]
 refine h1.put t.d (t:=.unk s.effs.length) (k:=[4,((w.hap t a 0).effs.length:Int),0,0]) ?_ (fun n e=>by cases e);show _=_;rw[hlen];push_cast;rfl
theorem VS.risky(h:VS R ts w s){t:Tac}(hb:0<=t.b/\t.b<s.regs.length):vrisky ((2*R:Nat):Int) w t=trisky t.k (tget s.regs t.b):=by
 unfold vrisky trisky;congr 1;exact sN
variable {k : Int}
theorem jM{x y:Int}(hk:4<=k/\k<=15):((Cp k x y).2==0)= !(((k==7||k==8))&&y==0):=by
 unfold Cp;have h:k=4\/k=5\/k=6\/k=7\/k=8\/k=9\/k=10\/k=11\/k=12\/k=13\/k=14\/k=15:=by omega
 rcases h with rfl|rfl|rfl|rfl|rfl|rfl|rfl|rfl|rfl|rfl|rfl|rfl<;>first|rfl|(simp only[GT];cases y==0<;>rfl)
theorem VS.apply(h:VS R ts w s){t:Tac}(hk:4<=t.k/\t.k<=15)(ha:0<=t.a/\t.a<s.regs.length)(hb:0<=t.b/\t.b<s.regs.length):
 ∃k,CA ((2*R:Nat):Int) w.K t.k (Ai w.vals t.a) (Ai w.vals t.b)=D0 ((2*R:Nat):Int) w.K k/\VK R ts (Fs t.k (tget s.regs t.a) (tget s.regs t.b)) k/\∀n,Fs t.k (tget s.regs t.a) (tget s.regs t.b)=.cst n->FY n:=by
 have hna:=h.at ha;have hnb:=h.at hb;have hop:∀x y:Tm,VN R ts x (Ai w.vals t.a)->VN R ts y (Ai w.vals t.b)->VK R ts (.op t.k x y) [2,t.k,Ai w.vals t.a,Ai w.vals t.b]:=fun x y h1 h2=>⟨_,_,h1,h2,rfl⟩
 rcases h.t.cst hna with⟨c,h1,h2,h3⟩|⟨h1,h2⟩
 . rcases h.t.cst hnb with⟨d,g1,g2,g3⟩|⟨g1,g2⟩
   . rw[h1]at hna|-;rw[g1]at hnb|-;have herr:=jM (k:=t.k) (x:=c) (y:=d) hk
     cases hr:trisky t.k (.cst d)with
     |true=>
      have hr':((t.k==7||t.k==8)&&d==0)=true:=hr;refine⟨_,TB (by rw[h3,g3,herr,hr'];rfl),?_,?_⟩
      . simp only[Fs,hr,qZ7];exact hop _ _ hna hnb
      . simp only[Fs,hr,qZ7];intro n e;cases e
     |false=>
      have hr':((t.k==7||t.k==8)&&d==0)=false:=hr;refine⟨_,W2 (by rw[h3]) (by rw[g3]) (by rw[h3,g3,herr,hr'];rfl),?_,?_⟩
      . simp only[Fs,hr,qZ3];rw[h3,g3];rfl
      . simp only[Fs,hr,qZ3];intro n e
        cases e
        exact HF h2 g2
   . refine⟨_,TC g2,?_,?_⟩
     . cases e2:tget s.regs t.b with
       |cst d=>exact absurd e2 (g1 d)
       |_=>rw[h1]at hna|-;rw[e2]at hnb;exact hop _ _ hna hnb
     . intro n e
       cases e2:tget s.regs t.b with
       |cst d=>exact absurd e2 (g1 d)
       |_=>rw[h1,e2]at e;cases e
 . refine⟨_,TD h2,?_,?_⟩
   . cases e1:tget s.regs t.a with
     |cst d=>exact absurd e1 (h1 d)
     |_=>rw[e1]at hna;exact hop _ _ hna hnb
   . intro n e
     cases e1:tget s.regs t.a with
     |cst d=>exact absurd e1 (h1 d)
     |_=>rw[e1]at e;cases e
theorem VS.step{w:VW}{s:SS}(h:VS R ts w s){t:Tac}(ht:SM t R)(hl:s.regs.length=R):∃ts',ts<+:ts'/\VS R ts' (w.step ((2*R:Nat):Int) t) (s.step t):=by
 have hd:setsOp t.op=true->0<=t.d/\t.d<s.regs.length:=fun e=>by rw[hl];exact ht.d e
 have ha:use1 t.op=true\/use2 t.op=true->0<=t.a/\t.a<s.regs.length:=fun e=>by rw[hl];exact ht.a e
 have hb:use2 t.op=true->0<=t.b/\t.b<s.regs.length:=fun e=>by rw[hl];exact ht.b e
 have hw:=ht.want;have h10:t.op=1\/t.op=2\/t.op=3\/t.op=4\/t.op=5\/t.op=6\/t.op=7\/t.op=8\/t.op=9\/t.op=10:=by have:=ht.op;omega
 have hsz:EP t.op=false->t.size=0:=fun e=>by have:=congrArg Tac.size hw;simp only[Tac.want,e,qZ3]at this;exact this
 have hbs:(GP t.op||(EP t.op||t.op==10))=false->t.base=0:=fun e=>by have:=congrArg Tac.base hw;simp only[Tac.want,e,qZ3]at this;exact this
 rcases h10 with ho|ho|ho|ho|ho|ho|ho|ho|ho|ho
 . rw[jX ho,show s.step t=s.put t.d (.cst t.n) by unfold SS.step;rw[ho];rfl];exact h.put t.d rfl (fun n e=>by cases e;exact ht.n)
 . rw[jW ho,show s.step t=s.put t.d (tget s.regs t.a) by unfold SS.step;rw[ho];rfl];exact⟨ts,q87,h.t,h.regs.set (h.at (ha (.inl B2))) _,h.effs,h.time⟩
 . rw[jV ho,show s.step t=s.bin t by unfold SS.step;rw[ho];rfl];have ha':=ha (.inr B2);have hb':=hb B2;obtain⟨k,hk1,hk2,hk3⟩:=h.apply (ht.k ho) ha' hb';have hr:=h.risky hb';have h1:VS R ts (w.div ((2*R:Nat):Int) t) (s.div t):=by
    unfold VW.div SS.div;rw[hr]
    cases trisky t.k (tget s.regs t.b)with
    |true=>exact h.eff ⟨_,_,h.at ha',h.at hb',rfl⟩
    |false=>exact h
   unfold VW.bin SS.bin;rw[hk1];have:=h1.put t.d hk2 hk3;rwa[nC]at this
 . rw[jU ho,show s.step t=s.put t.d (.ld t.base s.time) by unfold SS.step;rw[ho];rfl];exact h.put t.d (by show _=_;rw[h.time]) (fun n e=>by cases e)
 . rw[jT ho,show s.step t=(s.eff ⟨false,5,0,t.base,0,some (tget s.regs t.a),none⟩).tick by unfold SS.step;rw[ho];rfl];refine⟨ts,q87,VS.tick (h.eff ⟨_,_,h.at (ha (.inl B2)),rfl,?_⟩)⟩;rw[ho,hsz B2];rfl
 . rw[jS ho,show s.step t=s.get t ⟨false,6,0,t.base,t.size,some (tget s.regs t.a),none⟩ by unfold SS.step;rw[ho];rfl];refine h.get t ⟨_,_,h.at (ha (.inl B2)),rfl,?_⟩;rw[ho];rfl
 . rw[jR ho,show s.step t=(s.eff ⟨false,7,0,t.base,t.size,some (tget s.regs t.a),some (tget s.regs t.b)⟩).tick by unfold SS.step;rw[ho];rfl];refine⟨ts,q87,VS.tick (h.eff ⟨_,_,h.at (ha (.inr B2)),h.at (hb B2),?_⟩)⟩;rw[ho];rfl
 . rw[jQ ho,show s.step t=s.get t ⟨false,8,0,0,0,none,none⟩ by unfold SS.step;rw[ho];rfl];refine h.get t ⟨_,_,rfl,rfl,?_⟩;rw[ho,hsz B2,hbs B2];rfl
 . rw[jP ho,show s.step t=s.eff ⟨false,9,0,0,0,some (tget s.regs t.a),none⟩ by unfold SS.step;rw[ho];rfl];refine⟨ts,q87,h.eff ⟨_,_,h.at (ha (.inl B2)),rfl,?_⟩⟩;rw[ho,hsz B2,hbs B2];rfl
 . rw[cp ho,show s.step t=(s.eff ⟨false,10,0,t.base,0,none,none⟩).tick by unfold SS.step;rw[ho];rfl];refine⟨ts,q87,VS.tick (h.eff ⟨_,_,rfl,rfl,?_⟩)⟩;rw[ho,hsz B2];rfl
def Da(R:Nat):List Tm:=(List.range R).map Tm.old
def HV(row:List Bool)(v:Nat):Tm:=bif (row[v]?).getD false then .old v else .own v
def Kk(R:Nat)(row:List Bool):List Tm:=(List.range R).map (HV row)
def Do(regs:List Tm)(l:List Tac):SS:=l.foldl SS.step ⟨regs,[],0⟩
def QG(x y:List Tm)(row:List Bool):Bool:=row.zipIdx.all fun p=> !p.1||decide (tget x (p.2:Int)=tget y (p.2:Int))
def Pc(R:Nat)(old new:Block)(c:Cert)(i:Int)(next:List Int):Bool:=
  decide ((Do (Da R) old.ins).effs=(Do (Kk R (c.at' i)) new.ins).effs)&&((!(old.fin==2)||decide (tget (Do (Da R) old.ins).regs old.v=tget (Do (Kk R (c.at' i)) new.ins).regs new.v))&&next.all fun k=>QG (Do (Da R) old.ins).regs (Do (Kk R (c.at' i)) new.ins).regs (c.at' k))
theorem All2.map{α β γ:Type}{r:β->γ->Prop}{f:α->β}{g:α->γ}:∀{l:List α},(∀x∈l,r (f x) (g x))->All2 r (l.map f) (l.map g)
 | [],_=>trivial
 |x::l,h=>⟨h x Aq,All2.map fun y hy=>h y (by simp[hy])⟩
theorem MT(regs:List Tm)(l:List Tac):(Do regs l).regs.length=regs.length:=by
 unfold Do
 suffices h:∀s:SS,(l.foldl SS.step s).regs.length=s.regs.length by exact h ⟨regs,[],0⟩
 induction l with
 |nil=>exact fun s=>rfl
 |cons t l ih=>exact fun s=>(ih _).trans (s.step_len t)
theorem PP(regs:List Tm)(l:List Tac):∀e∈(Do regs l).effs,e.wf:=by
 unfold Do
 suffices h:∀s:SS,(∀e∈s.effs,e.wf)->∀e∈(l.foldl SS.step s).effs,e.wf by exact h ⟨regs,[],0⟩ (fun e he=>by simp at he)
 induction l with
 |nil=>exact fun s h=>h
 |cons t l ih=>exact fun s h=>ih _ (bF h t)
theorem I0(R:Nat):(Da R).length=R:=by simp[Da]
theorem MO(R:Nat)(row:List Bool):(Kk R row).length=R:=by simp[Kk]
variable {l : List Tac}
theorem VS.fold(hl:∀t∈l,SM t R):∀{ts:List Tm} {w:VW} {s:SS},VS R ts w s->s.regs.length=R->∃ts',ts<+:ts'/\VS R ts' (De ((2*R:Nat):Int) l w) (l.foldl SS.step s):=by
 induction l with
 |nil=>exact fun h _=>⟨_,q87,h⟩
 |cons t l ih=>
  intro ts w s h hr;exact sL
theorem VE.uniq{K:List (List Int)}(hK:VT R ts K){e:SE}{k k':List Int}(h1:VE R ts e k)(h2:VE R ts e k'):k=k':=by
 obtain⟨x,y,a1,a2,a3⟩:=h1;obtain⟨x',y',b1,b2,b3⟩:=h2;have hu:∀{o:Option Tm} {n m:Int},VO R ts o n->VO R ts o m->n=m:=fun {o n m} g1 g2=>by
  cases o with
  |none=>exact g1.trans g2.symm
  |some t=>exact hK.uniq g1 g2
 grind
theorem VE.inj{e e':SE}{k:List Int}(hw:e.wf)(hw':e'.wf)(h1:VE R ts e k)(h2:VE R ts e' k):e=e':=by
 obtain⟨x,y,a1,a2,a3⟩:=h1;obtain⟨x',y',b1,b2,b3⟩:=h2;have hso:∀{o o':Option Tm} {n:Int},o.isSome->o'.isSome->VO R ts o n->VO R ts o' n->o=o':=fun {o o' n} g1 g2 g3 g4=>by
  cases o with
  |none=>cases g1
  |some t=>cases o' with
   |none=>cases g2
   |some s=>rw[VN.inj (R:=R) (ts:=ts) g3 g4]
 obtain⟨r,o,k1,ba,si,oa,ob⟩:=e;obtain⟨r',o',k1',ba',si',oa',ob'⟩:=e';have h3:=a3.symm.trans b3;rcases hw with⟨w1,w2,w3,w4,w5,w6⟩|⟨w1,w0,w2⟩<;>rcases hw' with⟨v1,v2,v3,v4,v5,v6⟩|⟨v1,v0,v2⟩<;>simp only at*
 . subst w1;subst v1;subst w2;subst v2;subst w3;subst v3;subst w4;subst v4;simp only[qZ7,q88,true_and,and_true]at h3;obtain⟨e1,e2,e3⟩:=h3;subst e1;subst e2;subst e3;rw[hso w5 v5 a1 b1,hso w6 v6 a2 b2]
 . subst w1;subst v1;simp at h3
 . subst w1;subst v1;simp at h3
 . subst w1;subst v1;subst w0;subst v0;simp only[qZ3,q88,true_and,and_true]at h3;obtain⟨e1,e2,e3,e4,e5⟩:=h3;subst e1;subst e2;subst e3;subst e4;subst e5;have hfin:oa=oa'->ob=ob'->(⟨false,o,0,ba,si,oa,ob⟩:SE)=⟨false,o,0,ba,si,oa',ob'⟩:=fun q1 q2=>by rw[q1,q2]
   rcases w2 with⟨u1,u2,u3,u4⟩|⟨u1,u3,u4⟩|⟨u1,u3,u4⟩|⟨u1,u2,u5,u3,u4⟩|⟨u1,u2,u5,u3,u4⟩|⟨u1,u2,u3,u4⟩<;>
    rcases v2 with⟨q1,q2,q3,q4⟩|⟨q1,q3,q4⟩|⟨q1,q3,q4⟩|⟨q1,q2,q5,q3,q4⟩|⟨q1,q2,q5,q3,q4⟩|⟨q1,q2,q3,q4⟩<;>first
     |(exfalso;omega)
     |exact hfin (hso u3 q3 a1 b1) (u4.trans q4.symm)
     |exact hfin (hso u3 q3 a1 b1) (hso u4 q4 a2 b2)
     |exact hfin (u3.trans q3.symm) (u4.trans q4.symm)
variable {b : Int}
theorem qZ{a:Int}{p:Prop} [Decidable p](h:a=b↔p):(a==b)=decide p:=by
 grind
theorem All2.at{β:Type}{r:α->β->Prop}{l:List α}{m:List β}(h:All2 r l m){i:Nat}(hi:i<l.length):∃x y,l[i]?=some x/\m[i]?=some y/\r x y:=by
 obtain⟨x,hx⟩:=Ad hi;obtain⟨y,hy⟩:=Ad (l:=m) (k:=i) (by rw[<-h.len];exact hi);exact⟨x,y,hx,hy,h.get hx hy⟩
variable {rel rel' : Tm -> Int -> Prop} {xs ys : List Tm}
theorem SK{α:Type}{us vs:List Int}(hu:∀t n m,rel t n->rel' t m->n=m)(hi:∀t s n,rel t n->rel' s n->t=s)(h1:All2 rel xs us)(h2:All2 rel' ys vs)(l1:xs.length=R)(l2:ys.length=R){z':Int}(hz:0<=z/\z<R)(hz':0<=z'/\z'<R):(Ai us z==Ai vs z')=decide (tget xs z=tget ys z'):=by
 obtain⟨x,a,x1,a1,r1⟩:=h1.at (i:=z.toNat) Ab;obtain⟨y,b,y1,b1,r2⟩:=h2.at (i:=z'.toNat) Ab;refine qZ ?_
 grind[Ai,tget,All2]
theorem KR{l:List α}{p q:α->Bool}(h:∀x∈l,p x=q x):l.all p=l.all q:=by
 grind
theorem W5{wx wy:VW}(hu:∀t n m,rel t n->rel' t m->n=m)(hi:∀t s n,rel t n->rel' s n->t=s)(h1:All2 rel xs wx.vals)(h2:All2 rel' ys wy.vals)(l1:xs.length=R)(l2:ys.length=R)(hr:row.length=R):EM wx wy row=QG xs ys row:=by
 unfold EM QG;refine KR fun p hp=>?_
 obtain⟨b,j⟩:=p;obtain⟨i,hi'⟩:=q27.1 hp;rw[q37,q22]at hi';obtain⟨b',hb',e⟩:=hi';simp only[qQ8,q98]at e;obtain⟨rfl,rfl⟩:=e;have hlt:=(q05.1 hb').1;dsimp only;rw[SK (α:=Unit) (R:=R) hu hi h1 h2 l1 l2 Ab Ab]
theorem pm{old new:Block}{c:Cert}{i:Int}{next:List Int}(ho:∀t∈old.ins,SM t R)(hn:∀t∈new.ins,SM t R)(hc:∀r∈c.same,r.length=R)(hnx:∀k∈next,0<=k/\k<c.same.length)(hv:old.fin=2->(0<=old.v/\old.v<R)/\(0<=new.v/\new.v<R)):
 HR R old new c i next=Pc R old new c i next:=by
 have h0:VS R [] ⟨[],Ka R,[],0⟩ ⟨Da R,[],0⟩:=⟨⟨List.nodup_nil,rfl,fun i t k h=>by simp at h,fun n h=>by simp at h⟩,All2.map fun v hv=>⟨rfl,q94.1 hv⟩,trivial,rfl⟩;obtain⟨ts1,hp1,h1⟩:=VS.fold ho h0 (I0 R);have h2:VS R ts1 ⟨(CO R old).K,Jh R (c.at' i),[],0⟩ ⟨Kk R (c.at' i),[],0⟩:=⟨h1.t,All2.map fun v hv=>by
  unfold HV EV;have hlt:=q94.1 hv
  cases ((c.at' i)[v]?).getD false with
  |true=>exact⟨rfl,hlt⟩
  |false=>exact⟨rfl,hlt⟩,trivial,rfl⟩
 obtain⟨ts2,hp2,h3⟩:=VS.fold hn h2 (MO R _);have hA1:All2 (VN R ts2) (Do (Da R) old.ins).regs (CO R old).vals:=h1.regs.mono fun x y h=>h.ext hp2
 have hA2:All2 (VE R ts2) (Do (Da R) old.ins).effs (CO R old).effs:=h1.effs.mono fun x y h=>h.ext hp2
 have hB1:All2 (VN R ts2) (Do (Kk R (c.at' i)) new.ins).regs (D8 R old new (c.at' i)).vals:=h3.regs;have hB2:All2 (VE R ts2) (Do (Kk R (c.at' i)) new.ins).effs (D8 R old new (c.at' i)).effs:=h3.effs;have lA:=(MT (Da R) old.ins).trans (I0 R);have lB:=(MT (Kk R (c.at' i)) new.ins).trans (MO R _);have hu:∀t n m,VN R ts2 t n->VN R ts2 t m->n=m:=fun t n m a b=>h3.t.uniq a b
 have hi:∀t s n,VN R ts2 t n->VN R ts2 s n->t=s:=fun t s n a b=>VN.inj a b
 unfold HR Pc;congr 1
 . exact decide_eq_decide.2 (ST (r:=VE R ts2) (r':=VE R ts2) (p:=SE.wf) (q:=SE.wf) (fun e k k' _ a b=>VE.uniq h3.t a b) (fun e e' k p q a b=>VE.inj p q a b) (PP _ _) (PP _ _) hA2 hB2)
 congr 1
 . by_cases hf:old.fin=2
   . rw[SK (α:=Unit) (R:=R) hu hi hA1 hB1 lA lB (hv hf).1 (hv hf).2]
   . rw[show(old.fin==2)=false by simpa using hf];rfl
 . refine KR fun k hk=>?_
   have hkr:=hnx k hk;have hrow:(c.at' k).length=R:=by
    obtain⟨r,hr⟩:=Ad (l:=c.same) (k:=k.toNat) Ab;unfold Cert.at';rw[hr];exact hc r (q33 hr)
   exact W5 (R:=R) hu hi hA1 hB1 lA lB hrow
def RN(ts:List Tm)(t:Tm)(n:Int):Prop:=∃i:Nat,ts[i]?=some t/\n=(i:Int)
def RK(ts:List Tm):Tm->RVal->Prop
  | .cst n,k=>k=⟨1,0,0,0,0,0,0,0,n⟩
  | .op o a b,k=>∃x y,RN ts a x/\RN ts b y/\k=⟨3,o,x,y,0,0,0,0,0⟩
  | .ld b τ,k=>k=⟨4,0,0,0,0,0,b,τ,0⟩
  | .unk n,k=>k=I4 n
  | .old v,k=>k=RVal.reg v 0
  | .own v,k=>k=RVal.reg v 1
structure RT(ts:List Tm)(K:List RVal):Prop where
  nd:ts.Nodup
  len:K.length=ts.length
  key:∀(i:Nat) (t:Tm) (k:RVal),ts[i]?=some t->K[i]?=some k->RK ts t k
  word:∀(n:Int),Tm.cst n∈ts->FY n
variable {K : List RVal}
theorem RN.ext(hp:ts<+:ts'):RN ts t n->RN ts' t n:=fun⟨i,h1,h2⟩=>⟨i,Nc hp h1,h2⟩
theorem RK.ext(hp:ts<+:ts'):∀{t:Tm} {k:RVal},RK ts t k->RK ts' t k
 | .cst _,_,h=>h
 | .op _ _ _,_,⟨x,y,h1,h2,h3⟩=>⟨x,y,h1.ext hp,h2.ext hp,h3⟩
 | .ld _ _,_,h=>h
 | .unk _,_,h=>h
 | .old _,_,h=>h
 | .own _,_,h=>h
theorem RN.uniq(hnd:ts.Nodup){m:Int}(h1:RN ts t n)(h2:RN ts t m):n=m:=by
 grind[Up,RN]
theorem RN.inj{s:Tm}(h1:RN ts t n)(h2:RN ts s n):t=s:=by
 grind[RN]
theorem RK.uniq(h:ts.Nodup):∀{t:Tm} {k k':RVal},RK ts t k->RK ts t k'->k=k'
 | .cst _,_,_,h1,h2=>h1.trans h2.symm
 | .op _ _ _,_,_,⟨x,y,a1,a2,a3⟩,⟨x',y',b1,b2,b3⟩=>by rw[a3,b3,RN.uniq h a1 b1,RN.uniq h a2 b2]
 | .ld _ _,_,_,h1,h2=>h1.trans h2.symm
 | .unk _,_,_,h1,h2=>h1.trans h2.symm
 | .old _,_,_,h1,h2=>h1.trans h2.symm
 | .own _,_,_,h1,h2=>h1.trans h2.symm
def cw:Tm->Int
  | .cst _=>1
  | .op _ _ _=>3
  | .ld _ _=>4
  | .unk _=>2
  | .old _=>2
  | .own _=>2
def cu:Tm->Int
  | .unk _=>2
  | .own _=>1
  |_=>0
theorem RK.kind{t:Tm}{k:RVal}(h:RK ts t k):k.kind=cw t/\k.side=cu t:=by
 cases t with
 |op o a b=>obtain⟨x,y,_,_,rfl⟩:=h;exact⟨rfl,rfl⟩
 |_=>have h':k=_:=h;subst h';exact⟨rfl,rfl⟩
theorem RK.inj{t s:Tm}{k:RVal}(h1:RK ts t k)(h2:RK ts s k):t=s:=by
 have e1:=h1.kind;have e2:=h2.kind;have ek:cw t=cw s:=e1.1.symm.trans e2.1;have es:cu t=cu s:=e1.2.symm.trans e2.2
 cases t<;>cases s<;>first|(exfalso;revert ek;simp only[cw];decide)|(exfalso;revert es;simp only[cu];decide)|skip
 . have e:RVal.reg _ 0=RVal.reg _ 0:=(show k=_ from h1).symm.trans h2;simp only[RVal.reg,RVal.mk.injEq,true_and,and_true]at e;exact congrArg Tm.old (Int.ofNat_inj.1 e)
 . have e:RVal.reg _ 1=RVal.reg _ 1:=(show k=_ from h1).symm.trans h2;simp only[RVal.reg,RVal.mk.injEq,true_and,and_true]at e;exact congrArg Tm.own (Int.ofNat_inj.1 e)
 . have e:=(show k=_ from h1).symm.trans h2;simp only[RVal.mk.injEq,true_and,and_true]at e;rw[e]
 . obtain⟨x,y,a1,a2,a3⟩:=h1;obtain⟨x',y',b1,b2,b3⟩:=h2;have e:=a3.symm.trans b3;simp only[RVal.mk.injEq,true_and,and_true]at e;obtain⟨q1,q2,q3⟩:=e;subst q2;subst q3;rw[q1,RN.inj a1 b1,RN.inj a2 b2]
 . have e:=(show k=_ from h1).symm.trans h2;simp only[RVal.mk.injEq,true_and,and_true]at e;rw[e.1,e.2]
 . have e:I4 _=I4 _:=(show k=_ from h1).symm.trans h2;simp only[I4,RVal.mk.injEq,true_and,and_true]at e;exact congrArg Tm.unk (Int.ofNat_inj.1 e)
theorem cO{v:RVal}:∀{L:List RVal},ridx v L=none->v∉L
 | [],_=>by simp
 |x::r,h=>by
  unfold ridx at h
  cases hx:x.same v with
  |true=>rw[hx]at h;cases h
  |false=>
   rw[hx]at h;have h':ridx v r=none:=by simpa using h
   have:=cO h';simp only[q99,not_or];refine⟨fun e=>?_,this⟩;subst e;rw[(RVal.same_iff v v).2 rfl]at hx;cases hx
theorem RT.num(h:RT ts K){k:RVal}(hk:RK ts t k)(hw:∀n,t=.cst n->FY n):∃ts',ts<+:ts'/\RT ts' (Cd K k).2/\RN ts' t (Cd K k).1:=by
 cases e:ridx k K with
 |some i=>
  rw[MY e];obtain⟨h1,h2⟩:=VL e;obtain⟨s,hs⟩:=Ad (l:=ts) (k:=i) (by rw[<-h.len];exact h1);have:=RK.inj (h.key i s k hs h2) hk;subst this;exact⟨ts,q87,h,i,hs,rfl⟩
 |none=>
  rw[MZ e];have hni:=cO e;have hnt:t∉ts:=fun hm=>by
   obtain⟨i,hi⟩:=q27.1 hm;obtain⟨k',hk'⟩:=Ad (l:=K) (k:=i) jB;have:=RK.uniq h.nd (h.key i t k' hi hk') hk;subst this;exact hni (q33 hk')
  have hp:ts<+:ts++[t]:=List.prefix_append _ _;refine⟨ts++[t],hp,⟨?_,?_,fun i s k' hs hk'=>?_,fun n hn=>?_⟩,?_⟩
  . rw[q65];exact⟨h.nd,by simp,fun a ha b hb=>by simp at hb;subst hb;exact fun e=>hnt (e▸ha)⟩
  . simp[h.len]
  . rw[List.getElem?_append]at hs hk';exact wX
  . simp only[q78,q47]at hn;rcases hn with hn|hn
    . exact h.word n hn
    . exact hw n hn.symm
  . exact⟨ts.length,by simp,by rw[h.len]⟩
theorem RT.cst(h:RT ts K){t:Tm}{n:Int}(hn:RN ts t n):(∃c,t=.cst c/\FY c/\CN K n=(c,true))\/((∀c,t≠ .cst c)/\(CN K n).2=false):=by
 obtain⟨i,a1,a2⟩:=hn;obtain⟨k,hk⟩:=Ad (l:=K) (k:=i) (by rw[h.len];exact(q05.1 a1).1);have hkey:=h.key i t k a1 hk;have hv:CN K n=(k.n,k.kind==1):=by
  unfold CN ZT;rw[show n.toNat=i by omega,hk];rfl
 rw[hv]
 by_cases hc:∃c,t=.cst c
 . obtain⟨c,rfl⟩:=hc;have hk':k=⟨1,0,0,0,0,0,0,0,c⟩:=hkey;subst hk';exact .inl ⟨c,rfl,h.word c (q33 a1),rfl⟩
 . refine .inr ⟨fun c e=>hc ⟨c,e⟩,?_⟩;rw[hkey.kind.1]
   cases t<;>first|rfl|exact absurd ⟨_,rfl⟩ hc
def RO(ts:List Tm):Option Tm->Int->Prop
  |none,n=>n=0
  |some t,n=>RN ts t n
def RE(ts:List Tm)(e:SE)(k:REff):Prop:=∃x y,RO ts e.a x/\RO ts e.b y/\k=⟨e.op,e.k,e.base,e.size,x,y⟩
structure RS(ts:List Tm)(w:RW)(s:SS):Prop where
  t:RT ts w.L
  regs:All2 (RN ts) s.regs w.regs
  effs:All2 (RE ts) s.effs w.out
  time:w.time=s.time
theorem RO.ext(hp:ts<+:ts'):∀{t:Option Tm} {n:Int},RO ts t n->RO ts' t n
 |none,_,h=>h
 |some _,_,h=>RN.ext hp h
theorem RE.ext(hp:ts<+:ts'){e:SE}{k:REff}:RE ts e k->RE ts' e k:=fun⟨x,y,h1,h2,h3⟩=>⟨x,y,h1.ext hp,h2.ext hp,h3⟩
variable {w : RW}
theorem RS.at(h:RS ts w s)(hz:0<=z/\z<s.regs.length):RN ts (tget s.regs z) (Ai w.regs z):=by
 have hl:=h.regs.len;obtain⟨x,hx⟩:=Ad (l:=s.regs) (k:=z.toNat) Ab;obtain⟨y,hy⟩:=Ad (l:=w.regs) (k:=z.toNat) Ab;unfold tget Ai;rw[hx,hy];exact h.regs.get hx hy
theorem RS.put{w:RW}{s:SS}(h:RS ts w s)(z:Int){t:Tm}{k:RVal}(hk:RK ts t k)(hw:∀n,t=.cst n->FY n):∃ts',ts<+:ts'/\RS ts' (w.put z (Cd w.L k)) (s.put z t):=by
 exact sr
theorem RS.eff{w:RW}{s:SS}(h:RS ts w s){e:SE}{k:REff}(he:RE ts e k):RS ts (w.eff k) (s.eff e):=⟨h.t,h.regs,h.effs.snoc he,h.time⟩
theorem RS.tick{w:RW}{s:SS}(h:RS ts w s):RS ts w.tick s.tick:=⟨h.t,h.regs,h.effs,by show w.time+1=s.time+1;rw[h.time]⟩
theorem RS.get{w:RW}{s:SS}(h:RS ts w s)(t:Tac){e:SE}{k:REff}(he:RE ts e k):∃ts',ts<+:ts'/\RS ts' (w.get t k) (s.get t e):=by
 have h1:RS ts (w.eff k) (s.eff e):=h.eff he;have:=h1.put t.d (t:=.unk s.effs.length) (k:=I4 w.out.length) (by show _=_;rw[h.effs.len]) (fun n e=>by cases e);exact this
variable {t : Tac}
theorem RS.risky(h:RS ts w s)(hb:0<=t.b/\t.b<s.regs.length):rrisky w t=trisky t.k (tget s.regs t.b):=by
 unfold rrisky trisky;congr 1;exact sN
theorem RS.apply(h:RS ts w s)(ha:0<=t.a/\t.a<s.regs.length)(hb:0<=t.b/\t.b<s.regs.length):
 RK ts (Fs t.k (tget s.regs t.a) (tget s.regs t.b)) (Es w t)/\∀n,Fs t.k (tget s.regs t.a) (tget s.regs t.b)=.cst n->FY n:=by
 have hna:=h.at ha;have hnb:=h.at hb;have hr:=h.risky hb;have hop:∀x y:Tm,RN ts x (Ai w.regs t.a)->RN ts y (Ai w.regs t.b)->RK ts (.op t.k x y) ⟨3,t.k,Ai w.regs t.a,Ai w.regs t.b,0,0,0,0,0⟩:=fun x y h1 h2=>⟨_,_,h1,h2,rfl⟩
 rcases h.t.cst hna with⟨c,h1,h2,h3⟩|⟨h1,h2⟩
 . rcases h.t.cst hnb with⟨d,g1,g2,g3⟩|⟨g1,g2⟩
   . rw[g1]at hr;rw[h1]at hna|-;rw[g1]at hnb|-
     cases hk:trisky t.k (.cst d)with
     |true=>
      rw[hk]at hr;rw[K5 (by unfold Hu;rw[hr];simp)];simp only[Fs,hk,qZ7];exact⟨hop _ _ hna hnb,fun n e=>by cases e⟩
     |false=>
      rw[hk]at hr;rw[T6 (by unfold Hu;rw[hr,h3,g3];rfl),h3,g3];simp only[Fs,hk,qZ3];exact⟨rfl,fun n e=>by cases e;exact HF h2 g2⟩
   . rw[K5 (by unfold Hu;rw[g2];simp)];rw[h1]at hna|-
     cases e2:tget s.regs t.b with
     |cst d=>exact absurd e2 (g1 d)
     |_=>rw[e2]at hnb;exact⟨hop _ _ hna hnb,fun n e=>by cases e⟩
 . rw[K5 (by unfold Hu;rw[h2];rfl)]
   cases e1:tget s.regs t.a with
   |cst d=>exact absurd e1 (h1 d)
   |_=>rw[e1]at hna;exact⟨hop _ _ hna hnb,fun n e=>by cases e⟩
theorem RS.step{w:RW}{s:SS}(h:RS ts w s){t:Tac}(ht:SM t R)(hl:s.regs.length=R):∃ts',ts<+:ts'/\RS ts' (w.step t) (s.step t):=by
 have ha:use1 t.op=true\/use2 t.op=true->0<=t.a/\t.a<s.regs.length:=fun e=>by rw[hl];exact ht.a e
 have hb:use2 t.op=true->0<=t.b/\t.b<s.regs.length:=fun e=>by rw[hl];exact ht.b e
 have h10:t.op=1\/t.op=2\/t.op=3\/t.op=4\/t.op=5\/t.op=6\/t.op=7\/t.op=8\/t.op=9\/t.op=10:=by have:=ht.op;omega
 rcases h10 with ho|ho|ho|ho|ho|ho|ho|ho|ho|ho
 . rw[kJ ho,show s.step t=s.put t.d (.cst t.n) by unfold SS.step;rw[ho];rfl];exact h.put t.d rfl (fun n e=>by cases e;exact ht.n)
 . rw[kI ho,show s.step t=s.put t.d (tget s.regs t.a) by unfold SS.step;rw[ho];rfl];exact⟨ts,q87,h.t,h.regs.set (h.at (ha (.inl B2))) _,h.effs,h.time⟩
 . rw[kH ho,show s.step t=s.bin t by unfold SS.step;rw[ho];rfl];have ha':=ha (.inr B2);have hb':=hb B2;obtain⟨hk2,hk3⟩:=h.apply ha' hb';have hr:=h.risky hb';have h1:RS ts (w.div t) (s.div t):=by
    unfold RW.div SS.div;rw[hr]
    cases trisky t.k (tget s.regs t.b)with
    |true=>exact h.eff ⟨_,_,h.at ha',h.at hb',by rw[ho]⟩
    |false=>exact h
   have:=h1.put t.d hk2 hk3;rw[k8]at this;exact this
 . rw[kG ho,show s.step t=s.put t.d (.ld t.base s.time) by unfold SS.step;rw[ho];rfl];exact h.put t.d (by show _=_;rw[h.time]) (fun n e=>by cases e)
 . rw[kF ho,show s.step t=(s.eff ⟨false,5,0,t.base,0,some (tget s.regs t.a),none⟩).tick by unfold SS.step;rw[ho];rfl];exact⟨ts,q87,RS.tick (h.eff ⟨_,_,h.at (ha (.inl B2)),rfl,by rw[ho]⟩)⟩
 . rw[kE ho,show s.step t=s.get t ⟨false,6,0,t.base,t.size,some (tget s.regs t.a),none⟩ by unfold SS.step;rw[ho];rfl];exact h.get t ⟨_,_,h.at (ha (.inl B2)),rfl,by rw[ho]⟩
 . rw[kC ho,show s.step t=(s.eff ⟨false,7,0,t.base,t.size,some (tget s.regs t.a),some (tget s.regs t.b)⟩).tick by unfold SS.step;rw[ho];rfl];exact⟨ts,q87,RS.tick (h.eff ⟨_,_,h.at (ha (.inr B2)),h.at (hb B2),by rw[ho]⟩)⟩
 . rw[kB ho,show s.step t=s.get t ⟨false,8,0,0,0,none,none⟩ by unfold SS.step;rw[ho];rfl];exact h.get t ⟨_,_,rfl,rfl,by rw[ho]⟩
 . rw[kA ho,show s.step t=s.eff ⟨false,9,0,0,0,some (tget s.regs t.a),none⟩ by unfold SS.step;rw[ho];rfl];exact⟨ts,q87,h.eff ⟨_,_,h.at (ha (.inl B2)),rfl,by rw[ho]⟩⟩
 . have hn:∀k:Int,k≠10->(t.op==k)=false:=fun k hk=>by rw[ho];simpa using Ne.symm hk
   rw[kK (hn 1 Al) (hn 2 Al) (hn 3 Al) (hn 4 Al) (hn 5 Al) (hn 6 Al) (hn 7 Al) (hn 8 Al) (hn 9 Al),show s.step t=(s.eff ⟨false,10,0,t.base,0,none,none⟩).tick by unfold SS.step;rw[ho];rfl];exact⟨ts,q87,RS.tick (h.eff ⟨_,_,rfl,rfl,by rw[ho]⟩)⟩
theorem RS.fold(hl:∀t∈l,SM t R):∀{ts:List Tm} {w:RW} {s:SS},RS ts w s->s.regs.length=R->∃ts',ts<+:ts'/\RS ts' (l.foldl RW.step w) (l.foldl SS.step s):=by
 induction l with
 |nil=>exact fun h _=>⟨_,q87,h⟩
 |cons t l ih=>
  intro ts w s h hr;exact sL
theorem RE.uniq(hK:ts.Nodup){e:SE}{k k':REff}(h1:RE ts e k)(h2:RE ts e k'):k=k':=by
 obtain⟨x,y,a1,a2,a3⟩:=h1;obtain⟨x',y',b1,b2,b3⟩:=h2;have hu:∀{o:Option Tm} {n m:Int},RO ts o n->RO ts o m->n=m:=fun {o n m} g1 g2=>by
  cases o with
  |none=>exact g1.trans g2.symm
  |some t=>exact RN.uniq hK g1 g2
 grind
theorem RE.inj{e e':SE}{k:REff}(hw:e.wf)(hw':e'.wf)(h1:RE ts e k)(h2:RE ts e' k):e=e':=by
 obtain⟨x,y,a1,a2,a3⟩:=h1;obtain⟨x',y',b1,b2,b3⟩:=h2;have hso:∀{o o':Option Tm} {n:Int},o.isSome->o'.isSome->RO ts o n->RO ts o' n->o=o':=fun {o o' n} g1 g2 g3 g4=>by
  cases o with
  |none=>cases g1
  |some t=>cases o' with
   |none=>cases g2
   |some s=>rw[RN.inj (ts:=ts) g3 g4]
 obtain⟨r,o,k1,ba,si,oa,ob⟩:=e;obtain⟨r',o',k1',ba',si',oa',ob'⟩:=e';have h3:=a3.symm.trans b3;simp only[REff.mk.injEq]at h3;obtain⟨e1,e2,e3,e4,e5,e6⟩:=h3;subst e1;subst e2;subst e3;subst e4;subst e5;subst e6;have hfin:r=r'->oa=oa'->ob=ob'->(⟨r,o,k1,ba,si,oa,ob⟩:SE)=⟨r',o,k1,ba,si,oa',ob'⟩:=fun q0 q1 q2=>by rw[q0,q1,q2]
 rcases hw with⟨w1,w2,w3,w4,w5,w6⟩|⟨w1,w0,w2⟩<;>rcases hw' with⟨v1,v2,v3,v4,v5,v6⟩|⟨v1,v0,v2⟩<;>simp only at*
 . exact hfin (w1.trans v1.symm) (hso w5 v5 a1 b1) (hso w6 v6 a2 b2)
 . rcases v2 with v2|v2|v2|v2|v2|v2<;>(exfalso;have:=v2.1;omega)
 . rcases w2 with w2|w2|w2|w2|w2|w2<;>(exfalso;have:=w2.1;omega)
 . have hr:=w1.trans v1.symm;rcases w2 with⟨u1,u2,u3,u4⟩|⟨u1,u3,u4⟩|⟨u1,u3,u4⟩|⟨u1,u2,u5,u3,u4⟩|⟨u1,u2,u5,u3,u4⟩|⟨u1,u2,u3,u4⟩<;>
    rcases v2 with⟨q1,q2,q3,q4⟩|⟨q1,q3,q4⟩|⟨q1,q3,q4⟩|⟨q1,q2,q5,q3,q4⟩|⟨q1,q2,q5,q3,q4⟩|⟨q1,q2,q3,q4⟩<;>first
     |(exfalso;omega)
     |exact hfin hr (hso u3 q3 a1 b1) (u4.trans q4.symm)
     |exact hfin hr (hso u3 q3 a1 b1) (hso u4 q4 a2 b2)
     |exact hfin hr (u3.trans q3.symm) (u4.trans q4.symm)
theorem cN(row:List Bool):∀k,∃ts,RT ts (Bv row k).L/\All2 (RN ts) ((List.range k).map Tm.old) (Bv row k).xs/\All2 (RN ts) ((List.range k).map (HV row)) (Bv row k).ys
 |0=>⟨[],⟨List.nodup_nil,rfl,fun i t k h=>by simp at h,fun n h=>by simp at h⟩,trivial,trivial⟩
 |k+1=>by
  obtain⟨ts,h1,h2,h3⟩:=cN row k;obtain⟨ts1,p1,g1,g2⟩:=h1.num (t:=.old k) (k:=RVal.reg k 0) rfl (fun n e=>by cases e);have hk2:RK ts1 (HV row k) (RVal.reg k (Hs row k)):=by
   grind[HV,Hs,Bv,All2,RN,RVal.reg,RK]
  obtain⟨ts2,p2,g3,g4⟩:=g1.num (t:=HV row k) (k:=RVal.reg k (Hs row k)) hk2 (fun n e=>by
   unfold HV at e
   revert e
   cases (row[k]?).getD false<;>(intro e;cases e))
  refine⟨ts2,g3,?_,?_⟩
  . rw[q79,q77];exact(h2.mono fun x y h=>(h.ext p1).ext p2).snoc (g2.ext p2)
  . rw[q79,q77];exact(h3.mono fun x y h=>(h.ext p1).ext p2).snoc g4
theorem pG{old new:Block}{c:Cert}{i:Int}{next:List Int}(ho:∀t∈old.ins,SM t R)(hn:∀t∈new.ins,SM t R)(hc:∀r∈c.same,r.length=R)(hnx:∀k∈next,0<=k/\k<c.same.length)(hv:old.fin=2->(0<=old.v/\old.v<R)/\(0<=new.v/\new.v<R)):
 Ht R old new c i next=Pc R old new c i next:=by
 obtain⟨ts0,q1,q2,q3⟩:=cN (c.at' i) R;have h0:RS ts0 ⟨(Bv (c.at' i) R).L,(Bv (c.at' i) R).xs,[],0⟩ ⟨Da R,[],0⟩:=⟨q1,q2,trivial,rfl⟩;obtain⟨ts1,hp1,h1⟩:=RS.fold ho h0 (I0 R);have h2:RS ts1 ⟨(Ck R (c.at' i) old).L,(Bv (c.at' i) R).ys,[],0⟩ ⟨Kk R (c.at' i),[],0⟩:=⟨h1.t,q3.mono fun x y h=>h.ext hp1,trivial,rfl⟩;obtain⟨ts2,hp2,h3⟩:=RS.fold hn h2 (MO R _);have hA1:All2 (RN ts2) (Do (Da R) old.ins).regs (Ck R (c.at' i) old).vw.vals:=h1.regs.mono fun x y h=>h.ext hp2
 have hA2:All2 (RE ts2) (Do (Da R) old.ins).effs (Ck R (c.at' i) old).out:=h1.effs.mono fun x y h=>h.ext hp2
 have hB1:All2 (RN ts2) (Do (Kk R (c.at' i)) new.ins).regs (CM R (c.at' i) old new).vw.vals:=h3.regs;have hB2:All2 (RE ts2) (Do (Kk R (c.at' i)) new.ins).effs (CM R (c.at' i) old new).out:=h3.effs;have lA:=(MT (Da R) old.ins).trans (I0 R);have lB:=(MT (Kk R (c.at' i)) new.ins).trans (MO R _);have hu:∀t n m,RN ts2 t n->RN ts2 t m->n=m:=fun t n m a b=>RN.uniq h3.t.nd a b
 have hi:∀t s n,RN ts2 t n->RN ts2 s n->t=s:=fun t s n a b=>RN.inj a b
 unfold Ht Pc;congr 1
 . exact decide_eq_decide.2 (ST (r:=RE ts2) (r':=RE ts2) (p:=SE.wf) (q:=SE.wf) (fun e k k' _ a b=>RE.uniq h3.t.nd a b) (fun e e' k p q a b=>RE.inj p q a b) (PP _ _) (PP _ _) hA2 hB2)
 congr 1
 . by_cases hf:old.fin=2
   . rw[show(Ai (Ck R (c.at' i) old).regs old.v==Ai (CM R (c.at' i) old new).regs new.v)=_ from SK (α:=Unit) (R:=R) hu hi hA1 hB1 lA lB (hv hf).1 (hv hf).2]
   grind
 . refine KR fun k hk=>?_
   have hkr:=hnx k hk;have hrow:(c.at' k).length=R:=by
    grind[Ad,Cert.at',List.mem_of_getElem?,Ht,Pc,Bv,Ck,All2,RN,Do,Da,RE,Kk,CM]
   exact W5 (R:=R) hu hi hA1 hB1 lA lB hrow
theorem il(h:t.callOk=true)(h10:t.op=10):t=GY t.base/\0<=t.base:=by
 grind[Tac.callOk,Tac.same_iff,GY]
theorem Pf(h:f.stands=true)(hx:x∈f.blocks)(ht:t∈x.ins)(hn:FY t.n):SM t f.regs.toNat:=by
 have hS:=Fe h;have hv:=hS.tacs x hx t ht hn;unfold BFunc.stands at h;rw[q66]at h;obtain⟨h1,h2⟩:=h
 by_cases h10:t.op=10
 . have hok:=q67.1 (q67.1 h1 x hx) t ht;obtain⟨e,_⟩:=il hok h10;exact⟨hv,⟨by omega,by omega⟩,fun e3=>by omega,by rw[e];rfl⟩
 . simp only[Blocks.right,q66,q56,q67]at h2;have h3:=h2.2.2.2 (f.bare,0) Aq;simp only[BFunc.one,q66,q67,BFunc.bare]at h3;have h4:=h3.2.2.2 x.bare (qX3.2 ⟨x,hx,rfl⟩);unfold Block.ok at h4;rw[q66,q67]at h4;have hf:=h4.2 t (q90.2 ⟨ht,by simpa using h10⟩);simp only[Tac.fits,q66,q56]at hf;obtain⟨f1,f2,f3,f4,f5,f6⟩:=hf;refine⟨hv,⟨f1,f2⟩,fun e3=>?_,(Tac.same_iff _ _).1 f6⟩;unfold Tac.rest at f5;rw[show(t.op==3)=true by simp[e3]]at f5;simpa using f5
def MM(old new:BFunc)(c:Cert):Bool:=(old.blocks.zip new.blocks).zipIdx.all fun p=>Pc old.regs.toNat p.1.1 p.1.2 c (p.2:Int) p.1.1.nexts
def QE(old new:BFunc)(c:Cert):Bool:=vshaped old new&&(decide (c.same.length=old.blocks.length)&&((c.same.all fun r=>decide ((r.length:Int)=old.regs))&&MM old new c))
def BFunc.words(f:BFunc):Prop:=∀x∈f.blocks,GL x.ins
theorem St{old new:BFunc}{c:Cert}(ho:old.words)(hn:new.words):Dj old new c=QE old new c/\Gf old new c=QE old new c:=by
 unfold Dj Gf QE
 cases hs:vshaped old new with
 |false=>exact⟨rfl,rfl⟩
 |true=>
  have hV:=HQ hs;have hSo:=Fe hV.so;have hSn:=Fe hV.sn;simp only[qQ5]
  by_cases h1:c.same.length=old.blocks.length
  . by_cases h2:(c.same.all fun r=>decide ((r.length:Int)=old.regs))=true
    . have hR:((old.regs.toNat:Nat):Int)=old.regs:=q41 hSo.r0;have hc:∀r∈c.same,r.length=old.regs.toNat:=fun r hr=>by
       have:=q67.1 h2 r hr;simp only[q56]at this;omega
      have key:∀(p:(Block×Block)×Nat),p∈(old.blocks.zip new.blocks).zipIdx->(∀t∈p.1.1.ins,SM t old.regs.toNat)/\(∀t∈p.1.2.ins,SM t old.regs.toNat)/\(∀k∈p.1.1.nexts,0<=k/\k<c.same.length)/\(p.1.1.fin=2->(0<=p.1.1.v/\p.1.1.v<old.regs.toNat)/\(0<=p.1.2.v/\p.1.2.v<old.regs.toNat)):=by
       rintro⟨⟨x,y⟩,i⟩ hp
       obtain⟨j,hj⟩:=q27.1 hp;rw[q37,q22]at hj;obtain⟨q,hq,e⟩:=hj;obtain⟨x',y'⟩:=q;simp only[qQ8,q98]at e;obtain⟨⟨rfl,rfl⟩,rfl⟩:=e;rw[q11]at hq;obtain⟨hx,hy⟩:=hq;have hxm:=q33 hx;have hym:=q33 hy;have hb:=hV.b j x' y' hx hy;refine⟨fun t ht=>Pf hV.so hxm ht (ho x' hxm t ht),fun t ht=>?_,fun k hk=>?_,fun hf=>?_⟩
       . rw[hV.regs];exact Pf hV.sn hym ht (hn y' hym t ht)
       . rw[h1];exact hSo.next x' hxm k hk
       . dsimp only at hf|-;rw[hR];refine⟨hSo.v x' hxm hf,?_⟩;rw[hV.regs];exact hSn.v y' hym (by rw[<-hb.1];exact hf)
      constructor
      . congr 2;unfold MD MM;refine KR fun p hp=>?_
        obtain⟨k1,k2,k3,k4⟩:=key p hp;exact pm k1 k2 hc k3 k4
      . unfold EX;rw[Bool.and_assoc];congr 2;unfold PU MM;refine KR fun p hp=>?_
        obtain⟨k1,k2,k3,k4⟩:=key p hp;exact pG k1 k2 hc k3 k4
    . have h2':(c.same.all fun r=>decide ((r.length:Int)=old.regs))=false:=by simpa using h2
      unfold EX;rw[h2']
      simp
  . unfold EX;rw[q89 h1];exact⟨rfl,rfl⟩
theorem jZ{old new:BFunc}{c:Cert}(ho:old.words)(hn:new.words):Dj old new c=Gf old new c:=(St ho hn).1.trans (St ho hn).2.symm
structure Cert.Ok(c:Cert):Prop where
  len:c.same.length*24<=reachBytes
  rows:∀r∈c.same,r.length*1<=reachBytes
def Tm.ren(row:List Bool):Tm->Tm
  | .old v=>HV row v
  | .own v=>.own v
  | .cst n=>.cst n
  | .op k a b=>.op k (a.ren row) (b.ren row)
  | .ld b τ=>.ld b τ
  | .unk n=>.unk n
def Tm.pure(R:Nat):Tm->Prop
  | .old v=>v<R
  | .own _=>False
  | .op _ a b=>a.pure R/\b.pure R
  |_=>True
def Tm.inR(row:List Bool):Tm->Prop
  | .old v=>row[v]?=some true
  | .own _=>False
  | .op _ a b=>a.inR row/\b.inR row
  |_=>True
theorem Tm.ren_iff{R:Nat}{row:List Bool}(hr:row.length=R):∀{t s:Tm},t.pure R->s.pure R->(s=t.ren row↔s=t/\t.inR row)
 | .old v,s,ht,hs=>by
  have hv:v<row.length:=by rw[hr];exact ht
  obtain⟨b,hb⟩:=Ad hv;have e:(Tm.old v).ren row=HV row v:=rfl;have hi:(Tm.old v).inR row↔row[v]?=some true:=Iff.rfl;rw[e,hi,hb];unfold HV;rw[hb]
  cases b with
  |true=>simp
  |false=>
   simp only[q72,qZ3,q53,q50,and_false,iff_false];intro h;subst h;exact hs.elim
 | .own v,s,ht,hs=>ht.elim
 | .cst n,s,ht,hs=>by simp[Tm.ren,Tm.inR]
 | .ld b τ,s,ht,hs=>by simp[Tm.ren,Tm.inR]
 | .unk n,s,ht,hs=>by simp[Tm.ren,Tm.inR]
 | .op k a b,s,ht,hs=>by
  constructor
  . intro h
    cases s with
    |op k' a' b'=>
     simp only[Tm.ren,Tm.op.injEq]at h;obtain⟨h1,h2,h3⟩:=h;obtain⟨g1,g2⟩:=(Tm.ren_iff hr ht.1 hs.1).1 h2;obtain⟨g3,g4⟩:=(Tm.ren_iff hr ht.2 hs.2).1 h3;exact⟨by rw[h1,g1,g3],g2,g4⟩
    |_=>simp[Tm.ren]at h
  . rintro⟨rfl,h1,h2⟩
    simp only[Tm.ren,Tm.op.injEq,true_and];exact⟨(Tm.ren_iff hr ht.1 ht.1).2 ⟨rfl,h1⟩,(Tm.ren_iff hr ht.2 ht.2).2 ⟨rfl,h2⟩⟩
def fW(row:List Bool):Option Tm->Option Tm:=Option.map (Tm.ren row)
def SE.ren(row:List Bool)(e:SE):SE:={e with a:=fW row e.a,b:=fW row e.b}
def XM(R:Nat):Option Tm->Prop
  |none=>True
  |some t=>t.pure R
def l7(row:List Bool):Option Tm->Prop
  |none=>True
  |some t=>t.inR row
def SE.pure(R:Nat)(e:SE):Prop:=XM R e.a/\XM R e.b
def SE.inR(row:List Bool)(e:SE):Prop:=l7 row e.a/\l7 row e.b
theorem XL(hr:row.length=R){t s:Option Tm}(ht:XM R t)(hs:XM R s):s=fW row t↔s=t/\l7 row t:=by
 cases t with
 |none=>simp[fW,l7]
 |some t=>
  cases s with
  |none=>simp[fW]
  |some s=>
   simp only[fW,q80,q53];exact Tm.ren_iff hr ht hs
variable {e : SE}
theorem SE.ren_iff(hr:row.length=R){f:SE}(he:e.pure R)(hf:f.pure R):f=e.ren row↔f=e/\e.inR row:=by
 have h1:=XL hr he.1 hf.1;have h2:=XL hr he.2 hf.2
 cases e with
 |mk r o k ba si a b=>
  cases f with
  |mk r' o' k' ba' si' a' b'=>
   simp only[SE.ren,SE.mk.injEq,SE.inR]at h1 h2|-;rw[h1,h2];constructor
   . rintro⟨e1,e2,e3,e4,e5,⟨e6,e7⟩,e8,e9⟩;exact⟨⟨e1,e2,e3,e4,e5,e6,e8⟩,e7,e9⟩
   . rintro⟨⟨e1,e2,e3,e4,e5,e6,e8⟩,e7,e9⟩;exact⟨e1,e2,e3,e4,e5,⟨e6,e7⟩,e8,e9⟩
theorem YA{R:Nat}{row:List Bool}(hr:row.length=R):∀{l m:List SE},(∀e∈l,e.pure R)->(∀e∈m,e.pure R)->(l=m.map (SE.ren row)↔l=m/\∀e∈m,e.inR row)
 | [],[],_,_=>by simp
 | [],e::m,_,_=>by simp
 |f::l,[],_,_=>by simp
 |f::l,e::m,hl,hm=>by
  have ih:=YA hr (l:=l) (m:=m) (fun x hx=>hl x IT) (fun x hx=>hm x IT);have h1:=SE.ren_iff hr (hm e Aq) (hl f Aq)
  grind
def SS.ren(row:List Bool)(s:SS):SS:=⟨s.regs.map (Tm.ren row),s.effs.map (SE.ren row),s.time⟩
structure SS.pure(R:Nat)(s:SS):Prop where
  regs:∀t∈s.regs,t.pure R
  effs:∀e∈s.effs,e.pure R
theorem W7(row:List Bool)(l:List Tm)(z:Int):tget (l.map (Tm.ren row)) z=(tget l z).ren row:=by
 grind[tget,Tm.ren]
theorem j6(row:List Bool)(l:List Tm)(z:Int)(t:Tm):tset (l.map (Tm.ren row)) z (t.ren row)=(tset l z t).map (Tm.ren row):=by
 unfold tset;rw[List.map_set]
theorem QO(row:List Bool)(v:Nat):HV row v=.old v\/HV row v=.own v:=by
 grind[HV]
theorem Tf(row:List Bool)(t:Tm):(t.ren row).isZero=t.isZero:=by
 cases t with
 |old v=>rcases QO row v with h|h<;>(show(HV row v).isZero=true;rw[h];rfl)
 |_=>rfl
theorem fa(row:List Bool)(k:Int)(a b:Tm):Fs k (a.ren row) (b.ren row)=(Fs k a b).ren row:=by
 have hop:∀x y:Tm,(∀n,x≠ .cst n)\/(∀n,y≠ .cst n)->Fs k x y=.op k x y:=fun x y h=>by
  cases x<;>cases y<;>first|rfl|(exfalso;rcases h with h|h<;>exact h _ rfl)
 have hne:∀t:Tm,(∀n,t≠ .cst n)->∀n,t.ren row≠ .cst n:=fun t h n e=>by
  cases t with
  |old v=>rcases QO row v with g|g<;>(rw[show(Tm.old v).ren row=HV row v from rfl,g]at e;cases e)
  |cst m=>exact h m rfl
  |_=>cases e
 by_cases ha:∃x,a=.cst x
 . obtain⟨x,rfl⟩:=ha
   by_cases hb:∃y,b=.cst y
   . obtain⟨y,rfl⟩:=hb;show Fs k (.cst x) (.cst y)=_;simp only[Fs]
     cases trisky k (.cst y)<;>rfl
   . have hb':∀n,b≠ .cst n:=fun n e=>hb ⟨n,e⟩
     rw[hop _ _ (.inr hb'),hop _ _ (.inr (hne b hb'))];rfl
 . have ha':∀n,a≠ .cst n:=fun n e=>ha ⟨n,e⟩
   rw[hop _ _ (.inl ha'),hop _ _ (.inl (hne a ha'))];rfl
theorem ZB(row:List Bool)(k:Int)(b:Tm):trisky k (b.ren row)=trisky k b:=by unfold trisky;rw[Tf]
theorem Ii(row:List Bool)(s:SS)(z:Int)(t:Tm):(s.ren row).put z (t.ren row)=(s.put z t).ren row:=by
 grind[SS.put,SS.ren,j6]
theorem GR(row:List Bool)(s:SS)(e:SE):(s.ren row).eff (e.ren row)=(s.eff e).ren row:=by
 simp[SS.eff,SS.ren]
theorem SO(row:List Bool)(s:SS)(t:Tac)(e:SE):(s.ren row).get t (e.ren row)=(s.get t e).ren row:=by
 unfold SS.get;rw[GR,<-Ii];simp[SS.ren,Tm.ren]
theorem YY(row:List Bool)(s:SS)(t:Tac):(s.ren row).step t=(s.step t).ren row:=by
 have hg:∀z,tget (s.ren row).regs z=(tget s.regs z).ren row:=fun z=>W7 row s.regs z
 unfold SS.step
 cases t.op==1 with
 |true=>exact Ii row s t.d (.cst t.n)
 |false=>
 cases t.op==2 with
 |true=>simp only[qZ7,qZ3];rw[hg];exact Ii row s t.d _
 |false=>
 cases t.op==3 with
 |true=>
  simp only[qZ7,qZ3];unfold SS.bin;have hd:(s.ren row).div t=(s.div t).ren row:=by
   unfold SS.div;rw[hg,hg,ZB]
   cases trisky t.k (tget s.regs t.b)with
   |true=>exact GR row s ⟨true,3,t.k,0,0,some (tget s.regs t.a),some (tget s.regs t.b)⟩
   |false=>rfl
  rw[hd,hg,hg,fa];exact Ii row (s.div t) t.d _
 |false=>
 cases t.op==4 with
 |true=>exact Ii row s t.d (.ld t.base s.time)
 |false=>
 cases t.op==5 with
 |true=>
  simp only[qZ7,qZ3];rw[hg];exact congrArg SS.tick (GR row s ⟨false,5,0,t.base,0,some (tget s.regs t.a),none⟩)
 |false=>
 cases t.op==6 with
 |true=>
  simp only[qZ7,qZ3];rw[hg];exact SO row s t ⟨false,6,0,t.base,t.size,some (tget s.regs t.a),none⟩
 |false=>
 cases t.op==7 with
 |true=>
  simp only[qZ7,qZ3];rw[hg,hg];exact congrArg SS.tick (GR row s ⟨false,7,0,t.base,t.size,some (tget s.regs t.a),some (tget s.regs t.b)⟩)
 |false=>
 cases t.op==8 with
 |true=>exact SO row s t ⟨false,8,0,0,0,none,none⟩
 |false=>
 cases t.op==9 with
 |true=>
  simp only[qZ7,qZ3];rw[hg];exact GR row s ⟨false,9,0,0,0,some (tget s.regs t.a),none⟩
 |false=>exact congrArg SS.tick (GR row s ⟨false,10,0,t.base,0,none,none⟩)
theorem ko(R:Nat)(row:List Bool)(l:List Tac):Do (Kk R row) l=(Do (Da R) l).ren row:=by
 have h0:(⟨Kk R row,[],0⟩:SS)=(⟨Da R,[],0⟩:SS).ren row:=by
  simp[SS.ren,Kk,Da,Tm.ren]
 unfold Do;rw[h0];generalize(⟨Da R,[],0⟩:SS)=s
 induction l generalizing s with
 |nil=>rfl
 |cons t l ih=>rw[q85,q85,YY,ih]
variable {l : List Tm}
theorem IZ(h:∀t∈l,t.pure R)(z:Int):(tget l z).pure R:=by
 unfold tget
 cases e:l[z.toNat]? with
 |none=>exact trivial
 |some t=>exact h t (q33 e)
variable {t : Tm}
theorem eP(h:∀t∈l,t.pure R)(z:Int)(ht:t.pure R):∀x∈tset l z t,x.pure R:=fun x hx=>by
 grind[tset]
theorem ZD{a b:Tm}(ha:a.pure R)(hb:b.pure R):(Fs k a b).pure R:=by
 have hop:(Tm.op k a b).pure R:=⟨ha,hb⟩
 cases a with
 |cst x=>
  cases b with
  |cst y=>
   simp only[Fs]
   cases trisky k (.cst y)with
   |true=>exact hop
   |false=>exact trivial
  |_=>exact hop
 |_=>exact hop
theorem SS.pure.put_pure(h:s.pure R)(z:Int)(ht:t.pure R):(s.put z t).pure R:=⟨eP h.regs z ht,h.effs⟩
theorem SS.pure.eff_pure(h:s.pure R)(he:e.pure R):(s.eff e).pure R:=⟨h.regs,fun x hx=>by
 have hx':x∈s.effs++[e]:=hx;simp only[q78,q47]at hx';rcases hx' with hx'|rfl
 . exact h.effs x hx'
 . exact he⟩
theorem SS.pure.step_pure(h:s.pure R)(t:Tac):(s.step t).pure R:=by
 have hg:=fun z=>IZ h.regs z
 have hp:=fun(z:Int) (t:Tm) (ht:t.pure R)=>h.put_pure z ht
 unfold SS.step
 cases t.op==1 with
 |true=>exact hp _ (.cst t.n) trivial
 |false=>
 cases t.op==2 with
 |true=>exact hp _ _ (hg _)
 |false=>
 cases t.op==3 with
 |true=>
  have hd:(s.div t).pure R:=by
   unfold SS.div
   cases trisky t.k (tget s.regs t.b)with
   |true=>exact h.eff_pure ⟨hg _,hg _⟩
   |false=>exact h
  exact hd.put_pure _ (ZD (hg _) (hg _))
 |false=>
 cases t.op==4 with
 |true=>exact hp _ (.ld t.base s.time) trivial
 |false=>
 cases t.op==5 with
 |true=>exact⟨(h.eff_pure (e:=⟨false,5,0,t.base,0,some (tget s.regs t.a),none⟩) ⟨hg _,trivial⟩).regs,(h.eff_pure (e:=⟨false,5,0,t.base,0,some (tget s.regs t.a),none⟩) ⟨hg _,trivial⟩).effs⟩
 |false=>
 cases t.op==6 with
 |true=>exact(h.eff_pure (e:=⟨false,6,0,t.base,t.size,some (tget s.regs t.a),none⟩) ⟨hg _,trivial⟩).put_pure _ (t:=.unk s.effs.length) trivial
 |false=>
 cases t.op==7 with
 |true=>exact⟨(h.eff_pure (e:=⟨false,7,0,t.base,t.size,some (tget s.regs t.a),some (tget s.regs t.b)⟩) ⟨hg _,hg _⟩).regs,(h.eff_pure (e:=⟨false,7,0,t.base,t.size,some (tget s.regs t.a),some (tget s.regs t.b)⟩) ⟨hg _,hg _⟩).effs⟩
 |false=>
 cases t.op==8 with
 |true=>exact(h.eff_pure (e:=⟨false,8,0,0,0,none,none⟩) ⟨trivial,trivial⟩).put_pure _ (t:=.unk s.effs.length) trivial
 |false=>
 cases t.op==9 with
 |true=>exact h.eff_pure ⟨hg _,trivial⟩
 |false=>exact⟨(h.eff_pure (e:=⟨false,10,0,t.base,0,none,none⟩) ⟨trivial,trivial⟩).regs,(h.eff_pure (e:=⟨false,10,0,t.base,0,none,none⟩) ⟨trivial,trivial⟩).effs⟩
theorem N0(R:Nat)(l:List Tac):(Do (Da R) l).pure R:=by
 unfold Do;have h0:(⟨Da R,[],0⟩:SS).pure R:=⟨fun t ht=>by
  simp only[Da,qX3,q94]at ht;obtain⟨v,hv,rfl⟩:=ht;exact hv,fun e he=>by simp at he⟩
 generalize(⟨Da R,[],0⟩:SS)=s at*
 induction l generalizing s with
 |nil=>exact h0
 |cons t l ih=>exact ih _ (h0.step_pure t)
def Yq(R:Nat)(x y:Block)(c:Cert)(i:Int)(next:List Int):Prop:=
  (Do (Da R) x.ins).effs=(Do (Da R) y.ins).effs/\(∀e∈(Do (Da R) y.ins).effs,e.inR (c.at' i))/\
  (x.fin=2->tget (Do (Da R) x.ins).regs x.v=tget (Do (Da R) y.ins).regs y.v/\(tget (Do (Da R) y.ins).regs y.v).inR (c.at' i))/\
  ∀k∈next,∀j:Nat,(c.at' k)[j]?=some true->tget (Do (Da R) x.ins).regs (j:Int)=tget (Do (Da R) y.ins).regs (j:Int)/\(tget (Do (Da R) y.ins).regs (j:Int)).inR (c.at' i)
theorem ZI{x y:List Tm}:QG x y row=true↔ ∀j:Nat,row[j]?=some true->tget x (j:Int)=tget y (j:Int):=by
 unfold QG;rw[q67];constructor
 . intro h j hb;have:=h (true,j) (q33 (BG hb));simpa using this
 . rintro h ⟨b,j⟩ hp
   obtain⟨i,hi⟩:=q27.1 hp;rw[q37,q22]at hi;obtain⟨b',hb',e⟩:=hi;simp only[qQ8,q98]at e;obtain⟨rfl,rfl⟩:=e
   cases b' with
   |false=>rfl
   |true=>simpa using h _ hb'
theorem TJ{c:Cert}{i:Int}{next:List Int}(hr:(c.at' i).length=R):Pc R x y c i next=true↔Yq R x y c i next:=by
 have hx:=N0 R x.ins;have hy:=N0 R y.ins;unfold Pc Yq;rw[ko,q66,q66,q56,q67];have h1:(Do (Da R) x.ins).effs=((Do (Da R) y.ins).ren (c.at' i)).effs↔_:=YA hr hx.effs hy.effs;rw[h1,and_assoc];refine and_congr_right fun _=>and_congr_right fun _=>?_
 have h2:∀z z',tget (Do (Da R) x.ins).regs z=tget ((Do (Da R) y.ins).ren (c.at' i)).regs z'↔tget (Do (Da R) x.ins).regs z=tget (Do (Da R) y.ins).regs z'/\(tget (Do (Da R) y.ins).regs z').inR (c.at' i):=fun z z'=>by
  rw[show((Do (Da R) y.ins).ren (c.at' i)).regs=(Do (Da R) y.ins).regs.map (Tm.ren (c.at' i))from rfl,W7];exact Tm.ren_iff hr (IZ hy.regs _) (IZ hx.regs _)
 refine and_congr ?_ (forall_congr' fun k=>imp_congr_right fun _=>?_)
 . rw[q81,q56,h2]
   by_cases hf:x.fin=2
   . simp[hf]
   . simp[hf]
 . rw[ZI];exact forall_congr' fun j=>imp_congr_right fun _=>h2 _ _
structure OX(old new:BFunc)(c:Cert):Prop where
  sh:vshaped old new=true
  len:c.same.length=old.blocks.length
  rows:∀r∈c.same,(r.length:Int)=old.regs
  b:∀(k:Nat) (x y:Block),old.blocks[k]?=some x->new.blocks[k]?=some y->Yq old.regs.toNat x y c (k:Int) x.nexts
theorem nT{c:Cert}(h:∀r∈c.same,r.length=R)(hk:0<=k/\k<c.same.length):(c.at' k).length=R:=by
 grind[Ad,Cert.at',List.mem_of_getElem?]
theorem ZE{old new:BFunc}{c:Cert}:QE old new c=true↔OX old new c:=by
 unfold QE;simp only[q66,q56,q67];have key:vshaped old new=true->c.same.length=old.blocks.length->(∀r∈c.same,(r.length:Int)=old.regs)->∀(k:Nat) (x:Block),old.blocks[k]?=some x->(c.at' (k:Int)).length=old.regs.toNat:=fun hs hl hr k x hx=>by
  have h0:=(Fe (HQ hs).so).r0;have hk:=(q05.1 hx).1;exact nT (fun r h=>by have:=hr r h;omega) Ab
 constructor
 . rintro⟨h1,h2,h3,h4⟩
   refine⟨h1,h2,h3,fun k x y hx hy=>?_⟩;unfold MM at h4;rw[q67]at h4;exact(TJ (key h1 h2 h3 k x hx)).1 (h4 ((x,y),k) (q33 (BG (L1 hx hy))))
 . rintro⟨h1,h2,h3,h4⟩
   refine⟨h1,h2,h3,?_⟩;unfold MM;rw[q67]
   rintro⟨⟨x,y⟩,i⟩ hp
   obtain⟨j,hj⟩:=q27.1 hp;rw[q37,q22]at hj;obtain⟨q,hq,e⟩:=hj;obtain⟨x',y'⟩:=q;simp only[qQ8,q98]at e;obtain⟨⟨rfl,rfl⟩,rfl⟩:=e;rw[q11]at hq;exact(TJ (key h1 h2 h3 j x' hq.1)).2 (h4 j x' y' hq.1 hq.2)
theorem L4{old new:BFunc}{c:Cert}(ho:old.words)(hn:new.words):Dj old new c=true↔OX old new c:=by
 grind[St,ZE,Dj]
theorem aE(h:x.fin=y.fin/\x.to=y.to/\x.els=y.els):x.nexts=y.nexts:=by
 grind[Block.nexts]
theorem Ih{R:Nat}:∀{x:Tm},x.pure R->x.inR (List.replicate R true)
 | .old v,h=>by
  show(List.replicate R true)[v]?=some true;rw[q19];exact qK0 h
 | .own _,h=>h.elim
 | .op _ a b,h=>⟨Ih h.1,Ih h.2⟩
 | .cst _,_=>trivial
 | .ld _ _,_=>trivial
 | .unk _,_=>trivial
theorem XR{x:Option Tm}(h:XM R x):l7 (List.replicate R true) x:=by
 cases x with
 |none=>trivial
 |some x=>exact Ih h
theorem pd(hk:0<=k/\k<f.blocks.length):(co f).at' k=List.replicate f.regs.toNat true:=by
 grind[Cert.at',co]
structure Mach.Le(m m':Mach):Prop where
  words:m'.words=m.words
  out:m'.out=m.out
  read:m'.read=m.read
  fin:m'.fin=m.fin
  steps:m'.steps<=m.steps
def Mach.Sim(x y:Mach):Prop:=x.fin=5\/x.Le y
theorem Mach.Le.trans{x y z:Mach}(h:x.Le y)(h':y.Le z):x.Le z:=⟨h'.words.trans h.words,h'.out.trans h.out,h'.read.trans h.read,h'.fin.trans h.fin,qX2 h'.steps h.steps⟩
theorem Mach.Sim.trans{x y z:Mach}(h:x.Sim y)(h':y.Sim z):x.Sim z:=by
 rcases h with h|h
 . exact .inl h
 . rcases h' with h'|h'
   . exact .inl (h.fin.symm.trans h')
   . exact .inr (h.trans h')
theorem Mach.Le.refl(m:Mach):m.Le m:=⟨rfl,rfl,rfl,rfl,qZ0 _⟩
variable {call call' : Int -> Mach -> Mach} {s : ByteArray} {fuel : Int}
def E9(call call':Int->Mach->Mach)(ok:Int->Prop):Prop:=∀i m m',ok i->m.fin=0->m.Le m'->(call i m).Sim (call' i m')
theorem XY{ok:Int->Prop}(hc:E9 call call' ok)(t:Tac)(ht:t.op=10->ok t.base)(regs:List Int){m m':Mach}(h0:m.fin=0)(h:m.Le m'):
 (Bb call s t regs m).1=(Bb call' s t regs m').1/\(Bb call s t regs m).2.Sim (Bb call' s t regs m').2:=by
 obtain⟨w,o,r,st,f⟩:=m;obtain⟨w',o',r',st',f'⟩:=m';obtain⟨h1,h2,h3,h4,h5⟩:=h;simp only at h1 h2 h3 h4 h5;subst h1;subst h2;subst h3;subst h4;have hle:∀(a:List Int) (b:List UInt8) (c:Nat) (d:Int),Mach.Le ⟨a,b,c,st,d⟩ ⟨a,b,c,st',d⟩:=fun a b c d=>⟨rfl,rfl,rfl,rfl,h5⟩
 unfold Bb
 cases t.op==1 with
 |true=>exact⟨rfl,.inr (hle _ _ _ _)⟩
 |false=>
 cases t.op==2 with
 |true=>exact⟨rfl,.inr (hle _ _ _ _)⟩
 |false=>
 cases t.op==3 with
 |true=>
  simp only[qZ7,qZ3]
  cases (Cp t.k (Ai regs t.a) (Ai regs t.b)).2==0<;>exact⟨rfl,.inr (hle _ _ _ _)⟩
 |false=>
 cases t.op==4 with
 |true=>exact⟨rfl,.inr (hle _ _ _ _)⟩
 |false=>
 cases t.op==5 with
 |true=>exact⟨rfl,.inr (hle _ _ _ _)⟩
 |false=>
 cases t.op==6 with
 |true=>
  exact rE
 |false=>
 cases t.op==7 with
 |true=>
  exact rE
 |false=>
 cases t.op==8 with
 |true=>
  simp only[qZ7,qZ3]
  cases decide (r'<s.size)<;>exact⟨rfl,.inr (hle _ _ _ _)⟩
 |false=>
 cases t.op==9 with
 |true=>
  simp only[qZ7,qZ3]
  cases decide (o'.length>=65536)<;>exact⟨rfl,.inr (hle _ _ _ _)⟩
 |false=>
 cases h10:t.op==10 with
 |true=>exact⟨rfl,hc _ _ _ (ht (by simpa using h10)) h0 (hle _ _ _ _)⟩
 |false=>exact⟨rfl,.inr (hle _ _ _ _)⟩
def vT(X Y:Bool×List Int×Mach):Prop:=X.1=false/\X.2.2.fin=5\/X.1=Y.1/\X.2.1=Y.2.1/\X.2.2.Le Y.2.2/\(X.1=true->X.2.2.fin=0)/\(X.1=false->X.2.2.fin≠0)
structure Ado where
  words:List Int
  out:List UInt8
  read:Nat
  cnt:Nat
structure EH where
  mems:List (List Int)
  unks:List Int
  core:Ado
variable (call : Int -> Mach -> Mach) (s : ByteArray) (ρ : List Int)
variable {call : Int -> Mach -> Mach} {s : ByteArray} {ρ ρ' : List Int}
variable {S : SS} {regs : List Int} {m : Mach} {h : EH}
def BT(call:Int->Mach->Mach)(s:ByteArray):List Tac->List Int->Mach->Bool×List Int×Mach
  | [],regs,m=>(true,regs,m)
  |t::r,regs,m=>bif (Bb call s t regs m).2.fin==0 then BT call s r (Bb call s t regs m).1 (Bb call s t regs m).2 else(false,Bb call s t regs m)
theorem C4{l:List α}{f:α->List AV}{x:α}(h:l[n.toNat]?=some x):(l.map f)[n.toNat]?=some (f x):=by rw[q54,h];rfl
theorem Tt(n:Nat):∀(i:Nat) (cs cs':List AV),(List.replicate n [AV.nil])[i]?=some cs->(List.replicate n [AV.lst false []])[i]?=some cs'->cs'.length=cs.length/\∀(j:Nat) (x y:AV),cs[j]?=some x->cs'[j]?=some y->y.cell1=true/\∀H v,Rel H Bk x v->Rel H Bk y v:=fun i cs cs' h1 h2=>by
 have e1:=q15 (q33 h1);have e2:=q15 (q33 h2);subst e1;subst e2;refine⟨rfl,fun j x y g1 g2=>?_⟩
 cases j with
 |zero=>simp at g1 g2;subst g1;subst g2;exact⟨rfl,fun H v h=>Ur h⟩
 |succ j=>simp at g1
variable {s : DS}
theorem YK{c:Bool}(h:notBeen s.been b=c):Cu b s=bif c then⟨s.been.set b.toNat true,s.way++[(b,0)]⟩else s:=by rw[Cu,h]
theorem mR{c:Bool}(h:notBeen s.been b=c):Wg b s es=bif c then Eo es s.way.length (Ey (b,0))else es:=by rw[Wg,h]
theorem YS(l:List Bool)(b:Int)(v:Bool):(l.map Bn).set (0+b.toNat) [AV.bool v]=(l.set b.toNat v).map Bn:=by
 rw[qQ8,List.map_set];rfl
variable {k : Nat} {p : Int × Int}
theorem Vq{w:List (Int×Int)}{p0:Int×Int}(hp:w.getLast?=some p0)(es:List (List AV))(c:List AV):((es.length,w.length):Nat×Nat)=((es.set k c).length,(w.dropLast++[p]).length):=by
 have hpos:0<w.length:=by rw[IW hp];simp
 simp;omega
theorem Tv{next:List (List Int)}{been:List Bool}(h:been.length=next.length):WayIn next.length (DS.mk been []) ([]:List (List AV)):=by
 refine⟨qZ0 _,rfl,?_⟩;rw[<-h];show 0+cr been<=been.length;clear h
 induction been with
 |nil=>simp[cr]
 |cons x r ih=>simp only[cr,qQ0,qQ2,q70]at ih|-;cases x<;>simp<;>omega
variable {n : Nat}
theorem Jf(h:0<n)(h2:n<=100000000):A8 .sub (.int .i64 (n:Int)) (.int .i64 1)=some (.int .i64 ((n-1:Nat):Int)):=by
 simp only[A8,BP,isShift,qZ3,qZ8];rw[B8 Ab Ab];congr 2;omega
structure FW where
  s:DS
  es:List (List AV)
  g:Nat
structure FWInv(next:List (List Int))(tgt:DS)(q:FW):Prop where
  ok:q.s.ok next
  way:WayIn next.length q.s q.es
  gas:Ws next q.s<q.g
  tgt:KK next q.g q.s=tgt
theorem FWInv.first{next:List (List Int)}{been:List Bool}(h:been.length=next.length):FWInv next (KK next (Ws next (GM been)+1) (GM been)) ⟨GM been,Wg 0 (DS.mk been []) [],Ws next (GM been)+1⟩:=
 ⟨Sn ⟨h,fun p hp=>by cases hp⟩,(Tv h).into,Nat.lt_succ_self _,rfl⟩
variable {q : FW} {tgt : DS}
theorem FWInv.next{next:List (List Int)}(h:FWInv next tgt q){s':DS}{es':List (List AV)}(hp:q.s.way.getLast?=some p)(he:Ha next q.s=s')(hw:WayIn next.length s' es'):FWInv next tgt ⟨s',es',q.g-1⟩/\q.g-1<q.g:=by
 have hne:q.s.way≠[]:=fun e=>by rw[e]at hp;simp at hp
 have h1:=YC h.ok hne;have h2:=h.gas;have h3:=YB h.ok;rw[he]at h1 h3;refine⟨⟨h3,hw,by show Ws next s'<q.g-1;omega,?_⟩,by omega⟩;obtain⟨g,hg⟩:∃g,q.g=g+1:=⟨q.g-1,by omega⟩
 have h4:=h.tgt;rw[hg,U5 hne,he]at h4;rw[hg];exact h4
theorem nx{next:List (List Int)}{i:Int}(hp:s.way.getLast?=some (b,i))(h:i<(Cl next b).length):Ha next s=Cu (((Cl next b)[i.toNat]?).getD 0) ⟨s.been,s.way.dropLast++[(b,i+1)]⟩:=by
 have h':decide (i<((Cl next b).length:Int))=true:=by simpa using h
 simp only[Ha,hp,h',qZ7]
theorem gW{next:List (List Int)}{i:Int}(hp:s.way.getLast?=some (b,i))(h:¬i<(Cl next b).length):Ha next s=⟨s.been,s.way.dropLast⟩:=by
 have h':decide (i<((Cl next b).length:Int))=false:=by simpa using h
 simp only[Ha,hp,h',qZ3]
theorem U8(b:Int)(s:DS):(Cu b s).been.length=s.been.length:=by
 unfold Cu;cases notBeen s.been b<;>simp
theorem gX(next:List (List Int))(s:DS):(Ha next s).been.length=s.been.length:=by
 unfold Ha;split
 . rfl
 . rename_i b i e
   cases decide (i<(Cl next b).length)with
   |true=>simp only[qZ7];rw[U8]
   |false=>rfl
theorem YD(next:List (List Int)):∀(g:Nat) (s:DS),(KK next g s).been.length=s.been.length
 |0,s=>rfl
 |g+1,s=>by
  unfold KK;split
  . rfl
  . rw[YD next g,gX]
theorem LY(next:List (List Int))(been:List Bool):(IP next been).length=been.length:=by
 rw[IP,YD,GM,U8]
theorem FWInv.done{next:List (List Int)}(h:FWInv next tgt q)(hn:q.s.way=[]):q.s=tgt:=by
 have:=h.tgt;rwa[YF hn]at this
def iget(l:List Int)(z:Int):Int:=(l[z.toNat]?).getD 0
def Wc(l:List Int)(z v:Int):List Int:=l.set z.toNat v
def wv(l:List Bool)(z:Int):Bool:=(l[z.toNat]?).getD false
def BV(l:List Int):List (List AV):=l.map fun n=>[AV.int .i64 n]
theorem BF(l:List Int):(BV l).length=l.length:=by simp[BV]
variable {l : List Int}
theorem R2(h:0<=z/\z<l.length):(BV l)[0+z.toNat]?=some [AV.int .i64 (iget l z)]:=by
 grind[Ad,BV,iget]
theorem mS(h:0<=z/\z<l.length):(l.map fun n=>[AV.int .i64 n])[z.toNat]?=some [AV.int .i64 (iget l z)]:=by
 grind[Ad,iget]
theorem ww{l:List Bool}(h:0<=z/\z<l.length):(l.map fun n=>[AV.bool n])[z.toNat]?=some [AV.bool (wv l z)]:=by
 grind[Ad,wv]
theorem UN(l:List Int)(z v:Int):(BV l).set (0+z.toNat) [AV.int .i64 v]=BV (Wc l z v):=by
 rw[qQ8,BV,BV,Wc,List.map_set]
theorem No(n:Nat):List.replicate n [AV.int .i64 0]=BV (List.replicate n 0):=by simp[BV]
theorem PA(l:List Int)(z v:Int):(Wc l z v).length=l.length:=by simp[Wc]
def LH(w:List Int)(k:Int):List Int:=Wc w k (iget w k+1)
theorem PF(w:List Int)(k:Int):(LH w k).length=w.length:=by simp[LH,PA]
theorem Gv:∀(l:List Int) (w:List Int),(l.foldl LH w).length=w.length
 | [],_=>rfl
 |k::r,w=>by rw[q85,Gv r,PF]
def eN(m:Nat)(w:List Int):Prop:=∀v∈w,0<=v/\v<=m
variable {m : Nat} {w : List Int}
theorem UL(h:eN m w)(k:Int):0<=iget w k/\iget w k<=m:=by
 unfold iget
 cases e:w[k.toNat]? with
 |none=>simp
 |some v=>exact h v (q33 e)
theorem io(h:eN m w)(k:Int):eN (m+1) (LH w k):=fun v hv=>by
 have hk:=UL h k;rcases q08 hv with hv|rfl
 . have:=h v hv;omega
 . omega
theorem Mu:∀(l:List Int) {m:Nat} {w:List Int},eN m w->eN (m+l.length) (l.foldl LH w)
 | [],_,_,h=>h
 |k::r,m,w,h=>by
  have:=Mu r (io h k)
  grind
def Cr(next:List (List Int))(reach:List Bool):Nat->List Int
  |0=>List.replicate next.length 0
  |k+1=>bif (reach[k]?).getD false then((next[k]?).getD []).foldl LH (Cr next reach k)else Cr next reach k
theorem C0(next:List (List Int))(reach:List Bool):∀k,(Cr next reach k).length=next.length
 |0=>by simp[Cr]
 |k+1=>by
  unfold Cr
  cases (reach[k]?).getD false with
  |true=>rw[qZ7,Gv,C0 next reach k]
  |false=>exact C0 next reach k
theorem O6{next:List (List Int)}(h2:∀l∈next,l.length<=2)(reach:List Bool):∀k,eN (2*k) (Cr next reach k)
 |0=>fun v hv=>by rw[Cr]at hv;rw[q15 hv];omega
 |k+1=>by
  have ih:=O6 h2 reach k;unfold Cr
  cases (reach[k]?).getD false with
  |false=>exact fun v hv=>by have:=ih v hv;omega
  |true=>
   have hl:((next[k]?).getD []).length<=2:=by
    cases e:next[k]? with
    |none=>simp
    |some l=>exact h2 l (q33 e)
   have:=Mu ((next[k]?).getD []) ih;exact fun v hv=>by have:=this v hv;omega
def Iq(next:List (List Int))(reach:List Bool):List Int:=Cr next reach next.length
def takeOf(next:List (List Int))(reach:List Bool)(i:Nat)(b:Block):Int:=
  bif (reach[i]?).getD false&&(b.fin==1&&(b.to !=0&&(b.to !=(i:Int)&&iget (Iq next reach) b.to==1)))then b.to else -1
def BFunc.takes(f:BFunc)(reach:List Bool):List Int:=f.blocks.zipIdx.map fun p=>takeOf f.nexts reach p.2 p.1
def BFunc.takenAt(f:BFunc)(reach:List Bool):Nat->List Bool
  |0=>List.replicate f.blocks.length false
  |k+1=>match f.blocks[k]? with
    |some b=>bif takeOf f.nexts reach k b== -1 then f.takenAt reach k else(f.takenAt reach k).set b.to.toNat true
    |none=>f.takenAt reach k
theorem Bc(f:BFunc)(reach:List Bool):(f.takes reach).length=f.blocks.length:=by simp[BFunc.takes]
theorem NW{reach:List Bool}(h:f.blocks[k]?=some x):(f.takes reach)[k]?=some (takeOf f.nexts reach k x):=by
 rw[BFunc.takes,q54,BG h];rfl
theorem C3(f:BFunc)(reach:List Bool):∀k,(f.takenAt reach k).length=f.blocks.length
 |0=>by simp[BFunc.takenAt]
 |k+1=>by
  have ih:=C3 f reach k
  grind[BFunc.takenAt,takeOf]
theorem Hy{reach:List Bool}(h:f.blocks[k]?=some x):f.takenAt reach (k+1)=bif takeOf f.nexts reach k x== -1 then f.takenAt reach k else(f.takenAt reach k).set x.to.toNat true:=by
 rw[BFunc.takenAt,h]
def BFunc.leads(f:BFunc):Prop:=∀l∈f.nexts,∀k∈l,0<=k/\k<f.blocks.length
theorem Oq(f:BFunc):∀l∈f.nexts,l.length<=2:=fun l hl=>by
 grind[BFunc.nexts,Block.nexts]
theorem KB(h:f.leads)(hx:f.blocks[k]?=some x)(h1:x.fin=1\/x.fin=2):0<=x.to/\x.to<f.blocks.length:=
 h x.nexts (q33 (C8 hx)) x.to (by rcases h1 with h1|h1<;>simp[Block.nexts,h1])
theorem gn(h:f.leads)(hx:f.blocks[k]?=some x)(h1:x.fin=2):0<=x.els/\x.els<f.blocks.length:=
 h x.nexts (q33 (C8 hx)) x.els (by simp[Block.nexts,h1])
def Ej(takes:List Int):Nat->Int->List Int
  |0,_=>[]
  |g+1,c=>bif iget takes c== -1 then []else iget takes c::Ej takes g (iget takes c)
def ends(takes:List Int):Nat->Int->Bool
  |0,c=>iget takes c== -1
  |g+1,c=>iget takes c== -1||ends takes g (iget takes c)
def BC(takes:List Int)(i:Int):List Int:=i::Ej takes takes.length i
structure FG2 where
  c:Int
  acc:List Int
  g:Nat
structure FInv2(takes:List Int)(tgt:List Int)(q:FG2):Prop where
  c:0<=q.c/\q.c<takes.length
  len:q.acc.length+q.g<=takes.length+1
  fin:ends takes q.g q.c=true
  tgt:q.acc++Ej takes q.g q.c=tgt
theorem FInv2.first{takes:List Int}{i:Int}(hi:0<=i/\i<takes.length)(he:ends takes takes.length i=true):FInv2 takes (BC takes i) ⟨i,[i],takes.length⟩:=⟨hi,by show 1+takes.length<=_;omega,he,rfl⟩
variable {q : FG2} {tgt : List Int}
theorem FInv2.next{takes:List Int}(hin:∀v∈takes,v= -1\/(0<=v/\v<takes.length))(h:FInv2 takes tgt q)(hc:(iget takes q.c != -1)=true):
 FInv2 takes tgt ⟨iget takes q.c,q.acc++[iget takes q.c],q.g-1⟩/\q.g-1<q.g:=by
 have hne:(iget takes q.c== -1)=false:=by simpa[bne]using hc
 obtain⟨v,hv⟩:=Ad (l:=takes) (k:=q.c.toNat) (by have:=h.c;omega);have hi:iget takes q.c=v:=by simp[iget,hv]
 have hlen:=h.len;have hfin:=h.fin;have htgt:=h.tgt;obtain⟨g,hg⟩:∃g,q.g=g+1:=by
  cases e:q.g with
  |zero=>rw[e]at hfin;simp only[ends,hne]at hfin;cases hfin
  |succ g=>exact⟨g,rfl⟩
 rw[hg]at hfin htgt hlen;simp only[ends,Ej,hne,qQ6,qZ3]at hfin htgt;rw[hg];refine⟨⟨?_,?_,hfin,?_⟩,by simp⟩
 . rcases hin v (q33 hv)with e|e
   . rw[hi,e]at hne;simp at hne
   . rw[hi];exact e
 . grind
 . grind
theorem FInv2.done{takes:List Int}(h:FInv2 takes tgt q)(hc:(iget takes q.c != -1)=false):q.acc=tgt:=by
 have hne:(iget takes q.c== -1)=true:=by simpa[bne]using hc
 have htgt:=h.tgt
 cases e:q.g with
 |zero=>rw[e]at htgt;simpa[Ej]using htgt
 |succ g=>rw[e]at htgt;simpa[Ej,hne]using htgt
theorem Kj(h:f.leads)(reach:List Bool):∀v∈f.takes reach,v= -1\/(0<=v/\v<(f.takes reach).length):=fun v hv=>by
 obtain⟨k,hk⟩:=q35 hv;have hlt:k<f.blocks.length:=by rw[<-Bc f reach];exact(q05.1 hk).1
 obtain⟨x,hx⟩:=Ad hlt;rw[NW hx]at hk
 cases hk
 rw[Bc];unfold takeOf
 cases e:(reach[k]?).getD false&&(x.fin==1&&(x.to !=0&&(x.to !=(k:Int)&&iget (Iq f.nexts reach) x.to==1)))with
 |false=>exact .inl rfl
 |true=>
  simp only[q66,qZ4]at e;exact .inr (KB h hx (.inl e.2.1))
def BFunc.headOf(f:BFunc)(k:Nat):Bool:=(f.reach[k]?).getD false&& !((f.takenAt f.reach f.blocks.length)[k]?).getD false
def BFunc.tk(f:BFunc):List Int:=f.takes f.reach
def BFunc.pathsTo(f:BFunc):Nat->List (List Int)
  |0=>[]
  |k+1=>bif f.headOf k then f.pathsTo k++[BC f.tk k]else f.pathsTo k
def BFunc.numsTo(f:BFunc):Nat->List Int
  |0=>List.replicate f.blocks.length 0
  |k+1=>bif f.headOf k then Wc (f.numsTo k) k (f.pathsTo k).length else f.numsTo k
def BFunc.tpaths(f:BFunc):List (List Int):=f.pathsTo f.blocks.length
def BFunc.nums(f:BFunc):List Int:=f.numsTo f.blocks.length
theorem CD(f:BFunc):∀k,(f.numsTo k).length=f.blocks.length
 |0=>by simp[BFunc.numsTo]
 |k+1=>by
  unfold BFunc.numsTo
  cases f.headOf k with
  |true=>rw[qZ7,PA,CD f k]
  |false=>exact CD f k
theorem Ed(f:BFunc):∀k,(f.pathsTo k).length<=k
 |0=>by simp[BFunc.pathsTo]
 |k+1=>by
  have ih:=Ed f k
  grind[BFunc.pathsTo]
def BFunc.blockAt(f:BFunc)(i:Int):Block:=(f.blocks[i.toNat]?).getD ⟨[],0,0,0,0⟩
def A7(p:List Int):Int:=p.getLast?.getD 0
def BFunc.joined(f:BFunc)(p:List Int):List Tac:=p.flatMap fun i=>(f.blockAt i).ins
def BFunc.newBlock(f:BFunc)(p:List Int):Block where
  ins:=f.joined p
  fin:=(f.blockAt (A7 p)).fin
  v:=(f.blockAt (A7 p)).v
  to:=bif (f.blockAt (A7 p)).fin==1||(f.blockAt (A7 p)).fin==2 then iget f.nums (f.blockAt (A7 p)).to else(f.blockAt (A7 p)).to
  els:=bif (f.blockAt (A7 p)).fin==2 then iget f.nums (f.blockAt (A7 p)).els else(f.blockAt (A7 p)).els
def BFunc.tidy(f:BFunc):BFunc:=⟨f.regs,f.tpaths.map f.newBlock⟩
def oJ(n:Nat)(p:List Int):Prop:=p≠[]/\∀i∈p,0<=i/\i<n
theorem NE{takes:List Int}(hin:∀v∈takes,v= -1\/(0<=v/\v<takes.length)):∀(g:Nat) (c:Int),0<=c/\c<takes.length->∀i∈Ej takes g c,0<=i/\i<takes.length
 |0,_,_=>fun i hi=>by cases hi
 |g+1,c,hc=>fun i hi=>by
  unfold Ej at hi
  cases e:iget takes c== -1 with
  |true=>rw[e]at hi;cases hi
  |false=>
   rw[e]at hi;obtain⟨v,hv⟩:=Ad (l:=takes) (k:=c.toNat) Ab;have hv':iget takes c=v:=by simp[iget,hv]
   have hcv:0<=iget takes c/\iget takes c<takes.length:=by
    rcases hin v (q33 hv)with h|h
    . rw[hv',h]at e;simp at e
    . rw[hv'];exact h
   simp only[qZ3,q99]at hi;rcases hi with rfl|hi
   . exact hcv
   . exact NE hin g _ hcv i hi
theorem Ku{f:BFunc}(h:f.leads):∀k,k<=f.blocks.length->∀p∈f.pathsTo k,oJ f.blocks.length p
 |0,_=>fun p hp=>by cases hp
 |k+1,hk=>fun p hp=>by
  unfold BFunc.pathsTo at hp
  cases e:f.headOf k with
  |false=>rw[e]at hp;exact Ku h k Ab p hp
  |true=>
   rw[e]at hp;simp only[qZ7,q78,q47]at hp;rcases hp with hp|rfl
   . exact Ku h k Ab p hp
   . have hl:f.tk.length=f.blocks.length:=Bc f _;refine⟨by simp[BC],fun i hi=>?_⟩;simp only[BC,q99]at hi;rcases hi with rfl|hi
     . omega
     . have:=NE (Kj h f.reach) f.tk.length k (by show(0:Int)<=k/\(k:Int)<f.tk.length;omega) i hi;have hl':((f.takes f.reach).length:Int)=f.blocks.length:=by rw[Bc]
       rw[hl']at this;exact this
structure BFunc.tame(f:BFunc):Prop where
  mild:f.blocks.length<=1000
  ins:∀x∈f.blocks,x.ins.length<=10000
  leads:f.leads
  ends:∀k,f.headOf k=true->ends f.tk f.tk.length k=true
theorem Tc{l:List α}{i:Nat}{x y:α}(h:l[i]?=some x):(l.set i y)[i]?=some y:=by
 grind
def Wh(n:Int):List AV:=[.int .i64 n]
variable {o : Oper} {e : A3} {h : Aj}
variable {x y : Operand} {t : TypeId} {j : AC} {u : Nat}
theorem vC(hT:Dz P T){c:List AV}{i:AC}(ho:o.op=.slice t x (some y) none none)(hx:At e x=some (.lst false (c::es)))(ht:T t=some i)(hk:i.k=.slice u)(hj:T u=some j)
 (hy:At e y=some (.int .i64 1)) (hu:∀cs∈c::es,cs.length=j.size):QLoc P o e h [] (.lst false es):=by
 have:=Ks (h:=h) hT 1 (c::es).length ho hx ht hk hj ⟨.i64,hy⟩ rfl Aq (qZ0 _) hu;rw[q20 (qZ0 _)]at this;exact this
theorem cU(hT:Dz P T){k:IntKind}{i:AC}(ho:o.op=.slice t x none (some y) none)(hx:At e x=some (.lst false es))(ht:T t=some i)(hk:i.k=.slice u)(hj:T u=some j)
 (hy:At e y=some (.int k (m:Int))) (hm:m<=es.length) (hu:∀cs∈es,cs.length=j.size):QLoc P o e h [] (.lst false (es.take m)):=by
 have:=Ks (h:=h) hT 0 m ho hx ht hk hj rfl ⟨k,hy⟩ (qZ1 _) hm hu;rw[q95]at this;exact this
theorem vE(hT:Dz P T){k:IntKind}{i:AC}(ho:o.op=.slice t x (some y) none none)(hx:At e x=some (.lst false es))(ht:T t=some i)(hk:i.k=.slice u)(hj:T u=some j)
 (hy:At e y=some (.int k (m:Int))) (hm:m<=es.length) (hu:∀cs∈es,cs.length=j.size):QLoc P o e h [] (.lst false (es.drop m)):=by
 have:=Ks (h:=h) hT m es.length ho hx ht hk hj ⟨k,hy⟩ rfl hm (qZ0 _) hu;rw[q20 (qZ0 _)]at this;exact this
variable {b : Block} {r : Bool}
theorem NY{next:List (List Int)}{reach:List Bool}{i:Nat}(hr:reach[i]?=some r)(h:(r&&(b.fin==1&&(b.to !=0&&(b.to !=(i:Int)&&iget (Iq next reach) b.to==1))))=false):takeOf next reach i b= -1:=by
 grind[takeOf,iget,Iq]
theorem ZH{next:List (List Int)}{reach:List Bool}{i:Nat}(hr:reach[i]?=some r)(h:(r&&(b.fin==1&&(b.to !=0&&(b.to !=(i:Int)&&iget (Iq next reach) b.to==1))))=true):takeOf next reach i b=b.to:=by
 grind[takeOf,iget,Iq]
theorem kh{reach:List Bool}{x:Block}(hx:f.blocks[k]?=some x)(h:takeOf f.nexts reach k x= -1):f.takenAt reach k=f.takenAt reach (k+1):=by
 rw[Hy hx,h];rfl
theorem fc{reach:List Bool}{x:Block}(hx:f.blocks[k]?=some x)(h:takeOf f.nexts reach k x=x.to)(h0:0<=x.to):((f.takenAt reach k).map Bn).set (0+x.to.toNat) [AV.bool true]=(f.takenAt reach (k+1)).map Bn:=by
 have hne:(x.to== -1)=false:=by simp;omega
 rw[Hy hx,h,hne,qZ3,qQ8,List.map_set];rfl
theorem br{j:Nat}{y:Int}(h:l[j]?=some y)(w:List Int):(l.take (j+1)).foldl LH w=LH ((l.take j).foldl LH w) y:=by
 rw[AT h,List.foldl_append];rfl
theorem eB{next:List (List Int)}{reach:List Bool}(h:reach[k]?=some false):Cr next reach k=Cr next reach (k+1):=by
 simp[Cr,h]
theorem pg{next:List (List Int)}{reach:List Bool}{j:Nat}(h:reach[k]?=some true)(hl:next[k]?=some l)(hj:l.length<=j):(l.take j).foldl LH (Cr next reach k)=Cr next reach (k+1):=by
 simp[Cr,h,hl,q20 hj]
def Yi(f:BFunc)(rest:List Int)(k:Nat):Bool:=(f.joined (rest.take k)).isEmpty
def J3(f:BFunc)(i0:Int)(rest:List Int)(k:Nat):List (List AV):=((f.blockAt i0).ins++f.joined (rest.take k)).map Tac.cells
variable {rest : List Int}
theorem Py{i:Int}(h:rest[k]?=some i):f.joined (rest.take (k+1))=f.joined (rest.take k)++(f.blockAt i).ins:=by
 rw[BFunc.joined,AT h,List.flatMap_append];simp[BFunc.joined]
theorem ud{i0:Int}{i:Int}(h:rest[k]?=some i):((Yi f rest k&&((f.blockAt i).ins.map Tac.cells).isEmpty,J3 f i0 rest k++(f.blockAt i).ins.map Tac.cells):Bool×List (List AV))=(Yi f rest (k+1),J3 f i0 rest (k+1)):=by
 simp only[Yi,J3,Py h,q77,q63];congr 1
 cases f.joined (rest.take k)<;>cases (f.blockAt i).ins<;>rfl
theorem Bp{i:Int}(h:0<=i/\i<f.blocks.length):f.blocks[i.toNat]?=some (f.blockAt i):=by
 grind[Ad,BFunc.blockAt]
theorem Mo{f:BFunc}(hf:∀x∈f.blocks,x.ins.length<=10000):∀(p:List Int),(f.joined p).length<=p.length*10000
 | []=>by simp[BFunc.joined]
 |i::r=>by
  have ih:=Mo hf r
  grind[BFunc.blockAt,List.mem_of_getElem?,BFunc.joined,List.length_append]
theorem Pz(f:BFunc)(i0:Int)(rest:List Int)(k:Nat):(∀cs∈J3 f i0 rest k,cs.length=8)/\∀cs∈J3 f i0 rest k,cs.all AV.isPure1=true:=by
 constructor<;>intro cs h<;>simp only[J3,qX3]at h<;>obtain⟨t,_,rfl⟩:=h<;>rfl
theorem OB(l:List Tac):(∀cs∈l.map Tac.cells,cs.length=8)/\∀cs∈l.map Tac.cells,cs.all AV.isPure1=true:=by
 constructor<;>intro cs h<;>simp only[qX3]at h<;>obtain⟨t,_,rfl⟩:=h<;>rfl
variable {p : List Int}
theorem RV(h:p≠[]):p[p.length-1]?=some (A7 p):=by
 rw[<-List.getLast?_eq_getElem?,A7,List.getLast?_eq_some_getLast h];rfl
theorem Jg(h:p≠[]):A7 p∈p:=q33 (RV h)
theorem ND(takes:List Int):∀(g:Nat) (c:Int),(Ej takes g c).length<=g
 |0,_=>by simp[Ej]
 |g+1,c=>by
  unfold Ej
  cases iget takes c== -1 with
  |true=>simp
  |false=>simp only[qZ3,q70];have:=ND takes g (iget takes c);omega
theorem FT{f:BFunc}:∀(k:Nat),∀p∈f.pathsTo k,p.length<=f.blocks.length+1
 |0=>fun p hp=>by cases hp
 |k+1=>fun p hp=>by
  unfold BFunc.pathsTo at hp
  cases e:f.headOf k with
  |false=>rw[e]at hp;exact FT k p hp
  |true=>
   rw[e]at hp;simp only[qZ7,q78,q47]at hp;rcases hp with hp|rfl
   . exact FT k p hp
   . have:=ND f.tk f.tk.length k;have hl:f.tk.length=f.blocks.length:=Bc f _;simp only[BC,q70];omega
theorem FSq(h:f.headOf k=true):f.pathsTo (k+1)=f.pathsTo k++[BC f.tk k]:=by simp[BFunc.pathsTo,h]
theorem H4(h:f.headOf k=false):f.pathsTo (k+1)=f.pathsTo k:=by simp[BFunc.pathsTo,h]
theorem Rq(h:f.headOf k=true):f.numsTo (k+1)=Wc (f.numsTo k) k (f.pathsTo k).length:=by simp[BFunc.numsTo,h]
theorem Ul(h:f.headOf k=false):f.numsTo (k+1)=f.numsTo k:=by simp[BFunc.numsTo,h]
theorem US{t:Bool}(hr:f.reach[k]?=some r)(ht:(f.takenAt f.reach f.blocks.length)[k]?=some t):f.headOf k=(r&& !t):=by simp[BFunc.headOf,hr,ht]
theorem M4(f:BFunc):f.reach.length=f.blocks.length:=by rw[BFunc.reach,LY];simp[BFunc.nexts]
def Mg(f:BFunc)(p:List Int)(j:Nat):Bool:=(f.blockAt (iget p j)).fin==1&&(f.blockAt (iget p j)).to==iget p ((j+1:Nat):Int)
def G8(f:BFunc)(p:List Int):Bool:=(List.range (p.length-1)).all (Mg f p)
def GE(f:BFunc):List Tac->List Int->Bool
  |rest,[]=>rest.isEmpty
  |rest,i::r=>decide ((f.blockAt i).ins.length<=rest.length)&&(decide (rest.take (f.blockAt i).ins.length=(f.blockAt i).ins)&&GE f (rest.drop (f.blockAt i).ins.length) r)
def E6(p:List Int):Int:=p.head?.getD 0
def DM(paths:List (List Int))(k:Int):List Int:=(paths[k.toNat]?).getD []
def Ew(paths:List (List Int))(k i:Int):Bool:=decide (k>=0)&&(decide (k<paths.length)&&E6 (DM paths k)==i)
def JG(last b:Block)(paths:List (List Int)):Bool:=bif b.fin==1||b.fin==2 then Ew paths b.to last.to else b.to==last.to
def JI(last b:Block)(paths:List (List Int)):Bool:=bif b.fin==2 then Ew paths b.els last.els else b.els==last.els
def Hl(last b:Block)(paths:List (List Int)):Bool:= !(b.fin !=last.fin)&&(!(b.v !=last.v)&&(JG last b paths&&JI last b paths))
def Gi(n:Nat)(p:List Int):Bool:= !(p.length==0)&&p.all (fun i=> !(decide (i<0))&& !(decide (i>=n)))
def I1(old new:BFunc)(paths:List (List Int))(q:List Int×Nat):Bool:=G8 old q.1&&(GE old (new.blockAt q.2).ins q.1&&Hl (old.blockAt (A7 q.1)) (new.blockAt q.2) paths)
def DE(old new:BFunc)(paths:List (List Int)):Bool:=
  !(paths.length==0)&&(!(paths.length !=new.blocks.length)&&(!(old.regs !=new.regs)&&(paths.all (Gi old.blocks.length)&&(!(E6 (DM paths 0) !=0)&&paths.zipIdx.all (I1 old new paths)))))
theorem FN(h:Gi n p=true):oJ n p:=by
 grind[Gi,List.all_eq_true,oJ]
theorem K6(h:k<n):(List.range n)[k]?=some k:=by simp[h]
theorem Lp(h:p≠[]):p[0]?=some (E6 p):=by
 cases p with
 |nil=>exact absurd rfl h
 |cons x r=>rfl
variable {paths : List (List Int)}
theorem I9{k:Int}(h:0<=k/\k<paths.length):paths[k.toNat]?=some (DM paths k):=by
 grind[Ad,DM]
theorem Nr{y:Int}(h:p[k]?=some y):iget p k=y:=by simp[iget,h]
structure MG where
  k:Nat
  rest:List Tac
theorem aJ{rest:List Tac}{i:Int}(h:p[k]?=some i):GE f rest (p.drop k)=(decide ((f.blockAt i).ins.length<=rest.length)&&(decide (rest.take (f.blockAt i).ins.length=(f.blockAt i).ins)&&GE f (rest.drop (f.blockAt i).ins.length) (p.drop (k+1)))):=by
 obtain⟨h1,h2⟩:=q05.1 h;rw[q07 h1,h2];rfl
variable {l : List Tac}
theorem fe:(l.map Tac.cells).take n=(l.take n).map Tac.cells:=by rw[List.map_take]
theorem ff:(l.map Tac.cells).drop n=(l.drop n).map Tac.cells:=by rw[List.map_drop]
theorem bp{old new:BFunc}(h:¬(paths.length≠0/\paths.length=new.blocks.length/\old.regs=new.regs)):DE old new paths=false:=by
 grind[DE]
theorem Sw{old new:BFunc}(h:paths.all (Gi old.blocks.length)=false):DE old new paths=false:=by
 grind[DE,Gi]
theorem bo{old new:BFunc}(h:(E6 (DM paths 0) !=0)=true):DE old new paths=false:=by
 grind[DE,E6,DM]
theorem Su{old new:BFunc}(h:paths.zipIdx.all (I1 old new paths)=false):DE old new paths=false:=by
 grind[DE,I1]
theorem bn{old new:BFunc}(h1:paths.length≠0)(h2:paths.length=new.blocks.length)(h3:old.regs=new.regs)(h4:paths.all (Gi old.blocks.length)=true)(h5:(E6 (DM paths 0) !=0)=false)(h6:paths.zipIdx.all (I1 old new paths)=true):DE old new paths=true:=by
 grind[DE,Gi,E6,DM,I1]
theorem TO(h8:j.size=8):∀cs∈l.map Tac.cells,cs.length=j.size:=fun cs h=>by
 rw[h8];exact(OB l).1 cs h
theorem lz(hT:Dz P T){k:IntKind}{i:AC}(ho:o.op=.slice t x none (some y) none)(hx:At e x=some (CU l))(ht:T t=some i)(hk:i.k=.slice u)(hj:T u=some j/\j.size=8)
 (hy:At e y=some (.int k z)) (hz:z=(m:Int)) (hm:m<=l.length):QLoc P o e h [] (CU (l.take m)):=by
 subst hz;have:=cU (h:=h) hT ho hx ht hk hj.1 hy (by simpa using hm) (TO hj.2);rwa[fe]at this
theorem pW(hT:Dz P T){k:IntKind}{i:AC}(ho:o.op=.slice t x (some y) none none)(hx:At e x=some (CU l))(ht:T t=some i)(hk:i.k=.slice u)(hj:T u=some j/\j.size=8)
 (hy:At e y=some (.int k z)) (hz:z=(m:Int)) (hm:m<=l.length):QLoc P o e h [] (CU (l.drop m)):=by
 subst hz;have:=vE (h:=h) hT ho hx ht hk hj.1 hy (by simpa using hm) (TO hj.2);rwa[ff]at this
theorem SU{f:FuncId}{a b:AV}{R:AV->Prop}(h:APure P f [a,b,.lst false []] R):APure P f [a,b,.nil] R:=fun H w vs hra hk=>
 h H w vs ⟨by simpa using hra.1,fun j x v h1 h2=>by
  cases j with
  |zero=>exact hra.2 0 x v h1 h2
  |succ j=>cases j with
   |zero=>exact hra.2 1 x v h1 h2
   |succ j=>cases j with
    |zero=>simp at h1;subst h1;exact Ur (hra.2 2 .nil v Aq h2)
    |succ j=>simp at h1⟩ hk
theorem Je(f:BFunc):∀(p:List Int) (l:List Tac),GE f l p=decide (l=f.joined p)
 | [],l=>by cases l<;>simp[GE,BFunc.joined]
 |i::r,l=>by
  have e:f.joined (i::r)=(f.blockAt i).ins++f.joined r:=by simp[BFunc.joined]
  rw[GE,Je f r,e]
  by_cases h:l=(f.blockAt i).ins++f.joined r
  . subst h
    simp
  . rw[q89 h]
    by_cases h1:(f.blockAt i).ins.length<=l.length
    . by_cases h2:l.take (f.blockAt i).ins.length=(f.blockAt i).ins
      . by_cases h3:l.drop (f.blockAt i).ins.length=f.joined r
        . exact absurd (by rw[<-h3];conv=>lhs;rw[<-q32 (f.blockAt i).ins.length l,h2]) h
        . simp[h3]
      . simp[h2]
    . simp[h1]
def S8(old:BFunc)(b:Block)(paths:List (List Int))(p:List Int):Bool:=G8 old p&&(GE old b.ins p&&Hl (old.blockAt (A7 p)) b paths)
theorem TS(old new:BFunc)(paths:List (List Int))(p:List Int)(k:Nat):I1 old new paths (p,k)=S8 old (new.blockAt k) paths p:=rfl
theorem Nn{i:Int}(h:p[k]?=some i):f.joined p=f.joined (p.take k)++((f.blockAt i).ins++f.joined (p.drop (k+1))):=by
 have hp:p=p.take k++(i::p.drop (k+1)):=by
  obtain⟨h1,h2⟩:=q05.1 h;conv=>lhs;rw[<-q32 k p,q07 h1,h2]
 conv=>lhs;rw[hp]
 simp[BFunc.joined]
variable {j : Nat}
theorem fZ{b:List Tac}{i:Int}(h:p[k]?=some i)(hj:j<(f.blockAt i).ins.length)(hl:b.length<=(f.joined (p.take k)).length+j):GE f b p=false:=by
 rw[Je,q16];intro e;rw[e,Nn h,q48,q48]at hl;omega
variable {u : Tac}
theorem fY{b:List Tac}{i:Int}{v:Tac}(h:p[k]?=some i)(hj:(f.blockAt i).ins[j]?=some u)(hb:b[(f.joined (p.take k)).length+j]?=some v)(hne:v≠u):GE f b p=false:=by
 rw[Je,q16];intro e;have hlt:=(q05.1 hj).1;rw[e,Nn h,q02 Ab,Nat.add_sub_cancel_left,q06 hlt,hj]at hb
 cases hb
 exact hne rfl
theorem Ol{old:BFunc}(h:GE old b.ins p=false):S8 old b paths p=false:=by simp[S8,h]
theorem aw{old:BFunc}(h:G8 old p=false):S8 old b paths p=false:=by simp[S8,h]
theorem XO{old:BFunc}(h:G8 old p=true)(h2:GE old b.ins p=true):S8 old b paths p=Hl (old.blockAt (A7 p)) b paths:=by simp[S8,h,h2]
theorem aA(h:((List.range (p.length-1)).take k).all (Mg f p)=true)(hk:k<p.length-1->Mg f p k=true):((List.range (p.length-1)).take (k+1)).all (Mg f p)=true:=by
 by_cases h1:k<p.length-1
 . exact Cv (K6 h1) h (hk h1)
 . rw[q20 Em]at h|-;exact h
variable {b : List Tac}
theorem fd{i:Int}(h:b.take ((f.joined (p.take k)).length+j)=f.joined (p.take k)++(f.blockAt i).ins.take j)(hj:(f.blockAt i).ins[j]?=some u)(hb:b[(f.joined (p.take k)).length+j]?=some u):
 b.take ((f.joined (p.take k)).length+(j+1))=f.joined (p.take k)++(f.blockAt i).ins.take (j+1):=by
 rw[<-qQ3,AT hb,AT hj,h,q63]
theorem ZG{i:Int}(hk:p[k]?=some i)(h:b.take ((f.joined (p.take k)).length+j)=f.joined (p.take k)++(f.blockAt i).ins.take j)(hj:j=(f.blockAt i).ins.length):
 (f.joined (p.take k)).length+j=(f.joined (p.take (k+1))).length/\b.take (f.joined (p.take (k+1))).length=f.joined (p.take (k+1)):=by
 have e:=Py (f:=f) hk;have e2:(f.joined (p.take k)).length+j=(f.joined (p.take (k+1))).length:=by rw[e,q48,hj]
 refine⟨e2,?_⟩;rw[<-e2,h,e,hj,q20 (qZ0 _)]
theorem mD(h:b.take (f.joined p).length=f.joined p):GE f b p=((f.joined p).length==b.length):=by
 rw[Je]
 by_cases e:(f.joined p).length=b.length
 . rw[q20 Ab]at h;simp[h]
 . rw[q89 (fun h2=>e (by rw[h2]))];simp[e]
theorem gk(h:b.take (f.joined p).length=f.joined p):GE f b p= !((((f.joined p).length:Nat):Int) !=(((b.map Tac.cells).length:Nat):Int)):=by
 rw[mD h,q76]
 by_cases e:(f.joined p).length=b.length
 . simp[e]
 . have e2:¬(((f.joined p).length:Nat):Int)=((b.length:Nat):Int):=by omega
   have h1:((f.joined p).length==b.length)=false:=by simpa using e
   have h2:((((f.joined p).length:Nat):Int) !=((b.length:Nat):Int))=true:=by simpa using e2
   rw[h1,h2];rfl
def fol(f:BFunc):List Int->Prop
  |i::j::r=>(f.blockAt i).fin=1/\(f.blockAt i).to=j/\fol f (j::r)
  |_=>True
theorem Lo(i:Int)(r:List Int)(k:Nat):iget (i::r) ((k+1:Nat):Int)=iget r (k:Int):=by simp[iget]
theorem ng(f:BFunc):∀(p:List Int),(∀k,k<p.length-1->Mg f p k=true)↔fol f p
 | []=>by simp[fol]
 | [i]=>by simp[fol]
 |i::j::r=>by
  have ih:=ng f (j::r);unfold fol;rw[<-ih];constructor
  . intro h;have h0:=h 0 Aq;simp only[Mg,q66,qZ4]at h0;have e0:iget (i::j::r) ((0:Nat):Int)=i:=by simp[iget]
    have e1:iget (i::j::r) ((0+1:Nat):Int)=j:=by simp[iget]
    rw[e0,e1]at h0;refine⟨h0.1,h0.2,fun k hk=>?_⟩;have h1:=h (k+1) (by simp at hk|-;omega);simp only[Mg]at h1|-;rwa[Lo,Lo]at h1
  . rintro⟨h1,h2,h3⟩ k hk
    cases k with
    |zero=>
     have e0:iget (i::j::r) ((0:Nat):Int)=i:=by simp[iget]
     have e1:iget (i::j::r) ((0+1:Nat):Int)=j:=by simp[iget]
     simp only[Mg,e0,e1,h1,h2];simp
    |succ k=>
     have:=h3 k (by simp at hk|-;omega);simp only[Mg]at this|-;rwa[Lo,Lo]
theorem Nu(f:BFunc)(p:List Int):G8 f p=true↔fol f p:=by
 rw[<-ng,G8,q67]
 simp
structure YZ(old new:BFunc)(paths:List (List Int)):Prop where
  ne:paths.length≠0
  len:paths.length=new.blocks.length
  regs:old.regs=new.regs
  all:∀p∈paths,oJ old.blocks.length p
  head:E6 (DM paths 0)=0
  fol:∀(k:Nat) (p:List Int),paths[k]?=some p->fol old p
  ins:∀(k:Nat) (p:List Int),paths[k]?=some p->(new.blockAt k).ins=old.joined p
  leads:∀(k:Nat) (p:List Int),paths[k]?=some p->Hl (old.blockAt (A7 p)) (new.blockAt k) paths=true
theorem aS(h:oJ n p):Gi n p=true:=by
 simp only[Gi,q66,q61,q67,q16,q40];exact⟨fun e=>h.1 (q18.1 e),fun i hi=>by have:=h.2 i hi;omega⟩
theorem check_iff{old new:BFunc}:DE old new paths=true↔YZ old new paths:=by
 simp only[DE,q66,q61,q40,bne_eq_false_iff_eq,q67];constructor
 . rintro⟨h1,h2,h3,h4,h5,h6⟩
   have key:∀(k:Nat) (p:List Int),paths[k]?=some p->I1 old new paths (p,k)=true:=fun k p hp=>h6 (p,k) (q33 (BG hp))
   refine⟨h1,h2,h3,fun p hp=>FN (h4 p hp),h5,fun k p hp=>?_,fun k p hp=>?_,fun k p hp=>?_⟩;all_goals
    have:=key k p hp;simp only[I1,q66]at this
   . exact(Nu _ _).1 this.1
   . have h:=this.2.1;rw[Je]at h;simpa using h
   . exact this.2.2
 . intro h;refine⟨h.ne,h.len,h.regs,fun p hp=>aS (h.all p hp),h.head,fun q hq=>?_⟩;obtain⟨p,k⟩:=q;obtain⟨i,hi⟩:=q35 hq;have hlt:i<paths.length:=by
    have:=(q05.1 hi).1;simpa using this
   obtain⟨x,hx⟩:=Ad hlt;rw[BG hx]at hi
   cases hi
   simp only[I1,q66];refine⟨(Nu _ _).2 (h.fol _ _ hx),?_,h.leads _ _ hx⟩;rw[Je];simpa using h.ins _ _ hx
variable {A B C : BFunc} {P Q : List (List Int)}
variable {b last : Block}
theorem Pw(h:Hl last b paths=true):b.fin=last.fin/\b.v=last.v/\(b.fin=1\/b.fin=2->Ew paths b.to last.to=true)/\(¬(b.fin=1\/b.fin=2)->b.to=last.to)/\(b.fin=2->Ew paths b.els last.els=true)/\(b.fin≠2->b.els=last.els):=by
 simp only[Hl,q66,q61,bne_eq_false_iff_eq]at h;obtain⟨h1,h2,h3,h4⟩:=h;refine⟨h1,h2,fun e=>?_,fun e=>?_,fun e=>?_,fun e=>?_⟩
 . have:(b.fin==1||b.fin==2)=true:=by rcases e with e|e<;>simp[e]
   simpa only[JG,this,qZ7]using h3
 . have:(b.fin==1||b.fin==2)=false:=by simp at e|-;exact e
   simpa[JG,this]using h3
 . simpa[JI,e]using h4
 . have:(b.fin==2)=false:=by simpa using e
   simpa[JI,this]using h4
theorem gq(h1:b.fin=last.fin)(h2:b.v=last.v)(h3:b.fin=1\/b.fin=2->Ew paths b.to last.to=true)(h4:¬(b.fin=1\/b.fin=2)->b.to=last.to)(h5:b.fin=2->Ew paths b.els last.els=true)(h6:b.fin≠2->b.els=last.els):Hl last b paths=true:=by
 simp only[Hl,q66,q61,bne_eq_false_iff_eq];refine⟨h1,h2,?_,?_⟩
 . unfold JG
   cases e:b.fin==1||b.fin==2 with
   |true=>exact h3 Mz
   |false=>simp only[qZ3,qZ4];exact h4 Mz
 . unfold JI
   cases e:b.fin==2 with
   |true=>exact h5 Mz
   |false=>simp only[qZ3,qZ4];exact h6 Mz
theorem Gx{k i:Int}(h:Ew paths k i=true):0<=k/\k<paths.length/\E6 (DM paths k)=i:=by
 simp only[Ew,q66,q56,qZ4]at h;exact⟨h.1,h.2.1,h.2.2⟩
theorem bv{k i:Int}(h1:0<=k)(h2:k<paths.length)(h3:E6 (DM paths k)=i):Ew paths k i=true:=by
 simp only[Ew,q66,q56,qZ4];exact⟨h1,h2,h3⟩
section
variable {call call' : Int -> Mach -> Mach} {s : ByteArray} {fuel : Int}
variable {ok : Int -> Prop} {old new : BFunc}
end
theorem Yz{x:Block}{n r:Int}(h:x.ends n r=true):x.fin=1\/x.fin=2\/x.fin=3:=by
 grind[Block.ends]
theorem RF{f:BFunc}{p:List Int}{t:Tac}(h:t∈f.joined p):∃i∈p,t∈(f.blockAt i).ins:=by
 grind[BFunc.joined]
theorem p7{old new:BFunc}{paths:List (List Int)}(hH:YZ old new paths){n w:Int}(h:old.one n w=true):new.one n w=true:=by
 obtain⟨h1,h2,h3,h4⟩:=CR h;have hb:new.blocks.length≠0:=by rw[<-hH.len];exact hH.ne
 rw[Iw (by rw[<-hH.regs];exact h1) (by rw[<-hH.regs];exact h2) hb,q67];intro x hx;obtain⟨k,hk⟩:=q35 hx;have hkl:k<paths.length:=by rw[hH.len];exact(q05.1 hk).1
 obtain⟨p,hp⟩:=Ad hkl;have hxk:new.blockAt k=x:=by
  have:=Bp (f:=new) (i:=k) (by rw[<-hH.len];omega);rw[q55,hk]at this;exact(q86 this).symm
 have hin:=hH.all p (q33 hp);have hins:=hH.ins k p hp;have hle:=hH.leads k p hp;rw[hxk]at hins hle;have hlast:=hin.2 _ (Jg hin.1);have hold:=(h4 _ (q33 (Bp hlast))).1;obtain⟨l1,l2,l3,l4,l5,l6⟩:=Pw hle;have hlen:(new.blocks.length:Int)=paths.length:=by rw[hH.len]
 simp only[Block.ok,q66,q67];refine⟨?_,fun t ht=>?_⟩
 . rw[hlen,<-hH.regs];have hfin:=Yz hold;unfold Block.ends at hold|-;rw[<-l1]at hold hfin;rcases hfin with e|e|e
   . have bt:=Gx (l3 (.inl e));have e6:=l6 (by rw[e];decide);simp[e,A2]at hold|-;rw[l2,e6];exact⟨⟨bt.1,bt.2.1⟩,hold.2⟩
   . have bt:=Gx (l3 (.inr e));have be:=Gx (l5 e);simp[e,A2]at hold|-;rw[l2];exact⟨⟨bt.1,bt.2.1⟩,⟨be.1,be.2.1⟩,hold.2.2⟩
   . have e4:=l4 (by rw[e];decide);have e6:=l6 (by rw[e];decide);simp[e]at hold|-;rw[l2,e4,e6];exact hold
 . rw[hins]at ht;obtain⟨i,hi,hti⟩:=RF ht;rw[<-hH.regs];exact(h4 _ (q33 (Bp (hin.2 i hi)))).2 t hti
def Mach.tick(m:Mach):Mach:={m with steps:=m.steps+1}
def kblk(call:Int->Mach->Mach)(s:ByteArray)(f:BFunc):Nat->Int->List Int->Mach->Mach
  |0,_,_,m=>{m with fin:=5}
  |g+1,i,regs,m=>
    match f.blocks[i.toNat]? with
    |none=>m
    |some k=>bif (BT call s k.ins regs m.tick).1&& !(k.fin==3)then kblk call s f g (k.next (BT call s k.ins regs m.tick).2.1) (BT call s k.ins regs m.tick).2.1 (BT call s k.ins regs m.tick).2.2 else(BT call s k.ins regs m.tick).2.2
section
variable {call call' : Int -> Mach -> Mach} {s : ByteArray} {ok : Int -> Prop}
variable {old new : BFunc} {c : Cert}
theorem qt{f:BFunc}{k:Block}{i:Int}(hk:f.blocks[i.toNat]?=some k)(g:Nat)(regs:List Int)(m:Mach):kblk call s f (g+1) i regs m=
 bif (BT call s k.ins regs m.tick).1&& !(k.fin==3)then kblk call s f g (k.next (BT call s k.ins regs m.tick).2.1) (BT call s k.ins regs m.tick).2.1 (BT call s k.ins regs m.tick).2.2 else(BT call s k.ins regs m.tick).2.2:=by
 rw[kblk,hk]
end
def oI:Int->Prop:=fun _=>True
theorem Mach.Le.tick{x y:Mach}(h:x.Le y):x.tick.Le y.tick:=⟨h.words,h.out,h.read,h.fin,Nat.succ_le_succ h.steps⟩
theorem Mach.Le.late{x y:Mach}(h:x.Le y):x.tick.Le y:=⟨h.words,h.out,h.read,h.fin,Nat.le_succ_of_le h.steps⟩
variable {call call' : Int -> Mach -> Mach} {s : ByteArray}
theorem Nm(hc:E9 call call' oI):∀(l:List Tac) (regs:List Int) {m m':Mach},m.fin=0->m.Le m'->vT (BT call s l regs m) (BT call' s l regs m')
 | [],regs,m,m',h0,h=>.inr ⟨rfl,rfl,h,fun _=>h0,fun e=>by cases e⟩
 |t::r,regs,m,m',h0,h=>by
  unfold BT;obtain⟨b1,b2⟩:=XY (s:=s) hc t (fun _=>trivial) regs h0 h;rcases b2 with b2|b2
  . rw[show((Bb call s t regs m).2.fin==0)=false by rw[b2];rfl];exact .inl ⟨rfl,b2⟩
  . rw[b2.fin,<-b1]
    cases hf:(Bb call s t regs m).2.fin==0 with
    |false=>
     simp only[qZ3];exact .inr ⟨rfl,b1,b2,Ti,fun _=>by simpa using hf⟩
    |true=>
     simp only[qZ7];exact Nm hc r _ (by simpa using hf) b2
theorem Iy:∀(l1 l2:List Tac) (regs:List Int) (m:Mach),BT call s (l1++l2) regs m=bif (BT call s l1 regs m).1 then BT call s l2 (BT call s l1 regs m).2.1 (BT call s l1 regs m).2.2 else BT call s l1 regs m
 | [],l2,regs,m=>rfl
 |t::r,l2,regs,m=>by
  simp only[q73,BT]
  cases (Bb call s t regs m).2.fin==0 with
  |false=>rfl
  |true=>exact Iy r l2 _ _
def Hp(call:Int->Mach->Mach)(s:ByteArray)(f:BFunc)(k:Block)(g:Nat)(regs:List Int)(m:Mach):Mach:=
  bif k.fin==3 then m else kblk call s f g (k.next regs) regs m
variable {f : BFunc}
theorem Gn{i:Int}{k:Block}(hk:f.blocks[i.toNat]?=some k)(g:Nat)(regs:List Int)(m:Mach):kblk call s f (g+1) i regs m=
 bif (BT call s k.ins regs m.tick).1 then Hp call s f k g (BT call s k.ins regs m.tick).2.1 (BT call s k.ins regs m.tick).2.2 else(BT call s k.ins regs m.tick).2.2:=by
 rw[qt hk,Hp]
 cases (BT call s k.ins regs m.tick).1<;>cases k.fin==3<;>rfl
theorem Oy{i:Int}(hi:0<=i/\i<f.blocks.length)(g:Nat)(regs:List Int)(m:Mach):kblk call s f (g+1) i regs m=
 bif (BT call s (f.blockAt i).ins regs m.tick).1 then Hp call s f (f.blockAt i) g (BT call s (f.blockAt i).ins regs m.tick).2.1 (BT call s (f.blockAt i).ins regs m.tick).2.2 else(BT call s (f.blockAt i).ins regs m.tick).2.2:=
 Gn (Bp hi) g regs m
theorem Ln(hc:E9 call call' oI){f:BFunc}:∀(g:Nat) (i:Int) (regs:List Int) {m m':Mach},m.fin=0->m.Le m'->(kblk call s f g i regs m).Sim (kblk call' s f g i regs m')
 |0,_,_,_,_,_,_=>.inl rfl
 |g+1,i,regs,m,m',h0,h=>by
  cases hk:f.blocks[i.toNat]? with
  |none=>unfold kblk;rw[hk];exact .inr h
  |some k=>
   rw[Gn hk,Gn hk];have hs:=Nm (s:=s) hc k.ins regs (m:=m.tick) (m':=m'.tick) h0 h.tick;generalize BT call s k.ins regs m.tick=X at hs|-;generalize BT call' s k.ins regs m'.tick=Y at hs|-;obtain⟨X1,X2,X3⟩:=X;obtain⟨Y1,Y2,Y3⟩:=Y;rcases hs with⟨h1,h2⟩|⟨h1,h2,h3,h4,h5⟩
   . simp only at h1 h2;subst h1;exact .inl h2
   . simp only at h1 h2 h3 h4 h5;subst h1;subst h2
     cases X1 with
     |false=>exact .inr h3
     |true=>
      simp only[qZ7];unfold Hp
      cases hfin:k.fin==3 with
      |true=>exact .inr h3
      |false=>exact Ln hc g _ _ (h4 rfl) h3
variable {old new : BFunc}
theorem UD(hc:E9 call call' oI):
 ∀(p:List Int),p≠[]->(∀i∈p,0<=i/\i<old.blocks.length)->fol old p->∀(g:Nat) (regs:List Int) (m m':Mach),m.fin=0->m.tick.Le m'->
  (kblk call s old g (E6 p) regs m).fin=5\/
  ((BT call' s (old.joined p) regs m').1=false/\(kblk call s old g (E6 p) regs m).Le (BT call' s (old.joined p) regs m').2.2)\/
  ((BT call' s (old.joined p) regs m').1=true/\∃m2 g2,m2.Le (BT call' s (old.joined p) regs m').2.2/\m2.fin=0/\g2<g/\
   kblk call s old g (E6 p) regs m=Hp call s old (old.blockAt (A7 p)) g2 (BT call' s (old.joined p) regs m').2.1 m2)
 | [],h,_,_,_,_,_,_,_,_=>absurd rfl h
 |_,_,_,_,0,_,_,_,_,_=>.inl rfl
 | [i],_,hin,_,g1+1,regs,m,m',h0,h=>by
  have hi:=hin i Aq;have e:old.joined [i]=(old.blockAt i).ins:=by simp[BFunc.joined]
  have hs:=Nm (s:=s) hc (old.blockAt i).ins regs (m:=m.tick) h0 h;rw[e,show E6 [i]=i from rfl,show A7 [i]=i from rfl,Oy hi];generalize BT call s (old.blockAt i).ins regs m.tick=X at hs|-;generalize BT call' s (old.blockAt i).ins regs m'=Y at hs|-;obtain⟨X1,X2,X3⟩:=X;obtain⟨Y1,Y2,Y3⟩:=Y;rcases hs with⟨h1,h2⟩|⟨h1,h2,h3,h4,h5⟩
  . simp only at h1 h2;subst h1;exact .inl h2
  . simp only at h1 h2 h3 h4 h5;subst h1;subst h2
    cases X1 with
    |false=>exact .inr (.inl ⟨rfl,h3⟩)
    |true=>exact .inr (.inr ⟨rfl,X3,g1,h3,h4 rfl,Nat.lt_succ_self _,rfl⟩)
 |i::j::r,_,hin,hfo,g1+1,regs,m,m',h0,h=>by
  have hi:=hin i Aq;have e:old.joined (i::j::r)=(old.blockAt i).ins++old.joined (j::r):=by simp[BFunc.joined]
  have hs:=Nm (s:=s) hc (old.blockAt i).ins regs (m:=m.tick) h0 h;have hl:A7 (i::j::r)=A7 (j::r):=by simp[A7]
  rw[e,show E6 (i::j::r)=i from rfl,hl,Oy hi,Iy];generalize BT call s (old.blockAt i).ins regs m.tick=X at hs|-;generalize BT call' s (old.blockAt i).ins regs m'=Y at hs|-;obtain⟨X1,X2,X3⟩:=X;obtain⟨Y1,Y2,Y3⟩:=Y;rcases hs with⟨h1,h2⟩|⟨h1,h2,h3,h4,h5⟩
  . simp only at h1 h2;subst h1;exact .inl h2
  . simp only at h1 h2 h3 h4 h5;subst h1;subst h2
    cases X1 with
    |false=>exact .inr (.inl ⟨rfl,h3⟩)
    |true=>
     simp only[qZ7];have hx0:=h4 rfl;have hn3:((old.blockAt i).fin==3)=false:=by rw[hfo.1];rfl
     have hnx:(old.blockAt i).next X2=j:=by simp[Block.next,hfo.1,hfo.2.1]
     have ec:Hp call s old (old.blockAt i) g1 X2 X3=kblk call s old g1 j X2 X3:=by rw[Hp,hn3,hnx];rfl
     have ih:=UD hc (j::r) Aq (fun x hx=>hin x (by simp at hx|-;exact .inr hx)) hfo.2.2 g1 X2 X3 Y3 hx0 h3.late;rw[show E6 (j::r)=j from rfl]at ih;rw[ec];rcases ih with ih|ih|⟨ih1,m2,g2,q1,q2,q4,q5⟩
     . exact .inl ih
     . exact .inr (.inl ih)
     . exact .inr (.inr ⟨ih1,m2,g2,q1,q2,by omega,q5⟩)
theorem UC{paths:List (List Int)}(hH:YZ old new paths)(hend:∀x∈old.blocks,x.fin=1\/x.fin=2\/x.fin=3)(hc:E9 call call' oI):
 ∀(n g:Nat),g<=n->∀(g':Nat) (k:Int) (regs:List Int) (m m':Mach),m.fin=0->m.Le m'->g<=g'->0<=k/\k<paths.length->
  (kblk call s old g (E6 (DM paths k)) regs m).Sim (kblk call' s new g' k regs m')
 |n,0,_,_,_,_,_,_,_,_,_,_=>.inl rfl
 |0,g+1,hgn,_,_,_,_,_,_,_,_,_=>absurd hgn Ab
 |n+1,g+1,hgn,g',k,regs,m,m',h0,h,hg,hk=>by
  obtain⟨g1',rfl⟩:∃g1,g'=g1+1:=⟨g'-1,by omega⟩
  have hpk:=I9 hk;have ek:((k.toNat:Nat):Int)=k:=q41 hk.1;have hin:=hH.all _ (q33 hpk);have hins:=hH.ins _ _ hpk;have hle:=hH.leads _ _ hpk;rw[ek]at hins hle;have hkn:0<=k/\k<new.blocks.length:=by rw[<-hH.len];exact hk
  have ps:=UD (call:=call) (call':=call') (s:=s) hc (DM paths k) hin.1 hin.2 (hH.fol _ _ hpk) (g+1) regs m m'.tick h0 h.tick;rw[Oy hkn,hins];generalize BT call' s (old.joined (DM paths k)) regs m'.tick=Y at ps|-;generalize hX:kblk call s old (g+1) (E6 (DM paths k)) regs m=X at ps|-;obtain⟨Y1,Y2,Y3⟩:=Y;rcases ps with ps|⟨p1,p2⟩|⟨p1,m2,g2,q1,q2,q4,q5⟩
  . exact .inl ps
  . simp only at p1;subst p1;exact .inr p2
  . simp only at p1 q1 q5;subst p1;simp only[qZ7];rw[q5];unfold Hp;obtain⟨l1,l2,l3,l4,l5,l6⟩:=Pw hle;have hlast:=hin.2 _ (Jg hin.1);have hfin:=hend _ (q33 (Bp hlast));rw[l1]
    cases h3:(old.blockAt (A7 (DM paths k))).fin==3 with
    |true=>exact .inr q1
    |false=>
     simp only[qZ3];have h12:(new.blockAt k).fin=1\/(new.blockAt k).fin=2:=by
      rw[l1];rcases hfin with e|e|e
      . exact .inl e
      . exact .inr e
      . rw[e]at h3;cases h3
     have bt:=Gx (l3 h12);have key:0<=(new.blockAt k).next Y2/\(new.blockAt k).next Y2<paths.length/\(old.blockAt (A7 (DM paths k))).next Y2=E6 (DM paths ((new.blockAt k).next Y2)):=by
      unfold Block.next;rw[<-l1,<-l2]
      cases hc2:(new.blockAt k).fin==2&&Ai Y2 (new.blockAt k).v==0 with
      |false=>exact⟨bt.1,bt.2.1,bt.2.2.symm⟩
      |true=>
       simp only[q66,qZ4]at hc2;have be:=Gx (l5 hc2.1);exact⟨be.1,be.2.1,be.2.2.symm⟩
     rw[key.2.2];exact UC hH hend hc n g2 Ab g1' _ _ _ _ q2 q1 Ab ⟨key.1,key.2.1⟩
def FSm(f g:BFunc):Prop:=∀(call:Int->Mach->Mach) (s:ByteArray) (G:Nat),E9 call call oI->∀m m',m.fin=0->m.Le m'->
  (kblk call s f G 0 (List.replicate f.regs.toNat 0) m).Sim (kblk call s g G 0 (List.replicate g.regs.toNat 0) m')
theorem Y0(f:BFunc):FSm f f:=fun call s G hc m m' h0 h=>Ln hc G _ _ h0 h
theorem FSm.trans{f g h:BFunc}(h1:FSm f g)(h2:FSm g h):FSm f h:=fun call s G hc m m' h0 hl=>(h1 call s G hc m m' h0 hl).trans (h2 call s G hc m' m' (hl.fin.trans h0) (Mach.Le.refl _))
variable {g : BFunc}
theorem FSm.tidy{paths:List (List Int)}(hH:YZ f g paths)(hend:∀x∈f.blocks,x.fin=1\/x.fin=2\/x.fin=3):FSm f g:=fun call s G hc m m' h0 hl=>by
 have:=UC (s:=s) hH hend hc G G (qZ0 _) G 0 (List.replicate f.regs.toNat 0) m m' h0 hl (qZ0 _) ⟨Int.le_refl _,by have:=hH.ne;omega⟩;rw[hH.head]at this;rw[<-hH.regs];exact this
variable {fuel : Int}
variable {K : Nat}
structure OPass where
  kind:Int
  cert:Cert
  paths:List (List Int)
  f:BFunc
def OPass.holds(p:OPass)(f:BFunc):Bool:=
  bif p.kind==4 then p.cert.same.isEmpty&&DE f p.f p.paths else decide (1<=p.kind/\p.kind<=4)&&(p.paths.isEmpty&&Dj f p.f p.cert)
def BS:BFunc->BFunc->List OPass->Bool
  |f,g,[]=>decide (f=g)
  |f,g,p::r=>p.holds f&&BS p.f g r
def Eg:List BFunc->List BFunc->List (List OPass)->Bool
  |f::fs,g::gs,l::ls=>BS f g l&&Eg fs gs ls
  |_,_,_=>true
def Hk(old new:Blocks)(l:List (List OPass)):Bool:=
  old.right&&(new.right&&(decide (old.words=new.words)&&(decide (old.funcs.length=new.funcs.length)&&(decide (l.length=old.funcs.length)&&Eg old.funcs new.funcs l))))
theorem Om{old new:Blocks}{l:List (List OPass)}(h1:old.right=true)(h2:new.right=true)(h3:old.words=new.words)(h4:old.funcs.length=new.funcs.length)(h5:l.length=old.funcs.length)(h6:Eg old.funcs new.funcs l=true):Hk old new l=true:=by
 simp[Hk,h1,h2,h3,h4,h5,h6]
theorem Nl:∀{fs gs:List BFunc} {ls:List (List OPass)},Eg fs gs ls=true->∀{i:Nat} {f g:BFunc} {l:List OPass},fs[i]?=some f->gs[i]?=some g->ls[i]?=some l->BS f g l=true
 |f::fs,g::gs,l::ls,h,0,_,_,_,h1,h2,h3=>by
  simp only[Eg,q66]at h;simp at h1 h2 h3;subst h1;subst h2;subst h3;exact h.1
 |f::fs,g::gs,l::ls,h,i+1,_,_,_,h1,h2,h3=>by
  simp only[Eg,q66]at h;exact Nl h.2 JX Ke (by simpa using h3)
 | [],_,_,_,_,_,_,_,h1,_,_=>by simp at h1
 |_::_,[],_,_,_,_,_,_,_,h2,_=>by simp at h2
 |_::_,_::_,[],_,_,_,_,_,_,_,h3=>by simp at h3
theorem KC:∀{fs gs:List BFunc} {ls:List (List OPass)},(∀(i:Nat) (f g:BFunc) (l:List OPass),fs[i]?=some f->gs[i]?=some g->ls[i]?=some l->BS f g l=true)->Eg fs gs ls=true
 |f::fs,g::gs,l::ls,h=>by
  simp only[Eg,q66];exact⟨h 0 f g l rfl rfl rfl,KC fun i a b c h1 h2 h3=>h (i+1) a b c JX Ke (by simpa using h3)⟩
 | [],_,_,_=>by unfold Eg;rfl
 |_::_,[],_,_=>by unfold Eg;rfl
 |_::_,_::_,[],_=>by unfold Eg;rfl
def OPass.rholds(p:OPass)(f:BFunc):Bool:=
  bif p.kind==4 then p.cert.same.isEmpty&&DE f p.f p.paths else decide (1<=p.kind/\p.kind<=4)&&(p.paths.isEmpty&&Gf f p.f p.cert)
def Fw(op:Int):Int:=bif use1 op then 1 else bif use2 op then 2 else 0
def Tac.rest2(t:Tac)(f words:Int):Bool:=
  !((t.op !=1&&t.n !=0)||(t.op !=3&&t.k !=0))&&(!(!EP t.op&&t.size !=0)&&
  (bif t.op==1||(t.op==2||(t.op==8||t.op==9))then t.base==0
   else bif t.op==3 then t.base==0&&(decide (t.k>=4)&&decide (t.k<=15))
   else bif t.op==4||t.op==5 then decide (t.base>=0)&&decide (t.base<words)
   else bif t.op==6||t.op==7 then decide (t.size>=1)&&(decide (t.size<=4096)&&(decide (t.base>=0)&&decide (t.base<=words-t.size)))
   else bif t.op==10 then decide (t.base>=0)&&decide (t.base<f)else false))
def Tac.ins2(t:Tac)(f regs words:Int):Bool:=
  (bif setsOp t.op then A2 t.d regs else t.d==0)&&
  ((bif use1 t.op then A2 t.a regs&&t.b==0 else bif use2 t.op then A2 t.a regs&&A2 t.b regs else t.a==0&&t.b==0)&&
   t.rest2 f words)
variable {op : Int}
theorem lW(h1:1<=op)(h2:op<=10):op=1\/op=2\/op=3\/op=4\/op=5\/op=6\/op=7\/op=8\/op=9\/op=10:=by omega
theorem gB(t:Tac)(f regs words:Int):t.ins2 f regs words=t.fits f regs words:=by
 by_cases h:1<=t.op/\t.op<=10
 . obtain⟨op,d,a,b,k,base,size,n⟩:=t;rw[Bool.eq_iff_iff];rcases lW h.1 h.2 with e|e|e|e|e|e|e|e|e|e<;>(simp only at e;subst e;simp[Tac.ins2,Tac.fits,Tac.rest2,Tac.rest,Tac.same,Tac.want,Tac.uses,setsOp,use1,use2,GP,EP,A2])<;>(try omega)<;>(constructor<;>(intro h;simp[h];try omega))
 . rw[dJ h];have h1:(t.op==1)=false:=LK;have h2:(t.op==2)=false:=LK;have h3:(t.op==3)=false:=LK;have h4:(t.op==4)=false:=LK;have h5:(t.op==5)=false:=LK;have h6:(t.op==6)=false:=LK;have h7:(t.op==7)=false:=LK;have h8:(t.op==8)=false:=LK;have h9:(t.op==9)=false:=LK;have h10:(t.op==10)=false:=LK;simp[Tac.ins2,Tac.rest2,h1,h2,h3,h4,h5,h6,h7,h8,h9,h10]
theorem vu(h:Fw op=1):use1 op=true:=by
 unfold Fw at h;exact bP
theorem vt(h:Fw op=2):use1 op=false/\use2 op=true:=by
 unfold Fw at h;exact bP
theorem vv(h:Fw op=0):use1 op=false/\use2 op=false:=by
 unfold Fw at h;exact bP
theorem fI(op:Int):Fw op=0\/Fw op=1\/Fw op=2:=by
 unfold Fw;exact bP
def Eu(l:List Block):Nat:=(l.map fun x=>x.ins.length).sum
variable {k : Nat} {x : Block} {l : List Block}
theorem Wf(h:l[k]?=some x):Eu (l.take (k+1))=Eu (l.take k)+x.ins.length:=by
 rw[Eu,AT h];simp[Eu]
theorem Pe{α:Type}{l:List α}{p:α->Nat}:((l.take k).map p).sum<=(l.map p).sum:=by
 conv=>rhs;rw[<-q32 k l]
 rw[q77,q82];omega
theorem We:Eu (l.take k)<=Eu l:=Pe
theorem ii(l:List Block):(l.map Block.count).sum=l.length+Eu l:=by
 induction l with
 |nil=>rfl
 |cons x l ih=>simp only[qQ0,qQ2,ih,q70,Eu,Block.count];omega
theorem F2(f:BFunc):f.count=f.blocks.length+Eu f.blocks:=ii f.blocks
theorem bI{y:Block}(h1:x.fin=y.fin)(h2:x.v=y.v)(h3:x.to=y.to)(h4:x.els=y.els)(h5:x.ins=y.ins):x=y:=by
 cases x;cases y;simp_all
theorem Blocks.ext'{x y:Blocks}(h1:x.words=y.words)(h2:x.funcs=y.funcs):x=y:=by
 cases x;cases y;simp_all
def OPass.cells(p:OPass):List AV:=[.int .i64 p.kind,N5 p.cert.same,Ax p.paths,.int .i64 p.f.regs,BK p.f.blocks]
def CQ(l:List OPass):AV:=.lst false (l.map OPass.cells)
def IL(ls:List (List OPass)):AV:=.lst false (ls.map fun l=>[CQ l])
structure Blocks.Lim(b:Blocks):Prop where
  n:b.funcs.length<=1048576
  c:b.count<=1048576
structure BFunc.Lim(f:BFunc):Prop where
  n:f.blocks.length<=1048576
  c:∀x∈f.blocks,x.ins.length<=1048576
theorem WL(h:f.count<=1048576):f.Lim:=by
 exact r9
theorem BFunc.Lim.big(h:f.Lim):f.blocks.length<=1000000000000000/\∀x∈f.blocks,x.ins.length<=1000000000000000:=
 ⟨qX2 h.n Al,fun x hx=>qX2 (h.c x hx) Al⟩
def RL(f:BFunc):Bool:=decide (f.regs<=30)
def Ir(b:Blocks):Bool:=decide (b.funcs.length<=6)&&(decide (b.words<=400)&&(b.right&&(decide (b.count<=200)&&b.funcs.all RL)))
structure q8(b:Blocks):Prop where
  n:b.funcs.length<=6
  w:b.words<=400
  r:b.right=true
  c:b.count<=200
  g:∀f∈b.funcs,f.regs<=30
theorem ZN{b:Blocks}(h:Ir b=true):q8 b:=by
 simp only[Ir,q66,q56]at h;exact⟨h.1,h.2.1,h.2.2.1,h.2.2.2.1,fun f hf=>q58 (q67.1 h.2.2.2.2 f hf)⟩
variable {l : List BFunc}
theorem mE(h:l[k]?=some f)(h1:(l.take k).all RL=true)(h2:f.regs<=30):(l.take (k+1)).all RL=true:=by
 rw[q59,h,q92,h1];simp[RL,h2]
theorem vR(h:f∈l)(h2:¬f.regs<=30):l.all RL=false:=by
 rw[q64];intro e;exact h2 (q58 (q67.1 e f h))
def EA(G:BFunc->Int->OPass):List Int->BFunc->List OPass
  | [],_=>[]
  |k::r,f=>G f k::EA G r (G f k).f
def Nz(G:BFunc->Int->OPass):List Int->BFunc->BFunc
  | [],f=>f
  |k::r,f=>Nz G r (G f k).f
theorem Gh(G:BFunc->Int->OPass):∀(ks:List Int) (f:BFunc),(EA G ks f).length=ks.length
 | [],_=>rfl
 |k::r,f=>congrArg (· +1) (Gh G r _)
theorem Rc{G:BFunc->Int->OPass}:∀{ks:List Int} {f:BFunc} {j:Nat} {k:Int},ks[j]?=some k->(EA G ks f)[j]?=some (G (Nz G (ks.take j) f) k)
 |a::r,f,0,k,h=>by simp at h;subst h;rfl
 |a::r,f,j+1,k,h=>by
  show(EA G r (G f a).f)[j]?=_;exact Rc (ks:=r) HN
theorem Sg{G:BFunc->Int->OPass}:∀{ks:List Int} {f:BFunc} {j:Nat} {k:Int},ks[j]?=some k->Nz G (ks.take (j+1)) f=(G (Nz G (ks.take j) f) k).f
 |a::r,f,0,k,h=>by simp at h;subst h;simp[Nz]
 |a::r,f,j+1,k,h=>by
  show Nz G (r.take (j+1)) (G f a).f=_;exact Sg (ks:=r) HN
def BL(k:Int):Bool:=decide (1<=k/\k<=4)
variable {l : List OPass} {fs gs : List BFunc} {ls : List (List OPass)}
theorem X4{i:Nat}(hf:fs[i]?=some f)(hg:gs[i]?=some g)(hl:ls[i]?=some l)(h:BS f g l=false):Eg fs gs ls=false:=by
 rw[q64];intro e;rw[Nl e hf hg hl]at h
 cases h
def X0(fs gs:List BFunc)(ls:List (List OPass))(k:Nat):Prop:=∀i,i<k->∀f g l,fs[i]?=some f->gs[i]?=some g->ls[i]?=some l->BS f g l=true
theorem aK(h:X0 fs gs ls k)(hf:fs[k]?=some f)(hg:gs[k]?=some g)(hl:ls[k]?=some l)(e:BS f g l=true):X0 fs gs ls (k+1):=fun i hi a b c ha hb hc=>by
 rcases qX4 i k with h1|h1
 . exact h i h1 a b c ha hb hc
 . obtain rfl:i=k:=by omega
   rw[hf]at ha;rw[hg]at hb;rw[hl]at hc
   cases ha;cases hb;cases hc
   exact e
theorem UB(h:X0 fs gs ls k)(hk:fs.length<=k):Eg fs gs ls=true:=KC fun i f g l hf hg hl=>h i (by have:=(q05.1 hf).1;omega) f g l hf hg hl
def LI(f:BFunc):List OPass->BFunc
  | []=>f
  |p::r=>LI p.f r
theorem YT(p:OPass):∀(l:List OPass) (f:BFunc),LI f (l++[p])=p.f
 | [],f=>rfl
 |a::l,f=>YT p l a.f
variable {p : OPass}
theorem NI(f:BFunc)(h:l[k]?=some p):LI f (l.take (k+1))=p.f:=by
 rw[q59,h];exact YT p _ f
theorem JH{g:BFunc}(m:List OPass):∀(l:List OPass) (f:BFunc),BS f g (l++m)=(BS f (LI f l) l&&BS (LI f l) g m)
 | [],f=>by simp[BS,LI]
 |a::l,f=>by
  show(a.holds f&&BS a.f g (l++m))=_;rw[JH m l a.f];show _=((a.holds f&&BS a.f (LI a.f l) l)&&BS (LI a.f l) g m);rw[Bool.and_assoc]
theorem gp(h:l[k]?=some p)(hP:BS f (LI f (l.take k)) (l.take k)=true):BS f g l=(p.holds (LI f (l.take k))&&BS p.f g (l.drop (k+1))):=by
 have e:l=l.take k++(p::l.drop (k+1)):=by
  conv=>lhs;rw[<-q32 k l]
  rw[q07 (q05.1 h).1,(q05.1 h).2]
 conv=>lhs;rw[e]
 rw[JH,hP];simp[BS]
theorem Pv(h:l[k]?=some p)(hP:BS f (LI f (l.take k)) (l.take k)=true)(e:p.holds (LI f (l.take k))=true):BS f (LI f (l.take (k+1))) (l.take (k+1))=true:=by
 rw[NI f h,q59,h];show BS f p.f (l.take k++[p])=true;rw[JH,hP];simp[BS,e]
theorem aL(h:l[k]?=some p)(hP:BS f (LI f (l.take k)) (l.take k)=true)(e:p.holds (LI f (l.take k))=false):BS f g l=false:=by
 rw[gp h hP,e,Bool.false_and]
theorem RR(hP:BS f (LI f l) l=true):BS f g l=decide (LI f l=g):=by
 have:=JH (g:=g) [] l f;rw[q91,hP]at this;rw[this];simp[BS]
theorem R5(h:BL p.kind=false):p.holds f=false:=by
 unfold OPass.holds;have h4:(p.kind==4)=false:=by
  rw[q40];intro e;rw[e]at h;simp[BL]at h
 rw[h4,qZ3];rw[show decide (1<=p.kind/\p.kind<=4)=false from h,Bool.false_and]
end Go.Proofs.YtbbfelelocccmaaGreat.Sv
