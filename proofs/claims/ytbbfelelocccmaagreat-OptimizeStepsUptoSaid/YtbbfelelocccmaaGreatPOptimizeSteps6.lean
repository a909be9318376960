/-
  SETS OF REGISTERS, 64 IN EACH NUMBER: own work.
-/
import Derived.Test.YtbbfelelocccmaaGreatPOptimizeSteps5
import Derived.Test.YtbbfelelocccmaaGreatPOptimizeSteps3
import Derived.Test.YtbbfelelocccmaaGreatPOptimizeSteps4
import Derived.Test.YtbbfelelocccmaaGreatPOptimizeSteps2
set_option linter.unusedVariables false
set_option linter.unusedSimpArgs false
set_option maxRecDepth 100000
set_option maxHeartbeats 2000000
namespace Go.Proofs.YtbbfelelocccmaaGreat.Sv
open Go
def Jt(p:Nat->Bool):Nat->Nat
  |0=>0
  |n+1=>Jt p n+(if p n then 2^n else 0)
theorem TR(p:Nat->Bool):∀n,Jt p n<2^n
 |0=>by simp[Jt]
 |n+1=>by
  have ih:=TR p n
  grind[Jt]
theorem Js(p:Nat->Bool):∀n i,(Jt p n).testBit i=(decide (i<n)&&p i)
 |0,i=>by simp[Jt]
 |n+1,i=>by
  have ih:=Js p n i;have hlt:=TR p n;unfold Jt
  by_cases hp:p n=true
  . rw[qK0 hp,Nat.add_comm]
    by_cases h1:i<n
    . rw[Nat.testBit_two_pow_add_gt h1,ih];simp[h1];omega
    . by_cases h2:i=n
      . subst h2;rw[Nat.testBit_two_pow_add_eq,ih];simp[hp]
      . have h3:2^n+Jt p n<2^i:=by
         have:2^(n+1)<=2^i:=Nat.pow_le_pow_right z144q z144q;rw[Nat.pow_succ]at this;omega
        rw[Nat.testBit_lt_two_pow h3];have:¬i<n+1:=by omega
        simp[this]
  . rw[qZ9 hp,qX5,ih]
    by_cases h2:i=n
    . subst h2;simp[hp]
    . by_cases h1:i<n
      . have:i<n+1:=by omega
        simp[h1,this]
      . have:¬i<n+1:=by omega
        simp[h1,this]
variable {p : Nat -> Bool} {n x : Nat}
theorem L1(h:∀i,x.testBit i=(decide (i<n)&&p i)):x=Jt p n:=Nat.eq_of_testBit_eq fun i=>by rw[h,Js]
variable {q : Nat -> Bool}
theorem G7(h:∀i,i<n->p i=q i):Jt p n=Jt q n:=L1 fun i=>by
 grind[Js,Jt]
theorem iV(h:Jt p n=Jt q n):∀i,i<n->p i=q i:=fun i hi=>by
 have:=congrArg (fun x=>x.testBit i) h
 grind[Js,Jt]
theorem K9(h:x<18446744073709551616):IntKind.u64.wrap (x:Int)=(x:Int):=Ct h
theorem HY(w x:Nat):BitVec.ofInt w (x:Int)=BitVec.ofNat w x:=by
 grind
def wd(p:Nat->Bool):Nat:=Jt p 64
theorem Uq(p:Nat->Bool):wd p<18446744073709551616:=TR p 64
theorem SQ(p:Nat->Bool)(i:Nat):(wd p).testBit i=(decide (i<64)&&p i):=Js p 64 i
theorem eK(p:Nat->Bool):wd p%2^64=wd p:=Nat.mod_eq_of_lt (Uq p)
theorem eI(p q:Nat->Bool):AX .or (.int .u64 (wd p:Int)) (.int .u64 (wd q:Int))=some (.int .u64 (wd (fun v=>p v||q v):Int)):=by
 have e:(BitVec.ofInt 64 (wd p:Int)|||BitVec.ofInt 64 (wd q:Int)).toNat=wd (fun v=>p v||q v):=by
  rw[HY,HY,BitVec.toNat_or,BitVec.toNat_ofNat,BitVec.toNat_ofNat,eK,eK];refine L1 fun i=>?_
  grind[SQ,AX,wd]
 show some (AV.int .u64 (IntKind.u64.wrap ((BitVec.ofInt 64 (wd p:Int)|||BitVec.ofInt 64 (wd q:Int)).toNat:Int)))=_;rw[e,K9 (Uq _)]
theorem Q2(p q:Nat->Bool):AX .andNot (.int .u64 (wd p:Int)) (.int .u64 (wd q:Int))=some (.int .u64 (wd (fun v=>p v&& !q v):Int)):=by
 have e:(BitVec.ofInt 64 (wd p:Int)&&& ~~~BitVec.ofInt 64 (wd q:Int)).toNat=wd (fun v=>p v&& !q v):=by
  refine L1 fun i=>?_
  rw[HY,HY];rw[<-BitVec.getLsbD.eq_1,BitVec.getLsbD_and,BitVec.getLsbD_not,BitVec.getLsbD_ofNat,BitVec.getLsbD_ofNat,SQ,SQ]
  cases decide (i<64)<;>simp
 show some (AV.int .u64 (IntKind.u64.wrap ((BitVec.ofInt 64 (wd p:Int)&&& ~~~BitVec.ofInt 64 (wd q:Int)).toNat:Int)))=_;rw[e,K9 (Uq _)]
variable {i : Nat}
theorem eJ(h:i<64):AX .shl (.int .u64 1) (.int .i64 (i:Int))=some (.int .u64 (wd (fun v=>v==i):Int)):=by
 have e:(2:Nat)^i=wd (fun v=>v==i):=L1 fun k=>by
  grind
 have hl:(2:Nat)^i<18446744073709551616:=by rw[e];exact Uq _
 have h1:min ((i:Int).toNat) IntKind.u64.bits=i:=by rw[q55];show min i 64=i;omega
 have h2:AX .shl (.int .u64 1) (.int .i64 (i:Int))=some (.int .u64 (IntKind.u64.wrap (1*2^(min ((i:Int).toNat) IntKind.u64.bits)))):=by
  have hn:¬((i:Int)<0):=by omega
  simp[AX,isShift,BH,hn]
 rw[h2,h1,Int.one_mul,show((2:Int)^i)=(((2:Nat)^i:Nat):Int) by simp,K9 hl,e]
theorem pK(h:i<64):AX .shr (.int .u64 (wd p:Int)) (.int .i64 (i:Int))=some (.int .u64 ((wd p/2^i:Nat):Int)):=by
 have h1:min ((i:Int).toNat) IntKind.u64.bits=i:=by rw[q55];show min i 64=i;omega
 grind[AX,wd,isShift,BH]
theorem kq(p:Nat->Bool)(h:i<64):AX .and (.int .u64 ((wd p/2^i:Nat):Int)) (.int .u64 1)=some (.int .u64 ((b2n (p i):Nat):Int)):=by
 have hb:=SQ p i;have e:(BitVec.ofInt 64 ((wd p/2^i:Nat):Int)&&&BitVec.ofInt 64 (1:Int)).toNat=b2n (p i):=by
  have e1:BitVec.ofInt 64 (1:Int)=BitVec.ofNat 64 1:=by decide
  rw[HY,e1,BitVec.toNat_and,BitVec.toNat_ofNat,BitVec.toNat_ofNat];have hl:wd p/2^i<2^64:=Nat.lt_of_le_of_lt (Nat.div_le_self _ _) (Uq p);rw[Nat.mod_eq_of_lt hl,show 1%2^64=1 from rfl,Nat.and_one_is_mod];rw[Nat.testBit_eq_decide_div_mod_eq]at hb;simp only[h,decide_true,qQ5]at hb
  cases hp:p i with
  |true=>rw[hp]at hb;simp at hb;simp[b2n,hb]
  |false=>rw[hp]at hb;simp at hb;simp[b2n];omega
 show some (AV.int .u64 (IntKind.u64.wrap ((BitVec.ofInt 64 ((wd p/2^i:Nat):Int)&&&BitVec.ofInt 64 (1:Int)).toNat:Int)))=_
 grind[K9,b2n,AX,wd]
theorem pL(b:Bool):AX .eql (.int .u64 ((b2n b:Nat):Int)) (.int .u64 1)=some (.bool b):=by cases b<;>rfl
def nw(R:Nat):Nat:=(R+63)/64
def BK(p:Nat->Bool)(j:Nat):List AV:=[AV.int .u64 ((wd (fun v=>p (64*j+v)):Nat):Int)]
def BE(R:Nat)(p:Nat->Bool):List (List AV):=(List.range (nw R)).map (BK p)
theorem Bt(R:Nat)(p:Nat->Bool):(BE R p).length=nw R:=by simp[BE]
variable {R j : Nat}
theorem EI(h:j<nw R):(BE R p)[j]?=some (BK p j):=by simp[BE,h]
theorem Vo(h:i<R):i/64<nw R:=by unfold nw;omega
theorem Ep(h:∀v,v<64->p (64*j+v)=q (64*j+v)):BK p j=BK q j:=by
 grind[BK,wd,G7]
theorem Ec(h:∀v,p v=q v):BE R p=BE R q:=q42 fun j _=>Ep fun v _=>h _
theorem bx(R:Nat):List.replicate (nw R) [AV.int .u64 0]=BE R (fun _=>false):=by
 have e:∀j,BK (fun _=>false) j=[AV.int .u64 0]:=fun j=>by
  unfold BK wd;have:Jt (fun _=>false) 64=0:=(L1 (p:=fun _=>false) (n:=64) (x:=0) (fun i=>by simp)).symm;rw[this];rfl
 refine q62 fun i=>?_
 grind[nw,EI,List.length_replicate,Bt,BE]
theorem Ll(h1:∀v,v/64≠j->q v=p v):(BE R p).set j (BK q j)=BE R q:=by
 refine q62 fun i=>?_
 grind[nw,EI,Bt,Ep,BE,BK]
variable {v : Nat}
theorem js(hv:v<64):(64*(i/64)+v==i)=(v==i%64):=by
 grind
theorem WQ(p:Nat->Bool)(i:Nat):BK (fun v=>p v||v==i) (i/64)=[AV.int .u64 ((wd (fun v=>p (64*(i/64)+v)||v==i%64):Nat):Int)]:=by
 grind[BK,wd,G7,js]
theorem aE(p:Nat->Bool)(i:Nat):BK (fun v=>p v&& !(v==i)) (i/64)=[AV.int .u64 ((wd (fun v=>p (64*(i/64)+v)&& !(v==i%64)):Nat):Int)]:=by
 grind[BK,wd,G7,js]
theorem ZC(h:i<=1000000000):AX .quo (.int .i64 (i:Int)) (.int .i64 64)=some (.int .i64 ((i/64:Nat):Int)):=L2 (b:=64) Aj (JJ z144q)
theorem fR:AX .rem (.int .i64 (i:Int)) (.int .i64 64)=some (.int .i64 ((i%64:Nat):Int)):=F5 (b:=64) Aj
def C3(v:Nat)(l:List Tac):Bool:=l.any fun t=>t.sets==(v:Int)
theorem Pr(v:Nat)(z:Bool):∀l,need v l z=(need v l false||(z&& !C3 v l))
 | []=>by simp[need,C3]
 |t::r=>by
  have ih:=Pr v z r
  grind[need,C3]
def Ks(x:Block)(v:Nat):Bool:=need v x.ins (Dy x v)
theorem X4(x:Block)(v:Nat)(o:Bool):need v x.ins (Dy x v||o)=(Ks x v||(o&& !C3 v x.ins)):=by
 grind[Ks,Pr,Dy,need,C3]
def Zt(t:Tac)(p:Nat->Bool):Nat->Bool:=fun v=>p v&& !(t.sets==(v:Int))
def Ht(us:List Int)(p:Nat->Bool):Nat->Bool:=fun v=>us.contains (v:Int)||p v
def NV(t:Tac)(q:Nat->Bool):Nat->Bool:=fun v=>q v||t.sets==(v:Int)
def tR(x:Block)(pre:List Nat):Nat->Bool:=pre.foldl (fun p k=>match x.ins[k]? with
  |some t=>Ht t.uses (Zt t p)
  |none=>p) (Dy x)
def tS(x:Block)(pre:List Nat):Nat->Bool:=pre.foldl (fun p k=>match x.ins[k]? with
  |some t=>NV t p
  |none=>p) (fun _=>false)
variable {x : Block} {pre : List Nat} {k : Nat} {t : Tac}
theorem kJ(h:x.ins[k]?=some t):tR x (pre++[k])=Ht t.uses (Zt t (tR x pre)):=by
 grind[tR,Ht,Zt]
theorem kI(h:x.ins[k]?=some t):tS x (pre++[k])=NV t (tS x pre):=by
 grind[tS,NV]
theorem Rh(k:Nat):(List.range (k+1)).reverse=k::(List.range k).reverse:=by
 rw[q79,List.reverse_append];rfl
theorem oJ(x:Block)(v:Nat):∀(m:Nat) (p:Nat->Bool),m<=x.ins.length->((List.range m).reverse.foldl (fun p k=>match x.ins[k]? with
 |some t=>Ht t.uses (Zt t p)
 |none=>p) p) v=need v (x.ins.take m) (p v)
 |0,p,_=>by simp[need]
 |m+1,p,h=>by
  obtain⟨t,ht⟩:=Af (l:=x.ins) (k:=m) z144q;rw[Rh,q85,oJ x v m _ z144q,ht];have e:x.ins.take (m+1)=x.ins.take m++[t]:=by
   rw[q59,ht];rfl
  rw[e,Jg];congr 1;unfold Ht Zt;simp[need,Bool.and_comm]
theorem oI(x:Block)(v:Nat):∀(m:Nat) (p:Nat->Bool),m<=x.ins.length->((List.range m).reverse.foldl (fun p k=>match x.ins[k]? with
 |some t=>NV t p
 |none=>p) p) v=(p v||C3 v (x.ins.take m))
 |0,p,_=>by simp[C3]
 |m+1,p,h=>by
  obtain⟨t,ht⟩:=Af (l:=x.ins) (k:=m) z144q;rw[Rh,q85,oI x v m _ z144q,ht];have e:x.ins.take (m+1)=x.ins.take m++[t]:=by
   rw[q59,ht];rfl
  rw[e];unfold NV C3;rw[List.any_append];simp only[List.any_cons,List.any_nil,Bool.or_false]
  cases p v<;>cases t.sets==(v:Int)<;>cases (List.any (List.take m x.ins) fun t=>t.sets==(v:Int))<;>rfl
theorem p4(x:Block)(v:Nat):tR x (List.range x.ins.length).reverse v=Ks x v:=by
 have:=oJ x v x.ins.length (Dy x) (qZ0 _);rw[q71]at this;exact this
theorem tS_all(x:Block)(v:Nat):tS x (List.range x.ins.length).reverse v=C3 v x.ins:=by
 have:=oI x v x.ins.length (fun _=>false) (qZ0 _);rw[q71]at this;exact this.trans z145q
def E5(R:Nat)(p:Nat->Bool):AObj:=.row true 1 (BE R p)
theorem Db(h:∀v,p v=q v):some (E5 R p)=some (E5 R q):=congrArg (fun es=>some (AObj.row true 1 es)) (Ec h)
variable {d : Int}
theorem Na(h:0<=d)(v:Nat):(v==d.toNat)=(d==(v:Int)):=by
 grind
theorem k7(h:0<=t.sets)(v:Nat):(p v&& !(v==t.sets.toNat))=Zt t p v:=by unfold Zt;rw[Na h]
theorem fB(h:0<=t.sets)(v:Nat):(p v||v==t.sets.toNat)=NV t p v:=by unfold NV;rw[Na h]
theorem k8(h:¬0<=t.sets)(v:Nat):p v=Zt t p v:=by
 grind[Zt]
theorem fC(h:¬0<=t.sets)(v:Nat):p v=NV t p v:=by
 grind[NV]
theorem dB(v:Nat):p v=Ht [] p v:=by simp[Ht]
variable {us : List Int}
theorem YB{u:Int}(h:us[k]?=some u)(hu:0<=u)(v:Nat):(Ht (us.take k) p v||v==u.toNat)=Ht (us.take (k+1)) p v:=by
 unfold Ht;have e:us.take (k+1)=us.take k++[u]:=by rw[q59,h];rfl
 grind
theorem iT(h:x.fin=2)(h0:0<=x.v)(v:Nat):(false||v==x.v.toNat)=Dy x v:=by
 grind[Na,Dy]
theorem md(h:¬x.fin=2)(v:Nat):false=Dy x v:=by
 simp[Dy,h]
def Az(g:Nat->AV)(n:Nat):List (List AV):=(List.range n).map fun b=>[g b]
theorem Ap(g:Nat->AV)(n:Nat):(Az g n).length=n:=by simp[Az]
variable {g : Nat -> AV} {b : Nat}
theorem DN(h:b<n):(Az g n)[b]?=some [g b]:=by simp[Az,h]
theorem Kf(g:Nat->AV)(n:Nat):Az g (n+1)=Az g n++[[g n]]:=by
 unfold Az;rw[q79,q77];rfl
theorem De{g':Nat->AV}(h:∀b,b<n->g b=g' b):Az g n=Az g' n:=q42 fun b hb=>by rw[h b (q94.1 hb)]
theorem Ib(x:AV):(Az g n).set b [x]=Az (fun c=>if c=b then x else g c) n:=by
 refine q62 fun i=>?_
 grind[DN,Ap,Az]
variable {cs : List AV}
theorem Wj(h:cs∈Az g n):∃b,b<n/\cs=[g b]:=by
 grind[Az]
theorem Ic(x:AV)(n:Nat):List.replicate n [x]=Az (fun _=>x) n:=by
 refine q62 fun i=>?_
 grind[DN,List.length_replicate,Ap,Az]
variable {k : Nat -> Bool} {sz : Nat}
theorem Ah{p:Bool}(h:∀b,b<n->(g b).avoid k=true):(AObj.row p sz (Az g n)).avoid k=true:=by
 cases p with
 |true=>rfl
 |false=>
  show(Az g n).all (fun cs=>cs.all (AV.avoid k))=true;refine q67.2 fun cs hc=>?_
  obtain⟨b,hb,rfl⟩:=Wj hc;simp[h b hb]
theorem JM(h:∀b,b<n->(g b).avoid k=true):(Qx sz (Az g n)).avoid k=true:=by
 unfold Qx
 cases (Az g n).isEmpty with
 |true=>rfl
 |false=>exact Ah h
theorem Zi(sz:Nat)(g:Nat->AV)(n:Nat):Qx sz (Az g (n+1))=.row false sz (Az g n++[[g n]]):=by
 rw[Kf];simp[Qx,N2]
theorem Zk{t:Nat}(h:0<n):A6 t (Az g n)=.ref t n 0 n:=by
 grind[OL,Az,Ap,A6]
theorem UH(h:0<n):Qx sz (Az g n)=.row false sz (Az g n):=by
 obtain⟨m,rfl⟩:∃m,n=m+1:=⟨n-1,by omega⟩
 rw[Zi,Kf]
def rG(q m:Nat):Nat->AV:=fun b=>.ref (3*b+q+16) m 0 m
theorem Do(k0 q m b:Nat):(rG q m b).avoid (kf k0)=true:=by
 simp[rG,AV.avoid,AV.flat,VB]
def F3(r0 r1 r2:Nat->AObj):Nat->AObj:=fun x=>if x%3=0 then r0 (x/3)else if x%3=1 then r1 (x/3)else r2 (x/3)
theorem wG(r0 r1 r2:Nat->AObj)(b:Nat):F3 r0 r1 r2 (3*b+0)=r0 b:=by
 grind[F3]
theorem wE(r0 r1 r2:Nat->AObj)(b:Nat):F3 r0 r1 r2 (3*b+1)=r1 b:=by
 grind[F3]
theorem yP(r0 r1 r2:Nat->AObj)(b:Nat):F3 r0 r1 r2 (3*b+2)=r2 b:=by
 grind[F3]
def KE(r:Nat->AObj)(b:Nat)(o:AObj):Nat->AObj:=fun c=>if c=b then o else r c
theorem oS(r0 r1 r2:Nat->AObj)(b:Nat)(o:AObj)(x:Nat):F3 (KE r0 b o) r1 r2 x=if x=3*b+0 then o else F3 r0 r1 r2 x:=by
 grind[F3,KE]
theorem oQ(r0 r1 r2:Nat->AObj)(b:Nat)(o:AObj)(x:Nat):F3 r0 (KE r1 b o) r2 x=if x=3*b+1 then o else F3 r0 r1 r2 x:=by
 grind[F3,KE]
theorem wD(r0 r1 r2:Nat->AObj)(b:Nat)(o:AObj)(x:Nat):F3 r0 r1 (KE r2 b o) x=if x=3*b+2 then o else F3 r0 r1 r2 x:=by
 grind[F3,KE]
variable {r0 r1 r2 : Nat -> AObj}
theorem Ch(h0:∀b,(r0 b).avoid k=true)(h1:∀b,(r1 b).avoid k=true)(h2:∀b,(r2 b).avoid k=true)(x:Nat):(F3 r0 r1 r2 x).avoid k=true:=by
 grind[F3]
def DJ(b:Nat):Nat:=if b<16 then b else 16+(b-16)%3
theorem jg(i:Nat):DJ (3*i+0+16)=16:=by unfold DJ;rw[qZ9 z144q];omega
theorem jf(i:Nat):DJ (3*i+1+16)=17:=by unfold DJ;rw[qZ9 z144q];omega
theorem je(i:Nat):DJ (3*i+2+16)=18:=by unfold DJ;rw[qZ9 z144q];omega
def CZ(k:Nat)(o:Nat->AObj):Nat->AObj:=fun b=>if b<k then o b else .free
variable {k : Nat} {o : Nat -> AObj}
theorem EX(h:b<k):CZ k o b=o b:=by unfold CZ;rw[qK0 h]
theorem KJ(h:k<=b):CZ k o b=.free:=by unfold CZ;rw[qZ9 z144q]
theorem Jb(k:Nat)(o:Nat->AObj):CZ (k+1) o=KE (CZ k o) k (o k):=funext fun b=>by
 grind[CZ,KE]
theorem GN{o':Nat->AObj}(h:b<k)(ho:∀c,c≠b->o' c=o c):CZ k o'=KE (CZ k o) b (o' b):=funext fun c=>by
 grind[CZ,KE]
variable {m : Nat}
theorem Fb{k:Nat->Bool}(h:∀b,(o b).avoid k=true)(b:Nat):(CZ m o b).avoid k=true:=by
 unfold CZ;split
 . exact h b
 . rfl
def A9(I:BB)(b:Nat)(p:Nat->Bool):BB:=fun c=>if c=b then p else I c
theorem B2(I:BB)(b:Nat)(p:Nat->Bool):A9 I b p b=p:=by unfold A9;rw[qK0 rfl]
variable {I : BB} {c : Nat}
theorem DR(p:Nat->Bool)(h:c≠b):A9 I b p c=I c:=by unfold A9;rw[qZ9 h]
theorem setRow_self(I:BB)(b:Nat):A9 I b (I b)=I:=funext fun c=>by
 unfold A9;split
 . subst_vars;rfl
 . rfl
def bT(p q:Nat->Bool)(k:Nat):Nat->Bool:=fun v=>p v||(decide (v/64<k)&&q v)
theorem gG(p q:Nat->Bool)(v:Nat):p v=bT p q 0 v:=by simp[bT]
theorem Wf(hv:v<64):(64*k+v)/64=k:=by omega
theorem gI(p q:Nat->Bool)(k:Nat):BK (bT p q (k+1)) k=[AV.int .u64 ((wd (fun v=>p (64*k+v)||q (64*k+v)):Nat):Int)]:=by
 grind[BK,wd,G7,bT,Wf]
theorem lr(p q:Nat->Bool)(k:Nat):BK (bT p q k) k=BK p k:=Ep fun v hv=>by
 grind[bT,Wf,BK]
theorem gH(p q:Nat->Bool)(k:Nat):(BE R (bT p q k)).set k [AV.int .u64 ((wd (fun v=>p (64*k+v)||q (64*k+v)):Nat):Int)]=BE R (bT p q (k+1)):=by
 grind[gI,Ll,bT,BE,wd]
theorem O0(h:∀v,v/64<nw R->p v=q v):BE R p=BE R q:=by
 refine q62 fun i=>?_
 grind[nw,EI,Ep,Wf,Bt,BE]
theorem lu(p q:Nat->Bool)(h:nw R<=k):BE R (bT p q k)=BE R (fun v=>p v||q v):=O0 fun v hv=>by
 grind[bT,nw,BE]
def ML(I:BB)(p:Nat->Bool)(x:Block)(j:Nat):Nat->Bool:=fun v=>p v||(x.nexts.take j).any fun d=>I d.toNat v
theorem outP_zero(I:BB)(p:Nat->Bool)(x:Block)(v:Nat):p v=ML I p x 0 v:=by simp[ML]
theorem bQ(h:x.nexts[j]?=some d)(v:Nat):(ML I p x j v||I d.toNat v)=ML I p x (j+1) v:=by
 unfold ML;have e:x.nexts.take (j+1)=x.nexts.take j++[d]:=by rw[q59,h];rfl
 grind
def Ef(I:BB)(p:Nat->Bool)(x:Block):Nat->Bool:=fun v=>p v||x.nexts.any fun d=>I d.toNat v
theorem outP_end(h:x.nexts.length<=j):ML I p x j=Ef I p x:=by
 unfold ML Ef;rw[q20 h]
def inN(x:Block)(o:Nat->Bool):Nat->Bool:=fun v=>Ks x v||(o v&& !C3 v x.ins)
theorem LO(x:Block)(o:Nat->Bool)(v:Nat):inN x o v=need v x.ins (Dy x v||o v):=(X4 x v (o v)).symm
def Iv(p q:Nat->Bool)(k:Nat):Nat->Bool:=fun v=>if v/64<k then p v else q v
theorem ce(p q:Nat->Bool)(v:Nat):q v=Iv p q 0 v:=by simp[Iv]
theorem cg(p q:Nat->Bool)(k:Nat):BK (Iv p q (k+1)) k=BK p k:=Ep fun v hv=>by
 grind[Iv,Wf,BK]
theorem ic(p q:Nat->Bool)(k:Nat):BK (Iv p q k) k=BK q k:=Ep fun v hv=>by
 grind[Iv,Wf,BK]
theorem ZM(p q:Nat->Bool)(hv:v/64≠k):Iv p q (k+1) v=Iv p q k v:=by
 grind[Iv]
theorem ib(p q:Nat->Bool)(k:Nat):(BE R (Iv p q k)).set k (BK p k)=BE R (Iv p q (k+1)):=by
 grind[cg,Ll,ZM,BE,Iv,BK]
def Qw(p:Nat->Bool)(k:Nat):Nat:=wd (fun v=>p (64*k+v))
theorem Ur(h:Qw p k=Qw q k)(v:Nat)(hv:v/64=k):p v=q v:=by
 have:=iV (n:=64) h (v%64) (Nat.mod_lt _ Aj)
 grind
theorem cf(h:Qw p k=Qw q k)(v:Nat):Iv p q k v=Iv p q (k+1) v:=by
 grind[Iv,Ur,ZM,Qw]
theorem ie(p q:Nat->Bool)(h:nw R<=k):BE R (Iv p q k)=BE R p:=O0 fun v hv=>by
 grind[Iv,nw,BE]
def chg(p q:Nat->Bool)(k:Nat):Bool:=(List.range k).any fun i=>Qw p i !=Qw q i
theorem mo(h:(Qw p k !=Qw q k)=true):true=chg p q (k+1):=by
 grind[chg,Qw]
theorem qG(h:Qw p k=Qw q k):chg p q k=chg p q (k+1):=by
 grind[chg,Qw]
theorem jh(h:chg p q (nw R)=false)(v:Nat)(hv:v<R):p v=q v:=by
 unfold chg at h;rw[List.any_eq_false]at h;have:=h (v/64) (q94.2 (Vo hv))
 grind[Ur,chg,nw]
theorem mq(h:chg p q (nw R)=true):∃v,v<64*nw R/\p v≠q v:=by
 unfold chg at h;obtain⟨i,hi,h2⟩:=q74.1 h;have hi:=q94.1 hi
 by_cases hex:∃v,v<64/\p (64*i+v)≠q (64*i+v)
 . obtain⟨v,hv,hne⟩:=hex;exact⟨64*i+v,by omega,hne⟩
 . exfalso;have:Qw p i=Qw q i:=G7 fun v hv=>Classical.byContradiction fun hne=>hex ⟨v,hv,hne⟩
   simp[this]at h2
variable {I' : BB}
theorem falses_lt(hm:∀b v,I b v=true->I' b v=true)(hb:b<n)(hv:v<R)(h:I b v=false)(h':I' b v=true):Jq n R I'<Jq n R I:=by
 have hle:∀c v,(if I' c v then 0 else 1)<=(if I c v then 0 else 1:Nat):=fun c v=>by
  grind
 refine fp (fun c _=>?_) hb ?_
 . exact Nat.le_of_not_lt fun hlt=>by
    have:∀m,((List.range m).map fun v=>if I' c v then 0 else 1).sum<=((List.range m).map fun v=>if I c v then 0 else 1).sum:=fun m=>by
     induction m with
     |zero=>simp
     |succ m ih=>
      rw[q79,q77,q77,q82,q82];have:=hle c m;simp only[qQ0,qX9,qQ2,List.sum_nil,qX5];omega
    have:=this R;omega
 . refine fp (fun u _=>hle b u) hv ?_;rw[h,h'];simp
structure WaitI(n:Nat)(waits:Nat->Bool)(ws:List Nat):Prop where
  nod:ws.Nodup
  mem:∀b,b∈ws↔b<n/\waits b=true
  cnt:((List.range n).map fun b=>if waits b then 1 else 0).sum=ws.length
def CH(w:Nat->Bool)(b:Nat)(z:Bool):Nat->Bool:=fun c=>if c=b then z else w c
theorem Dm(w:Nat->Bool)(b:Nat)(z:Bool):CH w b z b=z:=by unfold CH;rw[qK0 rfl]
variable {w : Nat -> Bool}
theorem C2(z:Bool)(h:c≠b):CH w b z c=w c:=by unfold CH;rw[qZ9 h]
theorem TY(w:Nat->Bool)(b:Nat):∀n,((List.range n).map fun c=>if CH w b true c then 1 else 0).sum=((List.range n).map fun c=>if CH w b false c then 1 else 0).sum+(if b<n then 1 else 0)
 |0=>by simp
 |n+1=>by
  rw[q79,q77,q77,q82,q82,TY w b n]
  grind[Dm,C2,CH]
variable {z : Bool}
theorem HO(h:w b=z):CH w b z=w:=funext fun c=>by
 grind[Dm,C2,CH]
variable {ws : List Nat}
theorem WaitI.push(h:WaitI n w ws)(hb:b<n)(hw:w b=false):WaitI n (CH w b true) (ws++[b]):=by
 refine⟨?_,fun c=>?_,?_⟩
 . rw[q65];refine⟨h.nod,by simp,fun x hx y hy=>?_⟩;rw[q47]at hy;subst hy;intro e;subst e;have:=((h.mem x).1 hx).2;rw[hw]at this;cases this
 . rw[q78,q47,h.mem]
   by_cases hc:c=b
   . subst hc;rw[Dm];exact⟨fun _=>⟨hb,rfl⟩,fun _=>.inr rfl⟩
   . rw[C2 _ hc];exact⟨fun h=>h.elim id fun e=>absurd e hc,.inl⟩
 . rw[TY,HO hw,h.cnt,qK0 hb];simp
theorem WaitI.pop(h:WaitI n w (ws++[b])):WaitI n (CH w b false) ws/\b<n/\w b=true:=by
 have hb:=(h.mem b).1 (q78.2 (.inr (q47.2 rfl)));have hn:=q65.1 h.nod;have hnb:b∉ws:=fun hx=>hn.2.2 b hx b (q47.2 rfl) rfl
 refine⟨⟨hn.1,fun c=>?_,?_⟩,hb.1,hb.2⟩
 . by_cases hc:c=b
   . subst hc;rw[Dm];exact⟨fun h=>absurd h hnb,fun h=>by cases h.2⟩
   . rw[C2 _ hc,<-h.mem,q78,q47];exact⟨.inl,fun h=>h.elim id fun e=>absurd e hc⟩
 . have e:=TY w b n;rw[HO hb.2,qK0 hb.1,h.cnt]at e;simp at e;omega
theorem WaitI.le(h:WaitI n w ws):ws.length<=n:=by
 rw[<-h.cnt];have:∀m,((List.range m).map fun b=>if w b then 1 else 0).sum<=m:=fun m=>by
  induction m with
  |zero=>simp
  |succ m ih=>
   rw[q79,q77,q82];simp only[qQ0,qX9,qQ2,List.sum_nil,qX5];split<;>omega
 exact this n
def Km(w:Nat->Bool)(b:Nat):Nat->Bool:=CH w b true
def HL(w:Nat->Bool)(ws:List Nat)(b:Nat):List Nat:=bif w b then ws else ws++[b]
theorem WaitI.wait(h:WaitI n w ws)(hb:b<n):WaitI n (Km w b) (HL w ws b):=by
 unfold Km HL
 cases hw:w b with
 |true=>rw[HO hw];exact h
 |false=>exact h.push hb hw
structure LInv(f:BFunc)(R:Nat)(I O:BB)(w:Nat->Bool)(rest:List Nat):Prop where
  si:Qn f I
  so:IE f O
  mono:∀b x,f.blocks[b]?=some x->∀v,I b v=true->need v x.ins (Dy x v||O b v)=true
  cl:∀b,b<f.blocks.length->w b=false->b∈rest\/Me f R I O b
def QK(f:BFunc)(c a:Nat):List Nat:=((f.blocks[a]?).map fun x=>(x.nexts.filter (· ==(c:Int))).map fun _=>a).getD []
def aheadP(f:BFunc)(k j c:Nat):List Nat:=(List.range k).flatMap (QK f c)++((f.blocks[k]?).map fun x=>((x.nexts.take j).filter (· ==(c:Int))).map fun _=>k).getD []
def AB(f:BFunc)(c:Nat):List Nat:=(List.range f.blocks.length).flatMap (QK f c)
theorem DA(f:BFunc)(k c:Nat):aheadP f k 0 c=(List.range k).flatMap (QK f c):=by
 unfold aheadP
 cases f.blocks[k]?<;>simp
variable {f : BFunc}
theorem Hr(hx:f.blocks[k]?=some x)(hd:x.nexts[j]?=some d)(h0:0<=d)(c:Nat):aheadP f k (j+1) c=if c=d.toNat then aheadP f k j c++[k]else aheadP f k j c:=by
 unfold aheadP;rw[hx];have e:x.nexts.take (j+1)=x.nexts.take j++[d]:=by rw[q59,hd];rfl
 grind
theorem Hs(hx:f.blocks[k]?=some x)(h:x.nexts.length<=j)(c:Nat):aheadP f k j c=aheadP f (k+1) 0 c:=by
 rw[DA,q79,List.flatMap_append];unfold aheadP;congr 1;rw[hx];simp only[q80,q72];rw[q20 h];simp[QK,hx]
variable {a : Nat}
theorem Qi(hx:f.blocks[a]?=some x)(h:x.nexts.contains (c:Int)=true):a∈AB f c:=by
 unfold AB;rw[List.mem_flatMap];refine⟨a,q94.2 (q05.1 hx).1,?_⟩;unfold QK;rw[hx];simp only[q80,q72,qX3,q90];exact⟨(c:Int),⟨q31.1 h,by simp⟩,trivial⟩
theorem Kh(h:a∈AB f c):a<f.blocks.length:=by
 grind[AB,QK]
theorem K1(f:BFunc)(k j c:Nat):(aheadP f k j c).length<=2*k+2:=by
 have h1:∀k,((List.range k).flatMap (QK f c)).length<=2*k:=fun k=>by
  induction k with
  |zero=>simp
  |succ k ih=>
   rw[q79,List.flatMap_append,q48];have:(QK f c k).length<=2:=by
    unfold QK
    cases e:f.blocks[k]? with
    |none=>simp
    |some x=>
     simp only[q80,q72,q76];exact qX2 (List.length_filter_le _ _) (MS x)
   simp only[List.flatMap_cons,List.flatMap_nil,q91];omega
 have h2:=h1 k;unfold aheadP;rw[q48];have:(((f.blocks[k]?).map fun x=>((x.nexts.take j).filter (· ==(c:Int))).map fun _=>k).getD []).length<=2:=by
  cases e:f.blocks[k]? with
  |none=>simp
  |some x=>
   simp only[q80,q72,q76];refine qX2 (List.length_filter_le _ _) ?_;rw[q69];have:=MS x;omega
 omega
theorem LInv.first(hw:∀b,b<f.blocks.length->w b=true):LInv f R (fun _ _=>false) (fun _ _=>false) w []:=
 ⟨fun _ _ h=>(by cases h),fun _ _ h=>(by cases h),fun _ _ _ _ h=>(by cases h),fun b hb h=>(by rw[hw b hb]at h;cases h)⟩
variable {O : BB} {rest : List Nat}
theorem LInv.wait(h:LInv f R I O w (a::rest)):LInv f R I O (Km w a) rest:=
 ⟨h.si,h.so,h.mono,fun b hb hw=>by
  unfold Km at hw
  by_cases hba:b=a
  . subst hba;rw[Dm]at hw;cases hw
  . rw[C2 _ hba]at hw;rcases h.cl b hb hw with h1|h1
    . exact(q99.1 h1).elim (fun e=>absurd e hba) .inl
    . exact .inr h1⟩
theorem XP(hI:Qn f I)(hO:IE f O)(hx:f.blocks[b]?=some x):IE f (A9 O b (Ef I (O b) x)):=by
 have hx1:∀v,Ef I (O b) x v=true->outB f x v=true:=fun v hv=>by
  unfold Ef at hv;rcases Bool.or_eq_true_iff.1 hv with h|h
  . obtain⟨y,hy,e⟩:=hO b v h;rw[hx]at hy;cases hy;exact e
  . obtain⟨d,hd,hv2⟩:=q74.1 h;have hp:=Xc (v:=v) hI hO hx hd b v (by unfold putBB;rw[qK0 ⟨rfl,rfl⟩,hv2,qX6]);obtain⟨y,hy,e⟩:=hp;rw[hx]at hy;cases hy;exact e
 intro c v hv
 by_cases hc:c=b
 . subst hc;rw[B2]at hv;exact⟨x,hx,hx1 v hv⟩
 . rw[DR _ hc]at hv;exact hO c v hv
theorem LInv.grow(hs:f.sane)(hx:f.blocks[b]?=some x)(h:LInv f R I O w [])
 (hR:R=f.regs.toNat):let o:=Ef I (O b) x
 LInv f R (A9 I b (inN x o)) (A9 O b o) (CH w b false) (bif chg (inN x o) (I b) (nw R)then AB f b else [])/\
 (chg (inN x o) (I b) (nw R)=true->Jq f.blocks.length (64*nw R) (A9 I b (inN x o))<Jq f.blocks.length (64*nw R) I)/\Jq f.blocks.length (64*nw R) (A9 I b (inN x o))<=Jq f.blocks.length (64*nw R) I:=by
 intro o;have hbl:b<f.blocks.length:=(q05.1 hx).1;have hso:IE f (A9 O b o):=XP h.si h.so hx;have hle:∀v,I b v=true->inN x o v=true:=fun v hv=>by
  rw[LO];refine BA ?_ (h.mono b x hx v hv);intro e;rcases Bool.or_eq_true_iff.1 e with e|e
  . rw[e];rfl
  . have:o v=true:=by show(O b v||_)=true;rw[e];rfl
    rw[this,qX6]
 have hmon:∀c v,I c v=true->A9 I b (inN x o) c v=true:=fun c v hv=>by
  by_cases hc:c=b
  . subst hc;rw[B2];exact hle v hv
  . rw[DR _ hc];exact hv
 refine⟨⟨?_,hso,?_,?_⟩,?_,?_⟩
 . intro c v hv
   by_cases hc:c=b
   . subst hc;rw[B2,LO]at hv;exact soundI_need (I:=I) hso hx (by rw[B2];exact hv)
   . rw[DR _ hc]at hv;exact h.si c v hv
 . intro c y hy v hv
   by_cases hc:c=b
   . subst hc;rw[hx]at hy;cases hy;rw[B2]at hv|-;rw[<-LO];exact hv
   . rw[DR _ hc]at hv|-;exact h.mono c y hy v hv
 . intro c hc hw;obtain⟨y,hy⟩:=Af hc;have hnx:∀d∈y.nexts,0<=d:=fun d hd=>(hs.next y (q33 hy) d hd).1
   -- either nothing new is ahead of b, or c doesn't lead to b, or it is to wait
   by_cases hin:(chg (inN x o) (I b) (nw R)=true/\y.nexts.contains (b:Int)=true)
   . left;rw[hin.1];show c∈AB f b;exact Qi hy hin.2
   . right;have hsame:∀d∈y.nexts,∀v,v<R->A9 I b (inN x o) d.toNat v=I d.toNat v:=fun d hd v hv=>by
      by_cases hdb:d.toNat=b
      . have hcon:y.nexts.contains (b:Int)=true:=by
         rw[q31];have:d=(b:Int):=by have:=hnx d hd;omega
         rw[<-this];exact hd
        have hch:chg (inN x o) (I b) (nw R)=false:=by
         cases e:chg (inN x o) (I b) (nw R)with
         |false=>rfl
         |true=>exact absurd ⟨e,hcon⟩ hin
        rw[hdb,B2];exact jh hch v hv
      . rw[DR _ hdb]
     intro y' hy' v hv;rw[hy]at hy';cases hy'
     by_cases hcb:c=b
     . subst hcb;rw[hx]at hy;cases hy;rw[B2,B2];refine⟨fun d hd hid=>?_,fun hn=>?_⟩
       . rw[hsame d hd v hv]at hid;show(O c v||x.nexts.any fun d=>I d.toNat v)=true;rw[q74.2 ⟨d,hd,hid⟩,qX6]
       . rw[LO];exact hn
     . have hwc:w c=false:=by rw[C2 _ hcb]at hw;exact hw
       have hcl:=(h.cl c hc hwc).elim z130q id y hy v hv;rw[DR _ hcb,DR _ hcb];exact⟨fun d hd hid=>hcl.1 d hd (by rw[hsame d hd v hv]at hid;exact hid),hcl.2⟩
 . intro hch;obtain⟨v,hv,hne⟩:=mq hch;have h1:I b v=false:=by
    grind
   refine falses_lt hmon hbl hv h1 ?_;exact m8
 . by_cases hex:∃v,v<64*nw R/\inN x o v≠I b v
   . obtain⟨v,hv,hne⟩:=hex;have h1:I b v=false:=by
      cases e:I b v with
      |false=>rfl
      |true=>exact absurd (by rw[hle v e,e]) hne
     refine qX0 (falses_lt hmon hbl hv h1 ?_);exact m8
   . refine Nat.le_of_eq ?_;unfold Jq;congr 1;refine q42 fun c _=>?_
     congr 1;refine q42 fun v hv=>?_
     by_cases hc:c=b
     . subst hc;rw[B2];rw[show inN x o v=I c v from Classical.byContradiction fun hne=>hex ⟨v,q94.1 hv,hne⟩]
     . rw[DR _ hc]
theorem LInv.closed(h:LInv f R I O w [])(hw:WaitI f.blocks.length w [])(b:Nat)(hb:b<f.blocks.length):Me f R I O b:=
 (h.cl b hb (by
  cases e:w b with
  |false=>rfl
  |true=>exact absurd ((hw.mem b).2 ⟨hb,e⟩) z145q)).elim z130q id
theorem LInv.inRow(hs:f.sane)(hR:R=f.regs.toNat)(h:LInv f R I O w [])(hw:WaitI f.blocks.length w [])(hb:b<f.blocks.length):GW R (I b)=Kt f b:=by
 subst hR;exact KR fun v hv=>SA hs h.si h.so (fun c hc=>h.closed hw c hc) hb hv
theorem LInv.outRow(hs:f.sane)(hR:R=f.regs.toNat)(h:LInv f R I O w [])(hw:WaitI f.blocks.length w [])(hx:f.blocks[b]?=some x):GW R (O b)=Tr f x:=by
 subst hR;exact KR fun v hv=>Yo hs h.si h.so (fun c hc=>h.closed hw c hc) hx hv
def BN(a:Nat):List AV:=[AV.int .i64 (a:Int)]
def Wz(R:Nat)(x:Block):List AV:=[AV.lst false (BE R (Ks x))]
def Wy(R:Nat)(x:Block):List AV:=[AV.lst false (BE R (fun v=>C3 v x.ins))]
def Qj(A:Nat->List Nat)(c:Nat):AV:=A6 (3*c+2+16) ((A c).map BN)
abbrev jU(f:BFunc)(m len:Nat):List AV:=[AO f.nexts,.ref 7 f.blocks.length 0 f.blocks.length,.ref 8 f.blocks.length 0 f.blocks.length,.ref 9 f.blocks.length 0 f.blocks.length,.ref 3 f.blocks.length 0 f.blocks.length,.ref 4 f.blocks.length 0 f.blocks.length,.ref 6 m 0 len,.ref 5 f.blocks.length 0 f.blocks.length]
abbrev bC(n:Nat)(w:Nat->Bool):List (List AV):=Az (fun b=>.bool (w b)) n
def rI(n R:Nat)(I:BB):Nat->AObj:=CZ n (fun b=>E5 R (I b))
def rA(n:Nat)(A:Nat->List Nat):Nat->AObj:=CZ n (fun c=>By 1 ((A c).map BN))
abbrev mA(f:BFunc)(R:Nat)(es:List (List AV))(len:Nat)(w:Nat->Bool):List AObj:=
  [.row false 8 [jU f es.length len],.row false 1 (Az (rG 0 (nw R)) f.blocks.length),.row false 1 (Az (rG 1 (nw R)) f.blocks.length),.row true 1 (bC f.blocks.length w),.row true 1 es,
   .row false 1 (Az (Qj (AB f)) f.blocks.length),.row true 1 (f.blocks.map (Wz R)),.row true 1 (f.blocks.map (Wy R))]
abbrev HS(f:BFunc)(R:Nat)(es:List (List AV))(len:Nat)(w:Nat->Bool)(F:Nat->AObj):Ad:=Ig (nb (.free:: .free::mA f R es len w)) F
theorem C1(k0:Nat)(A:Nat->List Nat)(c:Nat):(Qj A c).avoid (kf k0)=true:=BV _ (VB _ _)
variable {A : Nat -> List Nat}
theorem CP{k:Nat->Bool}(b:Nat):(rA n A b).avoid k=true:=Fb (fun _=>CJ _ _) b
def Dl(w:Nat->Bool)(es:List (List AV))(len b:Nat):List (List AV):=bif w b then es else Dg es len (BN b)
def D3(w:Nat->Bool)(len b:Nat):Nat:=bif w b then len else len+1
theorem qJ(z:Bool):(bC n w).set b [AV.bool z]=bC n (CH w b z):=by
 show(Az _ n).set b _=_;rw[Ib];refine De fun c _=>?_
 unfold CH;split<;>rfl
theorem Kg(z:Bool):(bC n w).set (0+((b:Nat):Int).toNat) [AV.bool z]=bC n (CH w b z):=by
 rw[qQ8,q55];exact qJ z
structure StackI(n:Nat)(es:List (List AV))(ws:List Nat):Prop where
  top:es.take ws.length=ws.map BN
  le:ws.length<=es.length
  max:es.length<=n
variable {es : List (List AV)}
theorem Ru{len:Nat}(h:len<=es.length)(hn:es.length<=n)(hl:len<n):(Dg es len cs).length<=n:=by
 grind[Dg,List.length_set,List.length_append]
theorem Ox:D3 w ws.length b=(HL w ws b).length:=by
 grind[D3,HL]
theorem StackI.wait{n:Nat}{es:List (List AV)}{ws:List Nat}{w:Nat->Bool}(h:StackI n es ws)(hw:WaitI n w ws){b:Nat}(hb:b<n):StackI n (Dl w es ws.length b) (HL w ws b):=by
 unfold Dl HL
 cases e:w b with
 |true=>exact h
 |false=>
  have hlt:=(hw.wait hb).le;unfold HL at hlt;rw[e]at hlt;simp only[qZ3,q48,q70,q84]at hlt;refine⟨?_,?_,Ru h.le h.max z144q⟩
  . simp only[qZ3,q48,q70,q84];rw[KP h.le,h.top,q77];rfl
  . simp only[qZ3,q48,q70,q84];exact MH h.le
theorem StackI.get(h:StackI n es (ws++[b])):es[ws.length]?=some (BN b):=by
 have h1:=congrArg (fun l=>l[ws.length]?) h.top
 grind
theorem StackI.pop(h:StackI n es (ws++[b])):StackI n es ws:=by
 refine⟨?_,by have:=h.le;simp at this;omega,h.max⟩;have h1:=congrArg (List.take ws.length) h.top
 grind
theorem U0(h:∀b,b<n->BE R (I b)=BE R (I' b)):rI n R I=rI n R I':=funext fun b=>by
 unfold rI CZ
 by_cases hb:b<n
 . rw[qK0 hb,qK0 hb];show AObj.row true 1 _=AObj.row true 1 _;rw[h b hb]
 grind
theorem gq(h:BE R p=BE R q):rI n R (A9 I b p)=rI n R (A9 I b q):=U0 fun c _=>by
 unfold A9;split
 . exact h
 . rfl
theorem ZB(h:BE R (I b)=BE R p):rI n R I=rI n R (A9 I b p):=U0 fun c _=>by
 unfold A9;split
 . subst_vars;exact h
 . rfl
theorem lj(h:b<n):F3 (rI n R I) r1 r2 (3*b+0)=.row true 1 (BE R (I b)):=(wG _ _ _ _).trans (EX h)
theorem vT(h:b<n):F3 r0 (rI n R O) r2 (3*b+1)=.row true 1 (BE R (O b)):=(wE _ _ _ _).trans (EX h)
theorem ZA(h:b<n):F3 (rI n R (A9 I b p)) r1 r2 (3*b+0)=.row true 1 (BE R p):=by rw[lj h,B2]
theorem Rq(h:b<n):F3 r0 (rI n R (A9 O b p)) r2 (3*b+1)=.row true 1 (BE R p):=by rw[vT h,B2]
variable {p' : Nat -> Bool}
theorem gm(hb:b<n):rI n R (A9 I b p')=KE (rI n R (A9 I b p)) b (.row true 1 (BE R p')):=by
 have:=GN (k:=n) (o:=fun c=>E5 R (A9 I b p c)) (o':=fun c=>E5 R (A9 I b p' c)) hb (fun c hc=>by rw[DR _ hc,DR _ hc]);refine this.trans ?_;rw[B2];rfl
theorem gj(h:b<n)(hs:(BE R p).set k cs=BE R p')(x:Nat):
 F3 r0 (rI n R (A9 O b p')) r2 x=if x=3*b+1 then .row true 1 ((BE R p).set (0+((k:Nat):Int).toNat) cs)else F3 r0 (rI n R (A9 O b p)) r2 x:=by
 rw[gm (p:=p) h,oQ,qQ8,q55,hs]
theorem gk(h:b<n)(hs:(BE R p).set k cs=BE R p')(x:Nat):
 F3 (rI n R (A9 I b p')) r1 r2 x=if x=3*b+0 then .row true 1 ((BE R p).set (0+((k:Nat):Int).toNat) cs)else F3 (rI n R (A9 I b p)) r1 r2 x:=by
 rw[gm (p:=p) h,oS,qQ8,q55,hs]
theorem Ba{k:Nat->Bool}(b:Nat):(rI n R I b).avoid k=true:=Fb (fun _=>rfl) b
theorem vQ(h:∀v,I b v=p v)(x:Nat):F3 (rI n R I) r1 r2 x=F3 (rI n R (A9 I b p)) r1 r2 x:=by rw[ZB (Ec h)]
theorem vP(h:∀v,O b v=p v)(x:Nat):F3 r0 (rI n R O) r2 x=F3 r0 (rI n R (A9 O b p)) r2 x:=by rw[ZB (Ec h)]
theorem fM(h:BE R p=BE R q)(x:Nat):F3 (rI n R (A9 I b p)) r1 r2 x=F3 (rI n R (A9 I b q)) r1 r2 x:=by rw[gq h]
theorem fL(h:BE R p=BE R q)(x:Nat):F3 r0 (rI n R (A9 O b p)) r2 x=F3 r0 (rI n R (A9 O b q)) r2 x:=by rw[gq h]
theorem g8(h:((((wd (fun v=>p (64*k+v)):Nat):Int)) !=((wd (fun v=>q (64*k+v)):Nat):Int))=z):(Qw p k !=Qw q k)=z:=by
 rw[<-h]
 grind[wd,Qw]
theorem dv(h:(a !=b)=false):a=b:=by simpa using h
variable {o : Oper} {P : Program} {e : Ax} {h : Ad} {fn : Func} {args : Array Operand} {tys : Array TypeId} {xs : List AV} {r : AV}
theorem RB{g:FuncId}(z:Nat){q:AObj}
 (ho:o.op=.call {callee:=.value (.func g),args:=args,argTypes:=tys}) (hf:P.funcs[g]?=some fn) (hn:(fn.name== "runtime.NumGoroutine")=false) (hb:fn.body.isSome=true) (hx:A8 e args.toList=some xs)
 (hxa:xs.all (AV.avoid (mem [z]))=true) (hz:h z=some .free) (hq:q.avoid (mem [z])=true) (hra:r.avoid (mem [z])=true)
 (hcall:ACall P g xs (hput hNew z .free) (fun r' h'=>r'=r/\HSub (hput hNone z q) h')):OLoc P o e h [z] [(z,q)] (some r):=
 Jf (hc:=hput hNew z .free) (hw:=hput hNone z q) [z] [(z,q)] ho hf hn hb hx hxa ⟨⟨.free,hz,rfl⟩,trivial⟩ (by simp[N7]) (Ac hz (AE h)) ⟨⟨q,At _ _ _,At _ _ _,hq⟩,trivial⟩ hra hcall
def Wk(x y:AV):Prop:=(x.cell1=true->y.cell1=true)/\∀H ι v,Rel H ι x v->Rel H ι y v
theorem Wk.refl(x:AV):Wk x x:=⟨fun h=>h,fun _ _ _ h=>h⟩
theorem Wk.nil(b:Nat):Wk .nil (A6 b []):=⟨fun _=>rfl,fun H ι v h=>fS h⟩
def WkAll:List AV->List AV->Prop
  | [],[]=>True
  |x::xs,y::ys=>Wk x y/\WkAll xs ys
  |_,_=>False
theorem WkAll.len:∀{xs ys:List AV},WkAll xs ys->ys.length=xs.length
 | [],[],_=>rfl
 |x::xs,y::ys,h=>by rw[q70,q70,WkAll.len h.2]
theorem WkAll.get:∀{xs ys:List AV},WkAll xs ys->∀(j:Nat) (x y:AV),xs[j]?=some x->ys[j]?=some y->Wk x y
 | [],[],_,j,x,y,h1,h2=>by simp at h1
 |a::xs,b::ys,h,0,x,y,h1,h2=>by cases h1;cases h2;exact h.1
 |a::xs,b::ys,h,j+1,x,y,h1,h2=>WkAll.get h.2 j x y h1 h2
theorem Ow{cs':List AV}(h:WkAll cs cs'):∀(i:Nat) (ds ds':List AV),[cs][i]?=some ds->[cs'][i]?=some ds'->ds'.length=ds.length/\∀(j:Nat) (x y:AV),ds[j]?=some x->ds'[j]?=some y->(x.cell1=true->y.cell1=true)/\∀H ι v,Rel H ι x v->Rel H ι y v:=fun i ds ds' h1 h2=>by
 cases i with
 |zero=>cases h1;cases h2;exact⟨h.len,fun j x y g1 g2=>h.get j x y g1 g2⟩
 |succ i=>simp at h1
theorem weak_col{x:AV}(h:∀b,Wk x (g b)):∀(i:Nat) (ds ds':List AV),(List.replicate n [x])[i]?=some ds->(Az g n)[i]?=some ds'->ds'.length=ds.length/\∀(j:Nat) (x y:AV),ds[j]?=some x->ds'[j]?=some y->(x.cell1=true->y.cell1=true)/\∀H ι v,Rel H ι x v->Rel H ι y v:=fun i ds ds' h1 h2=>by
 grind[Wj,List.mem_of_getElem?,Wk,Az]
abbrev wu(f:BFunc)(R k:Nat):List AV:=[AO f.nexts,.ref 7 f.blocks.length 0 f.blocks.length,A6 8 ((f.blocks.take k).map (Wz R)),A6 9 ((f.blocks.take k).map (Wy R)),A6 3 (Az (rG 0 (nw R)) k),A6 4 (Az (rG 1 (nw R)) k),.nil,.ref 5 f.blocks.length 0 f.blocks.length]
variable {k0 : Nat}
theorem JO(f:BFunc)(R:Nat)(h:10<=k0){a b c d:List (List AV)}:(AObj.row false 8 [[AO f.nexts,AV.ref 7 f.blocks.length 0 f.blocks.length,A6 8 a,A6 9 b,A6 3 c,A6 4 d,AV.nil,AV.ref 5 f.blocks.length 0 f.blocks.length]]).avoid (kf k0)=true:=by
 have hk:∀c,c<10->kf k0 c=true:=fun c hc=>oD z144q
 show(List.all [_,_,_,_,_,_,_,_] (AV.avoid (kf k0))&&true)=true;simp only[qQ1,qX7,qQ4,q66];exact⟨rfl,hk 7 z144q,BV _ (hk 8 z144q),BV _ (hk 9 z144q),BV _ (hk 3 z144q),BV _ (hk 4 z144q),rfl,hk 5 z144q⟩
variable {A' : Nat -> List Nat}
theorem qK{d:Nat}(h:∀c,A' c=if c=d then A c++[k]else A c):(Az (Qj A) n).set (0+d) [A6 (3*d+2+16) ((A d).map BN++[BN k])]=Az (Qj A') n:=by
 grind[Ib,De,Qj,Az,A6,BN]
theorem qd{d:Nat}(hd:d<n)(h:∀c,A' c=if c=d then A c++[k]else A c)(x:Nat):F3 r0 r1 (rA n A') x=if x=3*d+2 then By 1 ((A d).map BN++[BN k])else F3 r0 r1 (rA n A) x:=by
 have e:rA n A'=KE (rA n A) d (By 1 ((A' d).map BN)):=GN hd fun c hc=>by rw[h,qZ9 hc]
 grind[wD,F3,rA,By,BN]
theorem U1(h:∀c,A c=A' c):rA n A=rA n A':=by rw[funext h]
theorem qe(h:b<n):F3 r0 r1 (rA n A) (3*b+2)=By 1 ((A b).map BN):=(yP _ _ _ _).trans (EX h)
theorem li:F3 (rI k R I) r1 r2 (3*k+0)=.free:=(wG _ _ _ _).trans (KJ (qZ0 _))
theorem lh:F3 r0 (rI k R O) r2 (3*k+1)=.free:=(wE _ _ _ _).trans (KJ (qZ0 _))
abbrev B0:BB:=fun _ _=>false
theorem gp(x:Nat):F3 (rI (k+1) R B0) r1 r2 x=if x=3*k+0 then E5 R (fun _=>false)else F3 (rI k R B0) r1 r2 x:=by
 unfold rI;rw[Jb,oS]
theorem gn(x:Nat):F3 r0 (rI (k+1) R B0) r2 x=if x=3*k+1 then E5 R (fun _=>false)else F3 r0 (rI k R B0) r2 x:=by
 unfold rI;rw[Jb,oQ]
theorem rI_start{x:Nat}:F3 (rI 0 R B0) (rI 0 R B0) (rA n (fun _=>[])) x=.free:=by
 unfold F3 rI rA CZ;rw[qZ9 (Nat.not_lt_zero _)];split
 . rfl
 . split
   . rfl
   . split<;>rfl
theorem fD(hx:f.blocks[k]?=some x):[AO f.nexts,AV.ref 7 f.blocks.length 0 f.blocks.length,A6 8 ((f.blocks.take k).map (Wz R)++[Wz R x]),A6 9 ((f.blocks.take k).map (Wy R)++[Wy R x]),A6 3 (Az (rG 0 (nw R)) k++[[rG 0 (nw R) k]]),A6 4 (Az (rG 1 (nw R)) k++[[rG 1 (nw R) k]]),AV.nil,AV.ref 5 f.blocks.length 0 f.blocks.length]=wu f R (k+1):=by
 have e:∀g:Block->List AV,(f.blocks.take k).map g++[g x]=(f.blocks.take (k+1)).map g:=fun g=>by
  rw[q59,hx,q77];rfl
 rw[e (Wz R),e (Wy R),<-Kf,<-Kf]
theorem QL(hx:f.blocks[k]?=some x)(g:Block->List AV):(f.blocks.take k).map g++[g x]=(f.blocks.take (k+1)).map g:=by
 rw[q59,hx,q77];rfl
theorem kV(h:0<f.blocks.length):wu f R f.blocks.length=[AO f.nexts,AV.ref 7 f.blocks.length 0 f.blocks.length,.ref 8 f.blocks.length 0 f.blocks.length,.ref 9 f.blocks.length 0 f.blocks.length,.ref 3 f.blocks.length 0 f.blocks.length,.ref 4 f.blocks.length 0 f.blocks.length,AV.nil,AV.ref 5 f.blocks.length 0 f.blocks.length]:=by
 have e:∀(t:Nat) (g:Block->List AV),A6 t ((f.blocks.take f.blocks.length).map g)=.ref t f.blocks.length 0 f.blocks.length:=fun t g=>by
  rw[q71];have:=OL (b:=t) (es:=f.blocks.map g) (k:=0) (by rw[q76];exact h)
  grind
 show [_,_,A6 8 _,A6 9 _,A6 3 _,A6 4 _,_,_]=_;rw[e,e,Zk h,Zk h]
theorem Zj{l:List Block}{g:Block->List AV}(h:0<l.length):By 1 (l.map g)=.row true 1 (l.map g):=by
 cases l with
 |nil=>simp at h
 |cons x l=>rfl
variable {α : Type}
theorem JZ{l:List α}{g:α->List AV}(h:∀x,(g x).length=1):∀cs∈l.map g,cs.length=1:=fun cs hc=>by
 grind
theorem GT{l:List α}{g:α->List AV}(h:∀x,(g x).all AV.isPure1=true):∀cs∈l.map g,cs.all AV.isPure1=true:=fun cs hc=>by
 grind
def kS:Nat->Bool:=fun c=>(Nat.ble 2 c&&Nat.blt c 10)||Nat.ble 16 c
def Lv(h g:Ad):Ad:=fun c=>bif kS c then g c else h c
theorem iu(x:Nat):kS (x+16)=true:=by
 unfold kS;rw[show Nat.ble 16 (x+16)=true by rw[qZ5];omega];simp
theorem iv(h:kS c=false):c=0\/c=1\/(10<=c/\c<16):=by
 unfold kS at h;simp only[q38,Bool.and_eq_false_iff]at h;obtain⟨h1,h2⟩:=h;have h3:¬16<=c:=fun e=>by rw[<-qZ5]at e;rw[e]at h2;cases h2
 rcases h1 with h1|h1
 . have:¬2<=c:=fun e=>by rw[<-qZ5]at e;rw[e]at h1;cases h1
   omega
 . have:¬c<10:=fun e=>by
    have:Nat.blt c 10=true:=by unfold Nat.blt;rw[qZ5];omega
    rw[this]at h1;cases h1
   omega
theorem Oc(h:kS c=true):(2<=c/\c<10)\/16<=c:=by
 unfold kS at h
 (simp_all;done)
theorem Lu(h g:Ad)(x:Nat):Lv h g (x+16)=g (x+16):=by unfold Lv;rw[iu];rfl
variable {g : Ad}
theorem HW(hc:kS c=true):Lv h g c=g c:=by unfold Lv;rw[hc];rfl
theorem Tk(hc:kS c=false):Lv h g c=h c:=by unfold Lv;rw[hc];rfl
theorem dC(f:BFunc)(R:Nat)(es:List (List AV))(len:Nat)(w:Nat->Bool):∀i,i<8->(WA (mA f R es len w) i).avoid kS=true:=fun i hi=>by
 have h3:∀q b,(rG q (nw R) b).avoid kS=true:=fun q b=>by
  simp[rG,AV.avoid,AV.flat,iu]
 have h7:∀A b,(Qj A b).avoid kS=true:=fun A b=>BV _ (iu _)
 rcases(by omega:i=0\/i=1\/i=2\/i=3\/i=4\/i=5\/i=6\/i=7)with rfl|rfl|rfl|rfl|rfl|rfl|rfl|rfl
 . rfl
 . exact Ah (fun b _=>h3 0 b)
 . exact Ah (fun b _=>h3 1 b)
 . rfl
 . rfl
 . exact Ah (fun b _=>h7 _ b)
 . rfl
 . rfl
theorem jJ(f:BFunc)(R:Nat)(es:List (List AV))(len:Nat)(w:Nat->Bool)(F:Nat->AObj)(hi:i<8):HS f R es len w F (2+i)=some (WA (mA f R es len w) i):=by
 exact mJ
variable {F : Nat -> AObj}
theorem Qp{len:Nat}(hF:∀x,(F x).avoid kS=true)(hc:kS c=true):∃q,HS f R es len w F c=some q/\q.avoid kS=true:=by
 rcases Oc hc with h|h
 . obtain⟨i,rfl⟩:∃i,c=2+i:=⟨c-2,by omega⟩
   exact⟨_,jJ f R es len w F z144q,dC f R es len w i z144q⟩
 . obtain⟨x,rfl⟩:∃x,c=x+16:=⟨c-16,by omega⟩
   exact⟨_,As _ _ _,hF x⟩
def LowS(h:Ad):Nat->List AObj->Prop
  |_,[]=>True
  |i,o::L=>h i=some o/\LowS h (i+1) L
theorem LowS.get{h:Ad}:∀{L:List AObj} {i c:Nat},LowS h i L->c<L.length->h (i+c)=some (WA L c)
 |o::L,i,0,hl,_=>hl.1
 |o::L,i,c+1,hl,hc=>by
  have:=LowS.get (L:=L) (i:=i+1) (c:=c) hl.2 (by simpa using hc);rw[show i+(c+1)=i+1+c by omega];exact this
theorem jI{len:Nat}(h1:LowS h 2 (mA f R es len w))(h2:∀x,h (x+16)=some (F x))(hc:kS c=true):h c=HS f R es len w F c:=by
 rcases Oc hc with hh|hh
 . obtain⟨i,rfl⟩:∃i,c=2+i:=⟨c-2,by omega⟩
   rw[jJ f R es len w F z144q];exact h1.get (by show i<8;omega)
 . obtain⟨x,rfl⟩:∃x,c=x+16:=⟨c-16,by omega⟩
   rw[h2];exact(As _ _ _).symm
theorem qr{len:Nat}(h1:LowS h 2 (mA f R es len w))(h2:∀x,h (x+16)=some (F x)):HSub (Lv hNone (HS f R es len w F)) h:=fun c o ho=>by
 cases e:kS c with
 |true=>rw[HW e]at ho;rw[jI h1 h2 e];exact ho
 |false=>rw[Tk e]at ho;cases ho
theorem Pb:Dl (fun b=>decide (b<k)) ((List.range k).map BN) k k=(List.range (k+1)).map BN:=by
 unfold Dl Dg;simp[q79]
theorem Mm(k:Nat):CH (fun b=>decide (b<k)) k true=fun b=>decide (b<k+1):=funext fun c=>by
 grind[CH]
theorem RU(k:Nat):D3 (fun b=>decide (b<k)) k k=k+1:=by
 unfold D3;simp
theorem iD{len:Nat}(h1:LowS h 2 (mA f R es len w))(h2:∀x,h (x+16)=some (F x)):EL h kS=HS f R es len w F:=funext fun c=>by
 unfold EL
 cases e:kS c with
 |true=>exact jI h1 h2 e
 |false=>
  rcases iv e with rfl|rfl|hc
  . rfl
  . rfl
  . show some AObj.free=Ig (nb (.free:: .free::mA f R es len w)) F c;rw[KX _ _ z144q];show some AObj.free=some (WA (.free:: .free::mA f R es len w) c);rw[nth_out (by show 10<=c;omega)]
theorem Po{g:FuncId}{es':List (List AV)}{len len':Nat}{w':Nat->Bool}{F':Nat->AObj}
 (ho:o.op=.call {callee:=.value (.func g),args:=args,argTypes:=tys}) (hf:P.funcs[g]?=some fn) (hn:(fn.name== "runtime.NumGoroutine")=false) (hb:fn.body.isSome=true) (hx:A8 e args.toList=some xs)
 (hxa:xs.all (AV.avoid kS)=true) (h1:LowS h 2 (mA f R es len w)) (h2:∀x,h (x+16)=some (F x)) (hF:∀x,(F x).avoid kS=true) (hF':∀x,(F' x).avoid kS=true) (hra:r.avoid kS=true)
 (hcall:ACall P g xs (HS f R es len w F) (fun r' h'=>r'=r/\HSub (HS f R es' len' w' F') h')):NT P o e h (Lv h (HS f R es' len' w' F')) r:=
 LF (hw:=HS f R es' len' w' F') kS ho hf hn hb hx hxa (fun b hb=>by rw[jI h1 h2 hb];exact Qp hF hb) (iD h1 h2) (fun b hb=>Tk hb)
  (fun b hb=>by obtain⟨q,q1,q2⟩:=Qp (f:=f) (R:=R) (es:=es') (len:=len') (w:=w') hF' hb;exact⟨q,q1,(HW hb).trans q1,q2⟩) hra hcall
theorem Fz(l:List α):l=[]\/∃L b,l=L++[b]:=by
 cases h:l.reverse with
 |nil=>left;exact List.reverse_eq_nil_iff.1 h
 |cons b r=>right;exact⟨r.reverse,b,by rw[<-List.reverse_reverse l,h,List.reverse_cons]⟩
theorem WT(n:Nat):WaitI n (fun b=>decide (b<0)) []:=by
 refine⟨List.nodup_nil,fun b=>by simp,?_⟩
 induction n with
 |zero=>rfl
 |succ n ih=>rw[q79,q77,q82,ih];simp
theorem I0{n:Nat}:∀k,k<=n->WaitI n (fun b=>decide (b<k)) (List.range k)
 |0,_=>WT n
 |k+1,h=>by
  have:=(I0 (n:=n) k z144q).push (b:=k) z144q z145q;rw[Mm,<-q79]at this;exact this
theorem stackI_range(n:Nat):StackI n ((List.range n).map BN) (List.range n):=by
 refine⟨?_,by simp,by simp⟩;rw[q20 z145q]
theorem LA{L:List Nat}(h:L.length<=1000000):AX .sub (.int .i64 (((L++[b]).length:Nat):Int)) (.int .i64 1)=some (.int .i64 (L.length:Int)):=by
 grind[AX,BH,isShift,Cq]
theorem lI{F F':Nat}(h:F'<F)(ha:a<=n):F'*(n+1)+a<F*(n+1)+b:=by
 have h1:(F'+1)*(n+1)<=F*(n+1):=q34 _ h
 grind
theorem lJ{F F':Nat}(h:F'<=F)(ha:a<b):F'*(n+1)+a<F*(n+1)+b:=by
 have h1:F'*(n+1)<=F*(n+1):=q34 _ h;omega
structure LQ where
  I:BB
  O:BB
  w:Nat->Bool
  ws:List Nat
  es:List (List AV)
structure LQI(f:BFunc)(R:Nat)(q:LQ):Prop where
  k:LInv f R q.I q.O q.w []
  wt:WaitI f.blocks.length q.w q.ws
  st:StackI f.blocks.length q.es q.ws
def zf(f:BFunc)(R:Nat)(q:LQ):Nat:=Jq f.blocks.length (64*nw R) q.I*(f.blocks.length+1)+q.ws.length
def y3(n:Nat):LQ:=⟨B0,B0,fun b=>decide (b<n),List.range n,(List.range n).map BN⟩
theorem LQI.first(f:BFunc)(R:Nat):LQI f R (y3 f.blocks.length):=⟨LInv.first fun b hb=>q96 hb,I0 _ (qZ0 _),stackI_range _⟩
structure LP where
  w:Nat->Bool
  ws:List Nat
  es:List (List AV)
  j:Nat
structure LPI(f:BFunc)(R:Nat)(I O:BB)(b:Nat)(p:LP):Prop where
  k:LInv f R I O p.w ((AB f b).drop p.j)
  wt:WaitI f.blocks.length p.w p.ws
  st:StackI f.blocks.length p.es p.ws
variable {p : LP}
theorem LPI.next(h:LPI f R I O b p)(ha:(AB f b)[p.j]?=some a):LPI f R I O b ⟨Km p.w a,HL p.w p.ws a,Dl p.w p.es p.ws.length a,p.j+1⟩:=by
 have hlt:=Kh (q33 ha);have hk:=h.k;rw[q07 (q05.1 ha).1,(q05.1 ha).2]at hk;exact⟨hk.wait,h.wt.wait hlt,h.st.wait h.wt hlt⟩
theorem LPI.done(h:LPI f R I O b p)(hj:(AB f b).length<=p.j):LQI f R ⟨I,O,p.w,p.ws,p.es⟩:=by
 have hk:=h.k;rw[List.drop_eq_nil_iff.2 hj]at hk;exact⟨hk,h.wt,h.st⟩
theorem Yy(f:BFunc)(c:Nat):(AB f c).length<=2*f.blocks.length+2:=by
 have:=K1 f f.blocks.length 0 c
 grind[DA,AB]
theorem FSq{l:List (List Bool)}{x:List Bool}(h:l[k]?=some x):(l.take k).map Dj++[Dj x]=(l.take (k+1)).map Dj:=by
 rw[q59,h,q77];rfl
theorem PM(h:k<f.blocks.length):(EF f)[k]?=some (Kt f k):=by simp[EF,h]
theorem Nx(h:f.blocks[k]?=some x):(Is f)[k]?=some (Tr f x):=by simp[Is,h]
theorem Ns(h:13<=k0){a b:List (List AV)}:(AObj.row false 2 [[A6 11 a,A6 12 b]]).avoid (kf k0)=true:=by
 have hk:∀c,c<13->kf k0 c=true:=fun c hc=>oD z144q
 show(List.all [_,_] (AV.avoid (kf k0))&&true)=true
 grind[BV,A6,kf]
structure Site where
  at_:Nat
  r:Bool
  s:Bool
def EP(G:Nat->Bool):List Tac->Nat->List Tac
  | [],_=>[]
  |t::l,j=>bif G j then EP G l (j+1)else t::EP G l (j+1)
theorem Tx(G:Nat->Bool)(l2:List Tac):∀(l1:List Tac) (j:Nat),EP G (l1++l2) j=EP G l1 j++EP G l2 (j+l1.length)
 | [],j=>by simp[EP]
 |t::l,j=>by
  rw[q73,EP,EP,Tx G l2 l (j+1),q70]
  grind
theorem J7{G G':Nat->Bool}:∀(l:List Tac) (j:Nat),(∀i,j<=i->i<j+l.length->G i=G' i)->EP G l j=EP G' l j
 | [],_,_=>rfl
 |t::l,j,h=>by
  rw[EP,EP,h j (qZ0 _) z145q,J7 l (j+1) fun i h1 h2=>h i z144q Df]
theorem Ob(G:Nat->Bool):∀(l:List Tac) (j:Nat),(EP G l j).length<=l.length
 | [],_=>qZ0 _
 |t::l,j=>by
  have:=Ob G l (j+1)
  grind[EP]
theorem Vw:∀(l:List Tac) (j:Nat),EP (fun _=>false) l j=l
 | [],_=>rfl
 |t::l,j=>by rw[EP,Vw l (j+1)];rfl
variable {p : Nat} {l : List Tac}
theorem RY{G:Nat->Bool}(h:l[p]?=some t):EP G l 0=EP G (l.take p) 0++(bif G p then EP G (l.drop (p+1)) (p+1)else t::EP G (l.drop (p+1)) (p+1)):=by
 have hp:=(q05.1 h).1;have e:l=l.take p++t::l.drop (p+1):=by
  have:=q07 hp;rw[(q05.1 h).2]at this;rw[<-this,q32]
 grind[Tx,EP]
def Hb(z:Bool)(v:Nat):List Tac->Nat->List Site
  | [],j=>bif z then [⟨j,true,false⟩]else []
  |t::l,j=>bif t.uses.contains (v:Int)||t.sets==(v:Int)then⟨j,t.uses.contains (v:Int),t.sets==(v:Int)⟩::Hb z v l (j+1)else Hb z v l (j+1)
theorem E7(z:Bool)(v:Nat)(t:Tac)(l:List Tac)(j:Nat):Hb z v (t::l) j=bif t.uses.contains (v:Int)||t.sets==(v:Int)then⟨j,t.uses.contains (v:Int),t.sets==(v:Int)⟩::Hb z v l (j+1)else Hb z v l (j+1):=rfl
def Bd(x:Block)(v:Nat):List Site:=Hb (Dy x v) v x.ins 0
def leftS(G:Nat->Bool)(n:Nat)(s:Site):Bool:=s.at_==n|| !G s.at_
def Dt(G:Nat->Bool)(n:Nat):List Site->Bool->Bool
  | [],z=>z
  |s::l,z=>bif leftS G n s then s.r||(!s.s&&Dt G n l z)else Dt G n l z
def Du(G:Nat->Bool)(n:Nat):List Site->Nat
  | []=>0
  |s::l=>bif leftS G n s then(bif s.r then 1 else 2)else Du G n l
theorem Jh{G G':Nat->Bool}{n:Nat}{z:Bool}:∀{l:List Site},(∀s∈l,leftS G n s=leftS G' n s)->Dt G n l z=Dt G' n l z
 | [],_=>rfl
 |s::l,h=>by
  rw[Dt,Dt,h s (q99.2 (.inl rfl)),Jh fun s hs=>h s (q99.2 (.inr hs))]
theorem Iu{G:Nat->Bool}{n v:Nat}{e z:Bool}:∀{l:List Tac} {j:Nat},j+l.length=n->Dt G n (Hb e v l j) z=need v (EP G l j) (e||z)
 | [],j,h=>by
  grind[Hb,Dt,EP,need,leftS]
 |t::l,j,h=>by
  have ih:=Iu (G:=G) (n:=n) (v:=v) (e:=e) (z:=z) (l:=l) (j:=j+1) (by simp at h;omega)
  grind[Hb,EP,Dt,need,leftS]
theorem V4{G:Nat->Bool}{n:Nat}{z:Bool}:∀{l:List Site},Du G n l=1->Dt G n l z=true
 | [],h=>by cases h
 |s::l,h=>by
  have ih:=V4 (G:=G) (n:=n) (z:=z) (l:=l)
  grind[Du,Dt,leftS]
theorem PW{G:Nat->Bool}{n:Nat}{z:Bool}:∀{l:List Site},Du G n l=0->Dt G n l z=z
 | [],h=>rfl
 |s::l,h=>by
  have ih:=PW (G:=G) (n:=n) (z:=z) (l:=l)
  grind[Du,Dt,leftS]
theorem V3{G:Nat->Bool}{n:Nat}{z:Bool}:∀{l:List Site},(∀s∈l,(s.r||s.s)=true)->Du G n l=2->Dt G n l z=false
 | [],_,h=>by cases h
 |s::l,hs,h=>by
  have ih:=V3 (G:=G) (n:=n) (z:=z) (l:=l) (fun s h=>hs s (q99.2 (.inr h)))
  grind[Du,Dt,leftS]
theorem firstS_le{G:Nat->Bool}{n:Nat}:∀{l:List Site},Du G n l=0\/Du G n l=1\/Du G n l=2
 | []=>.inl rfl
 |s::l=>by
  have ih:=firstS_le (G:=G) (n:=n) (l:=l)
  grind[Du,leftS]
theorem OR{z:Bool}{v:Nat}:∀{l:List Tac} {j:Nat},∀s∈Hb z v l j,(s.r||s.s)=true
 | [],j,s,h=>by
  grind[Hb]
 |t::l,j,s,h=>by
  unfold Hb at h
  cases e:t.uses.contains (v:Int)||t.sets==(v:Int)with
  |false=>rw[e]at h;exact OR s h
  |true=>
   rw[e]at h;rcases q99.1 h with rfl|h
   . exact e
   . exact OR s h
theorem siF_get{z:Bool}{v:Nat}:∀{l:List Tac} {j k:Nat} {s:Site},(Hb z v l j)[k]?=some s->
 (s.at_=j+l.length/\s.r=true/\s.s=false/\z=true/\k+1=(Hb z v l j).length)\/∃p t,s.at_=j+p/\l[p]?=some t/\s.r=t.uses.contains (v:Int)/\s.s=(t.sets==(v:Int))/\(Hb z v l j).drop (k+1)=Hb z v (l.drop (p+1)) (j+p+1)
 | [],j,k,s,h=>by
  grind[Hb]
 |t::l,j,k,s,h=>by
  have key:∀k',(Hb z v l (j+1))[k']?=some s->(s.at_=j+(t::l).length/\s.r=true/\s.s=false/\z=true/\k'+1=(Hb z v l (j+1)).length)\/∃p u,s.at_=j+p/\(t::l)[p]?=some u/\s.r=u.uses.contains (v:Int)/\s.s=(u.sets==(v:Int))/\(Hb z v l (j+1)).drop (k'+1)=Hb z v ((t::l).drop (p+1)) (j+p+1):=fun k' h'=>by
   rcases siF_get h' with⟨h1,h2,h3,h4,h5⟩|⟨p,u,h1,h2,h3,h4,h5⟩
   . exact .inl ⟨by rw[h1,q70];omega,h2,h3,h4,h5⟩
   . refine .inr ⟨p+1,u,by omega,h2,h3,h4,?_⟩;rw[h5,List.drop_succ_cons];congr 1;omega
  rw[E7]at h|-
  cases e:t.uses.contains (v:Int)||t.sets==(v:Int)with
  |false=>rw[e]at h;simp only[qZ3]at h|-;exact key k h
  |true=>
   rw[e]at h;simp only[qZ7]at h|-
   cases k with
   |zero=>
    simp only[List.getElem?_cons_zero,q53]at h;subst h;exact .inr ⟨0,t,rfl,rfl,rfl,rfl,by simp⟩
   |succ k=>
    rw[q17]at h;rcases key k h with⟨h1,h2,h3,h4,h5⟩|h1
    . exact .inl ⟨h1,h2,h3,h4,by rw[q70,h5]⟩
    . rw[List.drop_succ_cons];exact .inr h1
theorem fA{z:Bool}{v:Nat}:∀{l:List Tac} {j p:Nat} {t:Tac},l[p]?=some t->t.sets=(v:Int)->∃k s,(Hb z v l j)[k]?=some s/\s.at_=j+p/\s.s=true/\(Hb z v l j).drop (k+1)=Hb z v (l.drop (p+1)) (j+p+1)
 | [],j,p,t,h,_=>by simp at h
 |u::l,j,0,t,h,hs=>by
  simp only[List.getElem?_cons_zero,q53]at h;subst h;have e:(u.sets==(v:Int))=true:=by rw[hs];simp
  rw[E7,e,qX6,qZ7];exact⟨0,_,rfl,rfl,rfl,by simp⟩
 |u::l,j,p+1,t,h,hs=>by
  obtain⟨k,s,h1,h2,h3,h4⟩:=fA (z:=z) (l:=l) (j:=j+1) (p:=p) He hs;have e2:Hb z v ((u::l).drop (p+1+1)) (j+(p+1)+1)=Hb z v (l.drop (p+1)) (j+1+p+1):=by
   grind
  rw[E7]
  cases e:u.uses.contains (v:Int)||u.sets==(v:Int)with
  |false=>rw[qZ3];exact⟨k,s,h1,by omega,h3,by rw[e2];exact h4⟩
  |true=>rw[qZ7];exact⟨k+1,s,h1,by omega,h3,by rw[e2,List.drop_succ_cons];exact h4⟩
theorem Xh{z:Bool}{v:Nat}:∀{l:List Tac} {j:Nat},∀s∈Hb z v l j,j<=s.at_/\s.at_<=j+l.length
 | [],j,s,h=>by
  grind[Hb]
 |t::l,j,s,h=>by
  unfold Hb at h;have key:s∈Hb z v l (j+1)->j<=s.at_/\s.at_<=j+(t::l).length:=fun h'=>by
   have:=Xh s h';simp only[q70];omega
  grind
abbrev GG:=Nat->Nat->Bool
def CB(f:BFunc)(G:GG):BFunc:={f with blocks:=f.blocks.zipIdx.map fun p=>p.1.mid (EP (G p.2) p.1.ins 0)}
variable {G : GG}
theorem F8(h:f.blocks[b]?=some x):(CB f G).blocks[b]?=some (x.mid (EP (G b) x.ins 0)):=by
 simp[CB,h]
theorem Ol{y:Block}(h:(CB f G).blocks[b]?=some y):∃x,f.blocks[b]?=some x/\y=x.mid (EP (G b) x.ins 0):=by
 simp only[CB,q54,q37,Option.map_map]at h
 grind
theorem cutF_len(f:BFunc)(G:GG):(CB f G).blocks.length=f.blocks.length:=by simp[CB]
theorem c8(f:BFunc):CB f (fun _ _=>false)=f:=by
 have:(CB f (fun _ _=>false)).blocks=f.blocks:=by
  refine q62 fun i=>?_
  cases e:f.blocks[i]? with
  |none=>
   rw[q09]at e|-;rw[cutF_len];exact e
  |some x=>rw[F8 e,Vw];rfl
 cases f
 grind[CB]
def D8(G:GG)(b p:Nat):GG:=fun c q=>G c q||(c==b&&q==p)
theorem JW(G:GG)(b p:Nat):D8 G b p b p=true:=by simp[D8]
theorem Gz{q:Nat}(h:¬(c=b/\q=p)):D8 G b p c q=G c q:=by
 unfold D8
 grind
theorem i6(hx:f.blocks[b]?=some x)(ht:x.ins[p]?=some t)(hG:G b p=false):
 CB f (D8 G b p)=(CB f G).putB b (x.mid (EP (G b) (x.ins.take p) 0++EP (G b) (x.ins.drop (p+1)) (p+1))):=by
 have e:(CB f (D8 G b p)).blocks=(CB f G).blocks.set b (x.mid (EP (G b) (x.ins.take p) 0++EP (G b) (x.ins.drop (p+1)) (p+1))):=by
  refine q62 fun c=>?_
  rw[q60]
  by_cases hc:b=c
  . subst hc;have hlt:b<(CB f G).blocks.length:=by rw[cutF_len];exact(q05.1 hx).1
    rw[qK0 rfl,qK0 hlt,F8 hx,RY ht,JW,qZ7];have hlp:(x.ins.take p).length<=p:=by rw[q69];exact Nat.min_le_left _ _
    rw[J7 (G:=D8 G b p b) (G':=G b) (x.ins.take p) 0 fun i _ hi=>Gz z144q,J7 (G:=D8 G b p b) (G':=G b) (x.ins.drop (p+1)) (p+1) fun i hi _=>Gz z144q]
  . rw[qZ9 hc]
    cases e:f.blocks[c]? with
    |none=>
     have h1:(CB f (D8 G b p)).blocks[c]?=none:=by rw[q09]at e|-;rw[cutF_len];exact e
     have h2:(CB f G).blocks[c]?=none:=by rw[q09]at e|-;rw[cutF_len];exact e
     rw[h1,h2]
    |some y=>
     rw[F8 e,F8 e,J7 (G:=D8 G b p c) (G':=G c) y.ins 0 fun i _ _=>Gz z144q]
 have:∀(g h:BFunc),g.blocks=h.blocks->g.regs=h.regs->g=h:=fun g h h1 h2=>by cases g;cases h;simp only at h1 h2;rw[h1,h2]
 exact this _ _ e rfl
theorem i8(hx:f.blocks[b]?=some x)(ht:x.ins[p]?=some t)(hG:G b p=false)(hp:t.pure=true)(hv:t.sets=(v:Int))
 (hd:need v (EP (G b) (x.ins.drop (p+1)) (p+1)) (endB (CB f G) x v)=false):
 F9 (CB f G) (CB f (D8 G b p)) b (x.mid (EP (G b) x.ins 0)) (EP (G b) (x.ins.take p) 0) t (EP (G b) (x.ins.drop (p+1)) (p+1)) v where
 hx:=F8 hx
 hi:=by show EP (G b) x.ins 0=_;rw[RY ht,hG];rfl
 pure:=hp
 hv:=hv
 dead:=hd
 hg:=i6 hx ht hG
def Nc(g:BFunc)(w:Nat):Prop:=∀h c x l1 t l2,¬F9 g h c x l1 t l2 w
variable {l1 l2 : List Tac}
theorem qF{g:BFunc}(h:F9 f g c x l1 t l2 v){w:Nat}(hw:t.uses.contains (w:Int)=false)(hvw:v≠w)(hn:Nc f w):Nc g w:=by
 intro k d y m1 u m2 h2;have hg:=h.hg
 by_cases hcd:c=d
 . subst hcd;have hy:=h2.hx;rw[hg,Eu h.hx]at hy
   cases hy
   have he:l1++l2=m1++u::m2:=h2.hi
   -- where the two lie
   rcases List.append_eq_append_iff.1 he with⟨a,ha1,ha2⟩|⟨a,ha1,ha2⟩
   . -- u lies behind t
     subst ha1;refine hn _ c x (l1++t::a) u m2 {hx:=h.hx,hi:=by rw[h.hi,ha2];simp,pure:=h2.pure,hv:=h2.hv,dead:=?_,hg:=rfl};exact false_of (BA (Oi h ⟨rfl,rfl,rfl⟩ hw)) h2.dead
   . cases a with
     |nil=>
      simp only[q91,List.nil_append]at ha1 ha2;subst ha1;refine hn _ c x (l1++[t]) u m2 {hx:=h.hx,hi:=by rw[h.hi,<-ha2];simp,pure:=h2.pure,hv:=h2.hv,dead:=?_,hg:=rfl};exact false_of (BA (Oi h ⟨rfl,rfl,rfl⟩ hw)) h2.dead
     |cons q a=>
      simp only[q73,q88]at ha2;obtain⟨e1,e2⟩:=ha2;subst e1;subst ha1;refine hn _ c x m1 u (a++t::l2) {hx:=h.hx,hi:=by rw[h.hi];simp,pure:=h2.pure,hv:=h2.hv,dead:=?_,hg:=rfl};refine false_of (fun e=>?_) h2.dead;rw[e2];exact BA (Oi h ⟨rfl,rfl,rfl⟩ hw) (MT hw e)
 . have hy:=h2.hx;rw[hg,Hk hcd]at hy;exact hn _ d y m1 u m2 {hx:=hy,hi:=h2.hi,pure:=h2.pure,hv:=h2.hv,dead:=false_of (BA (Oi h ⟨rfl,rfl,rfl⟩ hw)) h2.dead,hg:=rfl}
theorem Zo(z:Bool)(v:Nat):∀(l:List Tac) (j:Nat),(Hb z v l j).length<=l.length+1
 | [],j=>by cases z<;>simp[Hb]
 |t::l,j=>by
  have ih:=Zo z v l (j+1)
  grind[E7,Hb]
def firstG(f:BFunc)(G:GG)(v b:Nat):Nat:=((f.blocks[b]?).map fun x=>Du (G b) x.ins.length (Bd x v)).getD 0
theorem GH(h:f.blocks[b]?=some x):firstG f G v b=Du (G b) x.ins.length (Bd x v):=by unfold firstG;rw[h];rfl
theorem MZ(hx:f.blocks[b]?=some x)(z:Bool):need v (EP (G b) x.ins 0) (Dy x v||z)=Dt (G b) x.ins.length (Bd x v) z:=(Iu z145q).symm
theorem dz(h:a∈AB f c):∃x,f.blocks[a]?=some x/\(c:Int)∈x.nexts:=by
 grind[AB,QK]
def M7(n:Nat)(w:Nat->Bool):Nat:=((List.range n).map fun b=>if w b then 0 else 1).sum
theorem L3{w:Nat->Bool}{b:Nat}(h:w b=false):∀{n:Nat},b<n->M7 n (CH w b true)+1=M7 n w
 |0,hb=>by omega
 |n+1,hb=>by
  unfold M7;rw[q79,q77,q77,q82,q82];simp only[qQ0,qX9,qQ2,List.sum_nil,qX5]
  by_cases hn:b=n
  . subst hn;rw[Dm,h];have:((List.range b).map fun c=>if CH w b true c then 0 else 1)=(List.range b).map fun c=>if w c then 0 else 1:=q42 fun c hc=>by
     rw[C2 _ (fun e=>by subst e;exact Nat.lt_irrefl _ (q94.1 hc))]
    rw[this];simp
  . rw[C2 _ (fun e=>hn e.symm)];have ih:=L3 h (n:=n) z144q;unfold M7 at ih;omega
structure BfI(f:BFunc)(G:GG)(v:Nat)(inn:Nat->Bool)(todo:List Nat)(b0:Nat)(rest:List Nat):Prop where
  sound:∀b,inn b=true->b<f.blocks.length/\Em (CB f G) v b
  src:∀b,b<f.blocks.length->firstG f G v b=1->inn b=true
  cl:∀c,inn c=true->c∉todo->∀a y,f.blocks[a]?=some y->(c:Int)∈y.nexts->firstG f G v a=0->inn a=true\/(c=b0/\a∈rest)
  tod:∀c∈todo,inn c=true
  cnt:todo.length+M7 f.blocks.length inn<=f.blocks.length
variable {inn : Nat -> Bool} {todo : List Nat}
theorem BfI.pop{b1:Nat}(h:BfI f G v inn (todo++[b]) b1 []):BfI f G v inn todo b (AB f b):=
 ⟨h.sound,h.src,fun c hc hn a y hy hm ha=>by
  by_cases hcb:c=b
  . subst hcb;exact .inr ⟨rfl,Qi hy (q31.2 hm)⟩
  . exact(h.cl c hc (fun e=>by
     rcases q78.1 e with e|e
     . exact hn e
     . exact hcb (q47.1 e)) a y hy hm ha).elim .inl (fun e=>by cases e.2),fun c hc=>h.tod c (q78.2 (.inl hc)),by have:=h.cnt;simp at this;omega⟩
theorem BfI.skip(h:BfI f G v inn todo b (a::rest))(hs:¬(firstG f G v a=0/\inn a=false)):BfI f G v inn todo b rest:=
 ⟨h.sound,h.src,fun c hc hn a' y hy hm ha=>(h.cl c hc hn a' y hy hm ha).elim .inl fun⟨e1,e2⟩=>by
  rcases q99.1 e2 with rfl|e2
  . grind
  . exact .inr ⟨e1,e2⟩,h.tod,h.cnt⟩
theorem BfI.push(h:BfI f G v inn todo b (a::rest))(hb:inn b=true)(hab:a∈AB f b)(h0:firstG f G v a=0)(hi:inn a=false):
 BfI f G v (CH inn a true) (todo++[a]) b rest:=by
 obtain⟨x,hx,hm⟩:=dz hab;have hlt:=(q05.1 hx).1;refine⟨fun c hc=>?_,fun c hc h1=>?_,fun c hc hn a' y hy hm' ha=>?_,fun c hc=>?_,?_⟩
 . by_cases hca:c=a
   . subst hca;refine⟨hlt,.thru (d:=(b:Int)) (F8 hx) ?_ hm (by rw[q55];exact(h.sound b hb).2)⟩;show need v (EP (G c) x.ins 0) true=true;have:=MZ (G:=G) (v:=v) hx true;rw[qX6]at this;rw[this,PW (by rw[<-GH hx];exact h0)]
   . rw[C2 _ hca]at hc;exact h.sound c hc
 . by_cases hca:c=a
   . grind
   . rw[C2 _ hca];exact h.src c hc h1
 . have hcn:c∉todo:=fun e=>hn (q78.2 (.inl e))
   have hca:c≠a:=fun e=>hn (q78.2 (.inr (q47.2 e)))
   rw[C2 _ hca]at hc;rcases h.cl c hc hcn a' y hy hm' ha with h1|⟨e1,e2⟩
   . left
     by_cases e:a'=a
     . subst e;rw[Dm]
     . rw[C2 _ e];exact h1
   . rcases q99.1 e2 with rfl|e2
     . left;rw[Dm]
     . exact .inr ⟨e1,e2⟩
 . by_cases hca:c=a
   . subst hca;rw[Dm]
   . rw[C2 _ hca];rcases q78.1 hc with hc|hc
     . exact h.tod c hc
     . exact absurd (q47.1 hc) hca
 . have:=h.cnt;have e:=L3 hi hlt
   grind
theorem BfI.any{b':Nat}(h:BfI f G v inn todo b []):BfI f G v inn todo b' []:=
 ⟨h.sound,h.src,fun c hc hn a y hy hm ha=>(h.cl c hc hn a y hy hm ha).elim .inl (fun e=>(by cases e.2)),h.tod,h.cnt⟩
theorem BfI.done(hs:f.sane){b0:Nat}(h:BfI f G v inn [] b0 [])(hb:b<f.blocks.length):inn b=WC (CB f G) v b:=by
 rw[Bool.eq_iff_iff,inB_iff];refine⟨fun e=>(h.sound b e).2,fun hl=>?_⟩;refine PB (I:=inn) (fun c y hy hn=>?_) hl;obtain⟨x,hx,rfl⟩:=Ol hy;have hlt:=(q05.1 hx).1;have hn':need v (EP (G c) x.ins 0) (Dy x v||x.nexts.any fun d=>inn d.toNat)=true:=hn;rw[MZ hx]at hn';rcases firstS_le (G:=G c) (n:=x.ins.length) (l:=Bd x v)with h0|h1|h2
 . rw[PW h0]at hn';obtain⟨d,hd,hid⟩:=q74.1 hn';have h0':=(hs.next x (q33 hx) d hd).1;refine(h.cl d.toNat hid z145q c x hx (by rw[q41 h0'];exact hd) (by rw[GH hx];exact h0)).elim id fun e=>by cases e.2
 . exact h.src c hlt (by rw[GH hx];exact h1)
 . have e:=V3 (z:=x.nexts.any fun d=>inn d.toNat) (fun s hs=>OR s hs) h2;exact absurd (hn'.symm.trans e) z145q
def If(inn:Nat->Bool)(x:Block):Bool:=x.nexts.any fun d=>inn d.toNat
structure RSd where
  G:GG
  w:Nat->Bool
  ws:List Nat
  es:List (List AV)
def GP(st:RSd)(u:Nat):RSd:=⟨st.G,Km st.w u,HL st.w st.ws u,Dl st.w st.es st.ws.length u⟩
def B6(b p:Nat)(us:List Int)(st:RSd):RSd:=us.foldl (fun st u=>GP st u.toNat) ⟨D8 st.G b p,st.w,st.ws,st.es⟩
def Kp(x:Block)(b:Nat)(st:RSd×Bool)(s:Site):RSd×Bool:=
  bif leftS (st.1.G b) x.ins.length s then
    (match x.ins[s.at_]? with
    |some t=>bif s.s&&(!st.2&&t.pure)then(B6 b s.at_ t.uses st.1,st.2)else(st.1,s.r||(!s.s&&st.2))
    |none=>(st.1,s.r||(!s.s&&st.2)))
  else st
def T2(inn:Nat->Bool)(v:Nat)(x:Block)(b:Nat)(st:RSd):RSd:=((Bd x v).reverse.foldl (Kp x b) (st,If inn x)).1
structure QId(R:Nat)(st:RSd):Prop where
  wt:WaitI R st.w st.ws
  st:StackI R st.es st.ws
variable {u : Nat} {st : RSd}
theorem QId.push(h:QId R st)(hu:u<R):QId R (GP st u):=⟨h.wt.wait hu,h.st.wait h.wt hu⟩
theorem QId.leave{R:Nat}{b p:Nat}:∀{us:List Int} {st:RSd},QId R st->(∀u∈us,0<=u/\u<R)->QId R (us.foldl (fun st u=>GP st u.toNat) st)
 | [],st,h,_=>h
 |u::us,st,h,hu=>by
  rw[q85];refine QId.leave (b:=b) (p:=p) (h.push ?_) fun u' h'=>hu u' (q99.2 (.inr h'))
  (simp_all;done)
theorem Vc:∀(us:List Int) (st:RSd) (w:Nat),(us.foldl (fun st u=>GP st u.toNat) st).w w=(st.w w||us.any fun u=>u.toNat==w)
 | [],st,w=>by simp
 |u::us,st,w=>by
  rw[q85,Vc us];show(CH st.w u.toNat true w||_)=_
  grind[Dm,C2,GP]
theorem Vd:∀(us:List Int) (st:RSd),(us.foldl (fun st u=>GP st u.toNat) st).G=st.G
 | [],st=>rfl
 |u::us,st=>by rw[q85,Vd us];rfl
theorem N9(b p:Nat)(us:List Int)(st:RSd):(B6 b p us st).G=D8 st.G b p:=Vd _ _
structure RgI(f:BFunc)(R v:Nat)(inn:Nat->Bool)(m0:Nat)(st:RSd)(lo:Nat->Nat):Prop where
  c:Cuts f (CB f st.G)
  le:∀b,Em (CB f st.G) v b->inn b=true
  ex:st.w v=false->∀b,b<f.blocks.length->inn b=true->Em (CB f st.G) v b
  oth:∀u,u≠v->st.w u=false->Nc (CB f st.G) u
  q:QId R st
  ms:iw (CB f st.G)*(R+1)+st.ws.length<=m0
  proc:∀b x k s t,f.blocks[b]?=some x->lo b<=k->(Bd x v)[k]?=some s->s.s=true->leftS (st.G b) x.ins.length s=true->x.ins[s.at_]?=some t->t.pure=true->Dt (st.G b) x.ins.length ((Bd x v).drop (k+1)) (If inn x)=true
theorem dy(hs:f.sane)(hx:x∈f.blocks)(h:∀b,Em (CB f G) v b->inn b=true):outB (CB f G) x v=true->If inn x=true:=fun e=>by
 obtain⟨d,h1,h2⟩:=outB_iff.1 e;exact q74.2 ⟨d,h1,h _ h2⟩
theorem vN(lo:Nat->Nat)(b k:Nat):∃lo':Nat->Nat,lo' b=k/\∀c,c≠b->lo' c=lo c:=⟨fun c=>if c=b then k else lo c,by simp,fun c hc=>by simp[hc]⟩
variable {s : Site}
theorem S6{k':Nat}{s':Site}(h:(Hb z v l 0)[k]?=some s)(h':(Hb z v l 0)[k']?=some s')(hlt:k<k'):s.at_<s'.at_:=by
 rcases siF_get h with⟨h1,h2,h3,h4,h5⟩|⟨p,t,h1,h2,h3,h4,h5⟩
 . grind
 . have e:((Hb z v l 0).drop (k+1))[k'-(k+1)]?=some s':=by
    rw[q49,show k+1+(k'-(k+1))=k' by omega];exact h'
   rw[h5]at e;have:=(Xh s' (q33 e)).1;omega
theorem RgI.leave{f:BFunc}(hs:f.sane){R v:Nat}{inn:Nat->Bool}{m0:Nat}{st:RSd}{lo lo':Nat->Nat}(h:RgI f R v inn m0 st lo){b k:Nat}{x:Block}{s:Site}{t:Tac}(hx:f.blocks[b]?=some x)(hlo:lo b=k+1)(hk:(Bd x v)[k]?=some s)
 (hss:s.s=true) (hl:leftS (st.G b) x.ins.length s=true) (ht:x.ins[s.at_]?=some t) (hp:t.pure=true) (hb:Dt (st.G b) x.ins.length ((Bd x v).drop (k+1)) (If inn x)=false) (hR:∀u∈t.uses,0<=u/\u<R)
 (h1:lo' b=k) (h2:∀c,c≠b->lo' c=lo c):RgI f R v inn m0 (B6 b s.at_ t.uses st) lo':=by
 have hxm:=q33 hx;obtain⟨p,t',hat,ht',hr,hsv,hdr⟩:∃p t',s.at_=0+p/\x.ins[p]?=some t'/\s.r=t'.uses.contains (v:Int)/\s.s=(t'.sets==(v:Int))/\(Bd x v).drop (k+1)=Hb (Dy x v) v (x.ins.drop (p+1)) (0+p+1):=by
  rcases siF_get hk with⟨_,_,e,_,_⟩|e
  . grind
  . exact e
 rw[qQ8]at hat hdr;subst hat;rw[ht]at ht';cases ht';have hplt:=(q05.1 ht).1;have hGp:st.G b s.at_=false:=by
  unfold leftS at hl;have:(s.at_==x.ins.length)=false:=by rw[q40];omega
  rw[this,qQ6]at hl;simpa using hl
 have hsets:t.sets=(v:Int):=by rw[hss]at hsv;simpa using hsv.symm
 have hnd:need v (EP (st.G b) (x.ins.drop (s.at_+1)) (s.at_+1)) (endB (CB f st.G) x v)=false:=by
  have e:=Iu (G:=st.G b) (n:=x.ins.length) (v:=v) (e:=Dy x v) (z:=If inn x) (l:=x.ins.drop (s.at_+1)) (j:=s.at_+1) (by rw[List.length_drop];omega);rw[<-hdr,hb]at e;refine false_of (BA fun e2=>?_) e.symm;unfold endB at e2;rcases Bool.or_eq_true_iff.1 e2 with e2|e2
  . rw[e2];rfl
  . rw[dy hs hxm h.le e2,qX6]
 have hcut:=i8 hx ht hGp hp hsets hnd;have hG:(B6 b s.at_ t.uses st).G=D8 st.G b s.at_:=N9 _ _ _ _;have hw:∀u,(B6 b s.at_ t.uses st).w u=(st.w u||t.uses.any fun a=>a.toNat==u):=fun u=>Vc _ _ _
 have hnou:∀u,(B6 b s.at_ t.uses st).w u=false->st.w u=false/\t.uses.contains (u:Int)=false:=fun u hu=>by
  rw[hw,q38]at hu;refine⟨hu.1,?_⟩
  cases e:t.uses.contains (u:Int)with
  |false=>rfl
  |true=>
   have:(t.uses.any fun a=>a.toNat==u)=true:=q74.2 ⟨(u:Int),q31.1 e,by simp⟩;rw[this]at hu;cases hu.2
 have hq:QId R (B6 b s.at_ t.uses st):=QId.leave (b:=b) (p:=s.at_) (st:=⟨D8 st.G b s.at_,st.w,st.ws,st.es⟩) ⟨h.q.wt,h.q.st⟩ hR;have hsz:=Ho ⟨_,_,_,_,_,_,hcut⟩;refine⟨?_,?_,?_,?_,hq,?_,?_⟩
 . rw[hG];exact h.c.trans (.one ⟨_,_,_,_,_,_,hcut⟩)
 . rw[hG];exact fun c hc=>h.le c (RQ hcut hc)
 . rw[hG];intro hv c hc hi;have:=hnou v hv;exact ZN hcut this.2 (h.ex this.1 c hc hi)
 . rw[hG];intro u huv hu;have:=hnou u hu;exact qF hcut this.2 (fun e=>huv e.symm) (h.oth u huv this.1)
 . rw[hG];have hms:=h.ms;have hle:=hq.wt.le;have:iw (CB f st.G)*(R+1)=iw (CB f (D8 st.G b s.at_))*(R+1)+(R+1):=by rw[<-hsz,Nat.succ_mul]
   omega
 . rw[hG];intro c y k' s' t' hy hk' hs' hss' hl' ht' hp'
   by_cases hcb:c=b
   . subst hcb;rw[hx]at hy;cases hy;rw[h1]at hk'
     by_cases hkk:k'=k
     . subst hkk;rw[hk]at hs';cases hs';have:leftS (D8 st.G c s.at_ c) x.ins.length s=false:=by
        unfold leftS;rw[JW];exact mN
       rw[this]at hl';cases hl'
     . have hlt:k<k':=by omega
       have hne:=S6 hk hs' hlt;have e1:leftS (D8 st.G c s.at_ c) x.ins.length s'=leftS (st.G c) x.ins.length s':=by
        unfold leftS;rw[Gz z144q]
       rw[e1]at hl';have:=h.proc c x k' s' t' hx z144q hs' hss' hl' ht' hp';rw[<-this];refine Jh fun q hq=>?_
       obtain⟨i,hi⟩:=q27.1 hq;rw[q49]at hi;have hne2:=S6 hk hi z144q;unfold leftS;rw[Gz z144q]
   . rw[h2 c hcb]at hk';have hGc:D8 st.G b s.at_ c=st.G c:=funext fun q=>Gz (fun e=>hcb e.1)
     rw[hGc]at hl'|-;exact h.proc c y k' s' t' hy hk' hs' hss' hl' ht' hp'
theorem RgI.keep{f:BFunc}{R v:Nat}{inn:Nat->Bool}{m0:Nat}{st:RSd}{lo lo':Nat->Nat}(h:RgI f R v inn m0 st lo){b k:Nat}{x:Block}{s:Site}(hx:f.blocks[b]?=some x)(hlo:lo b=k+1)(hk:(Bd x v)[k]?=some s)
 (hb:s.s=true->leftS (st.G b) x.ins.length s=true->∀t,x.ins[s.at_]?=some t->t.pure=true->Dt (st.G b) x.ins.length ((Bd x v).drop (k+1)) (If inn x)=true)
 (h1:lo' b=k) (h2:∀c,c≠b->lo' c=lo c):RgI f R v inn m0 st lo':=
 ⟨h.c,h.le,h.ex,h.oth,h.q,h.ms,fun c y k' s' t' hy hk' hs' hss' hl' ht' hp'=>by
  by_cases hcb:c=b
  . subst hcb;rw[hx]at hy;cases hy;rw[h1]at hk'
    by_cases hkk:k'=k
    . subst hkk;rw[hk]at hs';cases hs';exact hb hss' hl' t' ht' hp'
    . exact h.proc c x k' s' t' hx z144q hs' hss' hl' ht' hp'
  . rw[h2 c hcb]at hk';exact h.proc c y k' s' t' hy hk' hs' hss' hl' ht' hp'⟩
def CY(inn:Nat->Bool)(v:Nat)(x:Block)(b:Nat)(st:RSd)(m:Nat):RSd×Bool:=((Bd x v).reverse.take m).foldl (Kp x b) (st,If inn x)
theorem FX(hk:(Bd x v)[k]?=some s)(hm:m+k+1=(Bd x v).length):CY inn v x b st (m+1)=Kp x b (CY inn v x b st m) s:=by
 unfold CY;have e:(Bd x v).reverse[m]?=some s:=by
  grind
 rw[q59,e,List.foldl_append];rfl
theorem OM(h:(Bd x v).length<=m):(CY inn v x b st m).1=T2 inn v x b st:=by
 unfold CY T2;rw[q20 He]
theorem RgI.sites{f:BFunc}(hs:f.sane){R v:Nat}(hRf:f.regs=(R:Int)){inn:Nat->Bool}{m0:Nat}{st:RSd}{lo:Nat->Nat}{b:Nat}{x:Block}(hx:f.blocks[b]?=some x)(h:RgI f R v inn m0 st lo)(hlo:lo b=(Bd x v).length):
 ∀m,m<=(Bd x v).length->∃lo',RgI f R v inn m0 (CY inn v x b st m).1 lo'/\lo' b=(Bd x v).length-m/\(∀c,c≠b->lo' c=lo c)/\(CY inn v x b st m).2=Dt ((CY inn v x b st m).1.G b) x.ins.length ((Bd x v).drop ((Bd x v).length-m)) (If inn x)
 |0,_=>⟨lo,h,by simpa using hlo,fun _ _=>rfl,by
  show If inn x=Dt _ _ ((Bd x v).drop _) _;rw[Nat.sub_zero,List.drop_length];rfl⟩
 |m+1,hm=>by
  obtain⟨lo1,h1,h2,h3,h4⟩:=RgI.sites hs hRf hx h hlo m z144q;obtain⟨k,hk⟩:∃k,m+k+1=(Bd x v).length:=⟨(Bd x v).length-m-1,by omega⟩
  obtain⟨s,hsk⟩:=Af (l:=Bd x v) (k:=k) z144q;rw[show(Bd x v).length-(m+1)=k by omega];rw[show(Bd x v).length-m=k+1 by omega]at h2 h4;obtain⟨lo2,l1,l2⟩:=vN lo1 b k;have hdk:(Bd x v).drop k=s::(Bd x v).drop (k+1):=by
   rw[q07 (q05.1 hsk).1,(q05.1 hsk).2]
  rw[FX hsk hk];generalize CY inn v x b st m=S at h1 h4|-;unfold Kp
  cases hl:leftS (S.1.G b) x.ins.length s with
  |false=>
   rw[qZ3];refine⟨lo2,h1.keep hx h2 hsk (fun _ e=>by rw[hl]at e;cases e) l1 l2,l1,fun c hc=>(l2 c hc).trans (h3 c hc),?_⟩;rw[hdk,Dt,hl,qZ3];exact h4
  |true=>
   rw[qZ7];have keep:∀(hb:s.s=true->∀t,x.ins[s.at_]?=some t->t.pure=true->S.2=true),∃lo',RgI f R v inn m0 ((S.1,s.r||(!s.s&&S.2)):RSd×Bool).1 lo'/\lo' b=k/\(∀c,c≠b->lo' c=lo c)/\((S.1,s.r||(!s.s&&S.2)):RSd×Bool).2=Dt (((S.1,s.r||(!s.s&&S.2)):RSd×Bool).1.G b) x.ins.length ((Bd x v).drop k) (If inn x):=fun hb=>by
    refine⟨lo2,h1.keep hx h2 hsk (fun e1 _ t e2 e3=>by rw[<-h4];exact hb e1 t e2 e3) l1 l2,l1,fun c hc=>(l2 c hc).trans (h3 c hc),?_⟩;rw[hdk,Dt,hl,qZ7];show(s.r||(!s.s&&S.2))=_;rw[h4]
   cases ht:x.ins[s.at_]? with
   |none=>exact keep (fun _ t e=>by rw[ht]at e;cases e)
   |some t=>
    cases hc:s.s&&(!S.2&&t.pure)with
    |false=>
     rw[show(match some t with|some t=>bif s.s&&(!S.2&&t.pure)then(B6 b s.at_ t.uses S.1,S.2)else(S.1,s.r||(!s.s&&S.2))|none=>(S.1,s.r||(!s.s&&S.2)))=(S.1,s.r||(!s.s&&S.2)) by simp only[hc,qZ3]];refine keep (fun e1 t' e2 e3=>?_);rw[ht]at e2;cases e2;rw[e1,e3]at hc;simpa using hc
    |true=>
     rw[show(match some t with|some t=>bif s.s&&(!S.2&&t.pure)then(B6 b s.at_ t.uses S.1,S.2)else(S.1,s.r||(!s.s&&S.2))|none=>(S.1,s.r||(!s.s&&S.2)))=(B6 b s.at_ t.uses S.1,S.2) by simp only[hc,qZ7]];simp only[q66,q61]at hc;have hxm:=q33 hx;have hlow:=hs.low x hxm t (q33 ht);have hplt:=(q05.1 ht).1;refine⟨lo2,h1.leave hs hx h2 hsk hc.1 hl ht hc.2.2 (by rw[<-h4];exact hc.2.1) (fun u hu=>by have:=hlow.2 u hu;rw[hRf]at this;exact this) l1 l2,l1,fun c hcc=>(l2 c hcc).trans (h3 c hcc),?_⟩;rw[hdk,Dt];have hg:leftS ((B6 b s.at_ t.uses S.1).G b) x.ins.length s=false:=by
      unfold leftS;rw[N9,JW];exact mN
     show S.2=bif leftS ((B6 b s.at_ t.uses S.1).G b) x.ins.length s then _ else Dt ((B6 b s.at_ t.uses S.1).G b) _ _ _;rw[hg,qZ3,h4];refine Jh fun q hq=>?_
     obtain⟨i,hi⟩:=q27.1 hq;rw[q49]at hi;have hne2:=S6 hsk hi z144q;unfold leftS;rw[N9,Gz z144q]
def HR(f:BFunc)(v i:Nat):List Site:=((f.blocks[i]?).map fun x=>Bd x v).getD []
theorem Gb(h:f.blocks[i]?=some x):HR f v i=Bd x v:=by unfold HR;rw[h];rfl
def Gh(f:BFunc)(v:Nat):List Nat:=(List.range f.blocks.length).filter fun i=> !(HR f v i).isEmpty
def T3(f:BFunc)(inn:Nat->Bool)(v:Nat)(st:RSd)(b:Nat):RSd:=((f.blocks[b]?).map fun x=>T2 inn v x b st).getD st
theorem SD(h:f.blocks[b]?=some x):T3 f inn v st b=T2 inn v x b st:=by unfold T3;rw[h];rfl
def KO(f:BFunc)(inn:Nat->Bool)(v:Nat)(st:RSd)(k:Nat):RSd:=((Gh f v).take k).foldl (T3 f inn v) st
noncomputable def Io(f:BFunc)(v:Nat)(st:RSd):RSd:=KO f (WC (CB f st.G) v) v st (Gh f v).length
theorem Rl(h:(Gh f v)[k]?=some b):KO f inn v st (k+1)=T3 f inn v (KO f inn v st k) b:=by
 unfold KO;rw[q59,h,List.foldl_append];rfl
theorem iI(h:b∈Gh f v):b<f.blocks.length:=q94.1 (q90.1 h).1
theorem Sg(f:BFunc)(v:Nat):(Gh f v).Nodup:=List.Pairwise.filter _ List.nodup_range
theorem Oa{G:Nat->Bool}{t:Tac}{l2:List Tac}:∀{l l1:List Tac} {j:Nat},EP G l j=l1++t::l2->∃p,l[p]?=some t/\G (j+p)=false/\l2=EP G (l.drop (p+1)) (j+p+1)
 | [],l1,j,h=>by simp[EP]at h
 |u::l,l1,j,h=>by
  rw[EP]at h
  cases hG:G j with
  |true=>
   rw[hG,qZ7]at h;obtain⟨p,h1,h2,h3⟩:=Oa h;exact ny
  |false=>
   rw[hG,qZ3]at h
   cases l1 with
   |nil=>
    simp only[List.nil_append,q88]at h;obtain⟨rfl,rfl⟩:=h;exact⟨0,rfl,hG,rfl⟩
   |cons a l1=>
    simp only[q73,q88]at h;obtain⟨p,h1,h2,h3⟩:=Oa h.2;exact ny
theorem RgI.done(hs:f.sane){m0:Nat}{lo:Nat->Nat}(h:RgI f R v inn m0 st lo)(hlo:∀b x,f.blocks[b]?=some x->lo b=0\/Bd x v=[])(hv:st.w v=false):Nc (CB f st.G) v:=by
 intro g c y l1 t l2 hc;obtain⟨x,hx,rfl⟩:=Ol hc.hx;have hxm:=q33 hx;have hi:EP (st.G c) x.ins 0=l1++t::l2:=hc.hi;obtain⟨p,hp,hG,hl2⟩:=Oa hi;rw[qQ8]at hG hl2;obtain⟨k,s,hk,hat,hss,hdr⟩:=fA (z:=Dy x v) (j:=0) hp hc.hv;rw[qQ8]at hat hdr;have hplt:=(q05.1 hp).1;have hlk:lo c<=k:=by
  rcases hlo c x hx with e|e
  . omega
  . have:(Bd x v)[k]?=some s:=hk;rw[e]at this;simp at this
 have hleft:leftS (st.G c) x.ins.length s=true:=by
  unfold leftS;rw[hat,hG];simp
 have hpr:=h.proc c x k s t hx hlk hk hss hleft (by rw[hat];exact hp) hc.pure;have hpr':Dt (st.G c) x.ins.length (Hb (Dy x v) v (x.ins.drop (p+1)) (p+1)) (If inn x)=true:=by rw[<-hdr];exact hpr
 rw[Iu (by rw[List.length_drop];omega),<-hl2]at hpr';have hd:=hc.dead;have:need v l2 (endB (CB f st.G) (x.mid (EP (st.G c) x.ins 0)) v)=true:=by
  refine BA (fun e=>?_) hpr';show(Dy x v||outB (CB f st.G) (x.mid (EP (st.G c) x.ins 0)) v)=true;rcases Bool.or_eq_true_iff.1 e with e|e
  . rw[e];rfl
  . obtain⟨d,h1,h2⟩:=q74.1 e;have hd:=hs.next x hxm d h1;have:=h.ex hv d.toNat z144q h2;have ho:outB (CB f st.G) (x.mid (EP (st.G c) x.ins 0)) v=true:=outB_iff.2 ⟨d,h1,this⟩;rw[ho,qX6]
 rw[this]at hd;cases hd
theorem Pq(hs:f.sane)(hRf:f.regs=(R:Int))(hu:R<=u):Nc (CB f G) u:=by
 intro g c y l1 t l2 hc;obtain⟨x,hx,rfl⟩:=Ol hc.hx;obtain⟨p,hp,_,_⟩:=Oa (show EP (G c) x.ins 0=l1++t::l2 from hc.hi);have hin:=hs.low x (q33 hx) t (q33 hp);have hsp:decide (t.sets>=0)=true:=by rw[hc.hv];simp
 have h1:=hin.1 (E8 hsp);rw[<-JN (E8 hsp),hc.hv,hRf]at h1;omega
structure SI(f:BFunc)(R:Nat)(st:RSd):Prop where
  c:Cuts f (CB f st.G)
  nd:∀u,st.w u=false->Nc (CB f st.G) u
  q:QId R st
def qU(f:BFunc)(R:Nat)(st:RSd):Nat:=iw (CB f st.G)*(R+1)+st.ws.length
def qV(R:Nat):RSd:=⟨fun _ _=>false,fun b=>decide (b<R),List.range R,(List.range R).map BN⟩
theorem SI.first(hs:f.sane)(hRf:f.regs=(R:Int)):SI f R (qV R):=by
 refine⟨?_,fun u hu=>Pq hs hRf ?_,⟨I0 _ (qZ0 _),stackI_range _⟩⟩
 . grind[Cuts,CB,c8,qV]
 . have:¬u<R:=by simpa[qV]using hu
   omega
def XJ(st:RSd)(v:Nat)(ws:List Nat):RSd:=⟨st.G,CH st.w v false,ws,st.es⟩
theorem SI.pop{f:BFunc}{R v:Nat}{ws:List Nat}{st:RSd}(h:SI f R st)(hw:st.ws=ws++[v]):v<R/\RgI f R v (WC (CB f st.G) v) (qU f R (XJ st v ws)) (XJ st v ws) (fun b=>(HR f v b).length):=by
 have hwt:=h.q.wt;have hst:=h.q.st;rw[hw]at hwt hst;have hp:=hwt.pop;refine⟨hp.2.1,h.c,fun b hb=>inB_iff.2 hb,fun _ b _ hb=>inB_iff.1 hb,fun u huv hu=>h.nd u ?_,⟨hp.1,hst.pop⟩,qZ0 _,?_⟩
 . show st.w u=false;have hu':CH st.w v false u=false:=hu;rw[C2 _ huv]at hu';exact hu'
 . intro b x k s t hx hlk hk;rw[Gb hx]at hlk;have:=(q05.1 hk).1;omega
theorem RgI.blocks{f:BFunc}(hs:f.sane){R v:Nat}(hRf:f.regs=(R:Int)){inn:Nat->Bool}{m0:Nat}{st:RSd}(h:RgI f R v inn m0 st (fun b=>(HR f v b).length)):
 ∀k,k<=(Gh f v).length->∃lo,RgI f R v inn m0 (KO f inn v st k) lo/\(∀b,b∈(Gh f v).take k->lo b=0)/\(∀b,b∉(Gh f v).take k->lo b=(HR f v b).length)
 |0,_=>⟨_,h,fun b hb=>by simp at hb,fun _ _=>rfl⟩
 |k+1,hk=>by
  obtain⟨lo,h1,h2,h3⟩:=RgI.blocks hs hRf h k z144q;obtain⟨b,hb⟩:=Af (l:=Gh f v) (k:=k) z144q;have hbl:=iI (q33 hb);obtain⟨x,hx⟩:=Af hbl;have hnb:b∉(Gh f v).take k:=fun e=>by
   obtain⟨i,hi⟩:=q27.1 e;have hik:i<k:=by
    rcases qX4 i k with h|h
    . exact h
    . rw[q26 Ul]at hi;cases hi
   rw[q14 hik]at hi;have:=(List.getElem?_inj (by omega:i<(Gh f v).length) (Sg f v)).1 (hi.trans hb.symm);omega
  have hlo:=h3 b hnb;rw[Gb hx]at hlo;obtain⟨lo',l1,l2,l3,_⟩:=h1.sites hs hRf hx hlo (Bd x v).length (qZ0 _);rw[OM (qZ0 _),<-SD hx,<-Rl hb]at l1;have e:(Gh f v).take (k+1)=(Gh f v).take k++[b]:=by rw[q59,hb];rfl
  refine⟨lo',l1,fun c hc=>?_,fun c hc=>?_⟩
  . by_cases hcb:c=b
    . subst hcb;omega
    . rw[l3 c hcb];rw[e]at hc;rcases q78.1 hc with hc|hc
      . exact h2 c hc
      . exact absurd (q47.1 hc) hcb
  . rw[e]at hc;have hcb:c≠b:=fun e=>hc (q78.2 (.inr (q47.2 e)))
    rw[l3 c hcb];exact h3 c fun e=>hc (q78.2 (.inl e))
theorem SI.reg(hs:f.sane)(hRf:f.regs=(R:Int))(h:SI f R st)(hw:st.ws=ws++[v]):SI f R (Io f v (XJ st v ws))/\qU f R (Io f v (XJ st v ws))<qU f R st:=by
 obtain⟨hv,hg⟩:=h.pop hw;obtain⟨lo,h1,h2,h3⟩:=hg.blocks hs hRf (Gh f v).length (qZ0 _);rw[q71]at h2 h3;have h1':RgI f R v (WC (CB f st.G) v) (qU f R (XJ st v ws)) (Io f v (XJ st v ws)) lo:=h1;refine⟨⟨h1'.c,fun u hu=>?_,h1'.q⟩,?_⟩
 . by_cases huv:u=v
   . subst huv;refine h1'.done hs (fun b x hx=>?_) hu
     by_cases hm:b∈Gh f u
     . exact .inl (h2 b hm)
     . right;have hbl:=(q05.1 hx).1;have:(HR f u b).isEmpty=true:=by
        cases e:(HR f u b).isEmpty with
        |true=>rfl
        |false=>exact absurd (q90.2 ⟨q94.2 hbl,by rw[e];rfl⟩) hm
       rw[Gb hx]at this;exact List.isEmpty_iff.1 this
   . exact h1'.oth u huv hu
 . refine Nat.lt_of_le_of_lt h1'.ms ?_;unfold qU XJ;rw[hw,q48]
   simp
theorem SI.done(hs:f.sane)(hRf:f.regs=(R:Int))(h:SI f R st)(hw:st.ws=[]):CB f st.G=NN f:=by
 refine qE h.c fun g hg=>?_
 obtain⟨c,x,l1,t,l2,v,hc⟩:=hg
 by_cases hv:v<R
 . refine h.nd v ?_ g c x l1 t l2 hc
   cases e:st.w v with
   |false=>rfl
   |true=>exact absurd ((h.q.wt.mem v).2 ⟨hv,e⟩) (by rw[hw];simp)
 . exact Pq hs hRf z144q g c x l1 t l2 hc
def F4(r0 r1 r2 r3:Nat->AObj):Nat->AObj:=fun x=>if x%4=0 then r0 (x/4)else if x%4=1 then r1 (x/4)else if x%4=2 then r2 (x/4)else r3 (x/4)
theorem wC(r0 r1 r2 r3:Nat->AObj)(b:Nat):F4 r0 r1 r2 r3 (4*b+0)=r0 b:=by
 grind[F4]
theorem wB(r0 r1 r2 r3:Nat->AObj)(b:Nat):F4 r0 r1 r2 r3 (4*b+1)=r1 b:=by
 grind[F4]
theorem qQ(r0 r1 r2 r3:Nat->AObj)(b:Nat):F4 r0 r1 r2 r3 (4*b+2)=r2 b:=by
 grind[F4]
theorem qP(r0 r1 r2 r3:Nat->AObj)(b:Nat):F4 r0 r1 r2 r3 (4*b+3)=r3 b:=by
 grind[F4]
theorem wA(r0 r1 r2 r3:Nat->AObj)(b:Nat)(o:AObj)(x:Nat):F4 (KE r0 b o) r1 r2 r3 x=if x=4*b+0 then o else F4 r0 r1 r2 r3 x:=by
 grind[F4,KE]
theorem oP(r0 r1 r2 r3:Nat->AObj)(b:Nat)(o:AObj)(x:Nat):F4 r0 (KE r1 b o) r2 r3 x=if x=4*b+1 then o else F4 r0 r1 r2 r3 x:=by
 grind[F4,KE]
theorem oO(r0 r1 r2 r3:Nat->AObj)(b:Nat)(o:AObj)(x:Nat):F4 r0 r1 (KE r2 b o) r3 x=if x=4*b+2 then o else F4 r0 r1 r2 r3 x:=by
 grind[F4,KE]
theorem oM(r0 r1 r2 r3:Nat->AObj)(b:Nat)(o:AObj)(x:Nat):F4 r0 r1 r2 (KE r3 b o) x=if x=4*b+3 then o else F4 r0 r1 r2 r3 x:=by
 grind[F4,KE]
variable {k : Nat -> Bool} {r3 : Nat -> AObj}
theorem Md(h0:∀b,(r0 b).avoid k=true)(h1:∀b,(r1 b).avoid k=true)(h2:∀b,(r2 b).avoid k=true)(h3:∀b,(r3 b).avoid k=true)(x:Nat):(F4 r0 r1 r2 r3 x).avoid k=true:=by
 grind[F4]
def DO(b:Nat):Nat:=if b<16 then b else 16+(b-16)%4
theorem jd(i:Nat):DO (4*i+0+16)=16:=by unfold DO;rw[qZ9 z144q];omega
theorem jc(i:Nat):DO (4*i+1+16)=17:=by unfold DO;rw[qZ9 z144q];omega
theorem jb(i:Nat):DO (4*i+2+16)=18:=by unfold DO;rw[qZ9 z144q];omega
theorem ja(i:Nat):DO (4*i+3+16)=19:=by unfold DO;rw[qZ9 z144q];omega
def kD:Nat->Bool:=fun c=>(Nat.ble 2 c&&Nat.blt c 8)||Nat.ble 16 c
def Fs(h g:Ad):Ad:=fun c=>bif kD c then g c else h c
theorem CS(x:Nat):kD (x+16)=true:=by
 unfold kD;rw[show Nat.ble 16 (x+16)=true by rw[qZ5];omega];simp
theorem VH(h:kD c=false):c=0\/c=1\/(8<=c/\c<16):=by
 unfold kD at h;simp only[q38,Bool.and_eq_false_iff]at h;obtain⟨h1,h2⟩:=h;have h3:¬16<=c:=fun e=>by rw[<-qZ5]at e;rw[e]at h2;cases h2
 rcases h1 with h1|h1
 . have:¬2<=c:=fun e=>by rw[<-qZ5]at e;rw[e]at h1;cases h1
   omega
 . have:¬c<8:=fun e=>by
    have:Nat.blt c 8=true:=by unfold Nat.blt;rw[qZ5];omega
    rw[this]at h1;cases h1
   omega
theorem Tz(h:kD c=true):(2<=c/\c<8)\/16<=c:=by
 unfold kD at h
 (simp_all;done)
theorem Fd(h g:Ad)(x:Nat):Fs h g (x+16)=g (x+16):=by unfold Fs;rw[CS];rfl
theorem B3(hc:kD c=true):Fs h g c=g c:=by unfold Fs;rw[hc];rfl
theorem ZF(hc:kD c=false):Fs h g c=h c:=by unfold Fs;rw[hc];rfl
abbrev DH(L:List AObj)(F:Nat->AObj):Ad:=Ig (nb (.free:: .free::L)) F
variable {L : List AObj}
theorem jN(F:Nat->AObj)(hL:L.length=6)(hi:i<6):DH L F (2+i)=some (WA L i):=by
 exact mJ
theorem lF{p:AObj->Prop}(h:∀o∈L,p o)(hf:p .free):∀i,p (WA L i):=by
 induction L with
 |nil=>intro i;exact hf
 |cons o L ih=>
  intro i
  cases i with
  |zero=>exact h o (q99.2 (.inl rfl))
  |succ i=>exact ih (fun q hq=>h q (q99.2 (.inr hq))) i
theorem Qr(hL:L.length=6)(hA:∀o∈L,o.avoid kD=true)(hF:∀x,(F x).avoid kD=true)(hc:kD c=true):∃q,DH L F c=some q/\q.avoid kD=true:=by
 rcases Tz hc with h|h
 . obtain⟨i,rfl⟩:∃i,c=2+i:=⟨c-2,by omega⟩
   exact⟨_,jN F hL z144q,lF hA rfl i⟩
 . obtain⟨x,rfl⟩:∃x,c=x+16:=⟨c-16,by omega⟩
   exact⟨_,As _ _ _,hF x⟩
theorem ag(hL:L.length=6)(h1:LowS h 2 L)(h2:∀x,h (x+16)=some (F x))(hc:kD c=true):h c=DH L F c:=by
 rcases Tz hc with hh|hh
 . obtain⟨i,rfl⟩:∃i,c=2+i:=⟨c-2,by omega⟩
   rw[jN F hL z144q];exact h1.get z144q
 . obtain⟨x,rfl⟩:∃x,c=x+16:=⟨c-16,by omega⟩
   rw[h2];exact(As _ _ _).symm
theorem iE(hL:L.length=6)(h1:LowS h 2 L)(h2:∀x,h (x+16)=some (F x)):EL h kD=DH L F:=funext fun c=>by
 unfold EL
 cases e:kD c with
 |true=>exact ag hL h1 h2 e
 |false=>
  rcases VH e with rfl|rfl|hc
  . rfl
  . rfl
  . show some AObj.free=Ig (nb (.free:: .free::L)) F c;rw[KX _ _ z144q];show some AObj.free=some (WA (.free:: .free::L) c);rw[nth_out (by show L.length+1+1<=c;omega)]
theorem EJ{g:FuncId}(L L':List AObj)(F':Nat->AObj)
 (ho:o.op=.call {callee:=.value (.func g),args:=args,argTypes:=tys}) (hf:P.funcs[g]?=some fn) (hn:(fn.name== "runtime.NumGoroutine")=false) (hb:fn.body.isSome=true) (hx:A8 e args.toList=some xs)
 (hxa:xs.all (AV.avoid kD)=true) (hL:L.length=6) (hL':L'.length=6) (hA:∀o∈L,o.avoid kD=true) (hA':∀o∈L',o.avoid kD=true) (h1:LowS h 2 L) (h2:∀x,h (x+16)=some (F x)) (hF:∀x,(F x).avoid kD=true) (hF':∀x,(F' x).avoid kD=true) (hra:r.avoid kD=true)
 (hcall:ACall P g xs (DH L F) (fun r' h'=>r'=r/\HSub (Fs hNone (DH L' F')) h')):NT P o e h (Fs h (DH L' F')) r:=
 LF (hw:=Fs hNone (DH L' F')) kD ho hf hn hb hx hxa (fun b hb=>by rw[ag hL h1 h2 hb];exact Qr hL hA hF hb) (iE hL h1 h2) (fun b hb=>ZF hb)
  (fun b hb=>by obtain⟨q,q1,q2⟩:=Qr (L:=L') (F:=F') hL' hA' hF' hb;exact⟨q,(B3 hb).trans q1,(B3 hb).trans q1,q2⟩) hra hcall
theorem M6(hL:L.length=6)(h1:LowS h 2 L)(h2:∀x,h (x+16)=some (F x)):HSub (Fs hNone (DH L F)) h:=fun c o ho=>by
 cases e:kD c with
 |true=>rw[B3 e]at ho;rw[ag hL h1 h2 e];exact ho
 |false=>rw[ZF e]at ho;cases ho
def G1(f:BFunc)(i:Nat):Nat:=((f.blocks[i]?).map fun x=>x.ins.length).getD 0
theorem E1(h:f.blocks[i]?=some x):G1 f i=x.ins.length:=by unfold G1;rw[h];rfl
abbrev Da:=Nat->Nat->List Site
def Hx(s:Site):List AV:=[.int .i64 (s.at_:Int),.bool s.r,.bool s.s]
def aR(A:Nat->List Nat)(c:Nat):AV:=A6 (4*c+0+16) ((A c).map BN)
def gR(f:BFunc)(i:Nat):AV:=.ref (4*i+1+16) (G1 f i) 0 (G1 f i)
def Oe(S:Da)(n v:Nat):List Nat:=(List.range n).filter fun i=> !(S i v).isEmpty
def WD(R:Nat)(S:Da)(v i:Nat):List AV:=[.int .i64 (i:Int),.ref (4*(v+R*i)+3+16) (S i v).length 0 (S i v).length]
def Kw(n R:Nat)(S:Da)(v:Nat):List (List AV):=(Oe S n v).map (WD R S v)
def oR(n R:Nat)(S:Da)(v:Nat):AV:=A6 (4*v+2+16) (Kw n R S v)
def Tj(n:Nat)(A:Nat->List Nat):Nat->AObj:=CZ n fun c=>By 1 ((A c).map BN)
def Qy(f:BFunc)(n:Nat)(G:GG):Nat->AObj:=CZ n fun i=>.row true 1 (bC (G1 f i) (G i))
def O7(n R:Nat)(S:Da):Nat->AObj:=CZ R fun v=>Qx 2 (Kw n R S v)
def NW(R:Nat)(S:Da):Nat->AObj:=fun m=>By 3 ((S (m/R) (m%R)).map Hx)
theorem ZW(h:v<R):(v+R*i)/R=i:=by
 rw[Nat.add_mul_div_left _ _ z144q,Nat.div_eq_of_lt h,qQ8]
theorem ZV(h:v<R):(v+R*i)%R=v:=by
 rw[Nat.add_mul_mod_self_left,Nat.mod_eq_of_lt h]
variable {S : Da}
theorem gb(h:v<R):NW R S (v+R*i)=By 3 ((S i v).map Hx):=by
 unfold NW;rw[ZW h,ZV h]
abbrev Ug(f:BFunc)(R m len:Nat):List AV:=[.int .i64 f.regs,BZ f.blocks,AO f.nexts,.ref 3 f.blocks.length 0 f.blocks.length,.ref 4 R 0 R,.ref 5 f.blocks.length 0 f.blocks.length,.ref 6 m 0 len,.ref 7 R 0 R]
abbrev IV(f:BFunc)(R:Nat)(S:Da)(es:List (List AV))(len:Nat)(w:Nat->Bool):List AObj:=
  [.row false 8 [Ug f R es.length len],.row false 1 (Az (aR (AB f)) f.blocks.length),.row false 1 (Az (oR f.blocks.length R S) R),.row false 1 (Az (gR f) f.blocks.length),.row true 1 es,.row true 1 (bC R w)]
abbrev DF(f:BFunc)(R:Nat)(S:Da)(G:GG):Nat->AObj:=F4 (Tj f.blocks.length (AB f)) (Qy f f.blocks.length G) (O7 f.blocks.length R S) (NW R S)
theorem Bo(hk:∀x,k (x+16)=true)(A:Nat->List Nat)(c:Nat):(aR A c).avoid k=true:=BV _ (hk _)
theorem Bf(hk:∀x,k (x+16)=true)(n R:Nat)(S:Da)(v:Nat):(oR n R S v).avoid k=true:=BV _ (hk _)
theorem B9(hk:∀x,k (x+16)=true)(f:BFunc)(i:Nat):(gR f i).avoid k=true:=by
 grind[gR,AV.avoid,AV.flat]
theorem JV(b:Nat):(Tj n A b).avoid k=true:=Fb (fun _=>CJ _ _) b
theorem JU(b:Nat):(Qy f n G b).avoid k=true:=Fb (fun _=>rfl) b
theorem cw(hk:∀x,k (x+16)=true){p:Bool}:(AObj.row p 2 (Kw n R S v)).avoid k=true:=by
 cases p with
 |true=>rfl
 |false=>
  show(Kw n R S v).all (fun cs=>cs.all (AV.avoid k))=true;refine q67.2 fun cs hc=>?_
  obtain⟨i,_,rfl⟩:=qX3.1 hc;show(List.all [_,_] (AV.avoid k))=true;simp only[qQ1,qX7,qQ4,q66];exact⟨rfl,by simp[AV.avoid,AV.flat,hk]⟩
theorem JT(hk:∀x,k (x+16)=true)(b:Nat):(O7 n R S b).avoid k=true:=Fb (fun v=>by
 unfold Qx
 cases (Kw n R S v).isEmpty with
 |true=>rfl
 |false=>exact cw hk) b
theorem JS(m:Nat):(NW R S m).avoid k=true:=CJ _ _
theorem Bn(hk:∀x,k (x+16)=true)(f:BFunc)(R:Nat)(S:Da)(G:GG)(x:Nat):(DF f R S G x).avoid k=true:=Md (fun _=>JV _) (fun _=>JU _) (fun _=>JT hk _) (fun _=>JS _) x
theorem Cm(f:BFunc)(R:Nat)(S:Da)(es:List (List AV))(len:Nat)(w:Nat->Bool):∀o∈IV f R S es len w,o.avoid kD=true:=fun o ho=>by
 simp only[IV,q99,List.not_mem_nil,or_false]at ho;rcases ho with rfl|rfl|rfl|rfl|rfl|rfl
 . rfl
 . exact Ah (fun b _=>Bo CS _ _)
 . exact Ah (fun b _=>Bf CS _ _ _ _)
 . exact Ah (fun b _=>B9 CS _ _)
 . rfl
 . rfl
theorem Au(k0:Nat):∀x,kf k0 (x+16)=true:=fun x=>VB k0 x
theorem XF(hi:i<n)(hx:f.blocks[i]?=some x):F4 r0 (Qy f n G) r2 r3 (4*i+1)=.row true 1 (bC x.ins.length (G i)):=by
 rw[wB];unfold Qy;rw[EX hi,E1 hx]
theorem lk(hi:i<n)(hx:f.blocks[i]?=some x)(y:Nat):
 F4 r0 (Qy f n (D8 G i p)) r2 r3 y=if y=4*i+1 then .row true 1 ((bC x.ins.length (G i)).set (0+((p:Nat):Int).toNat) [AV.bool true])else F4 r0 (Qy f n G) r2 r3 y:=by
 have e:Qy f n (D8 G i p)=KE (Qy f n G) i (.row true 1 ((bC x.ins.length (G i)).set (0+((p:Nat):Int).toNat) [AV.bool true])):=by
  refine(GN (k:=n) (o:=fun c=>.row true 1 (bC (G1 f c) (G c))) (o':=fun c=>.row true 1 (bC (G1 f c) (D8 G i p c))) (b:=i) hi fun c hc=>?_).trans ?_
  . congr 2;refine funext fun q=>?_
    rw[Gz (fun e=>hc e.1)]
  . unfold Qy;congr 1;show AObj.row true 1 (bC (G1 f i) (D8 G i p i))=_;rw[Kg,E1 hx];congr 2;refine funext fun q=>?_
    congr 1
    by_cases hq:q=p
    . subst hq;rw[JW,Dm]
    . rw[Gz (fun e=>hq e.2),C2 _ hq]
 rw[e,oP]
theorem Ev(n R:Nat)(S:Da)(v:Nat):(Kw n R S v).length=(Oe S n v).length:=by simp[Kw]
theorem TJ(S:Da)(n v:Nat):(Oe S n v).length<=n:=by
 unfold Oe
 grind
variable {k : Nat}
theorem Nv{u:Int}(h:us[k]?=some u):(us.take (k+1)).foldl (fun st u=>GP st u.toNat) st=GP ((us.take k).foldl (fun st u=>GP st u.toNat) st) u.toNat:=by
 rw[q59,h,List.foldl_append];rfl
theorem qR(hi:i<f.blocks.length)(hx:f.blocks[i]?=some x)(y:Nat):
 DF f R S (D8 G i p) y=if y=4*i+1 then .row true 1 ((bC x.ins.length (G i)).set (0+((p:Nat):Int).toNat) [AV.bool true])else DF f R S G y:=lk hi hx y
theorem Ot(hv:v<R)(h:0<(S i v).length):DF f R S G (4*(v+R*i)+3)=.row true 3 ((S i v).map Hx):=by
 refine(qP _ _ _ _ _).trans ?_;rw[gb hv]
 cases e:S i v with
 |nil=>rw[e]at h;simp at h
 |cons s l=>rfl
theorem Ub(hv:v<R):DF f R S G (4*v+2)=Qx 2 (Kw f.blocks.length R S v):=(qQ _ _ _ _ _).trans (EX hv)
theorem oV(hb:b<f.blocks.length):DF f R S G (4*b+0)=By 1 ((AB f b).map BN):=(wC _ _ _ _ _).trans (EX hb)
theorem TL(h:(Oe S n v)[k]?=some i):i<n/\0<(S i v).length:=by
 have:=q90.1 (q33 h)
 grind
theorem S5(h:k<es.length):Qx sz es=.row false sz es:=by
 grind[Qx]
theorem O9{T:Nat->Option Av}(hT:CE P T){t:TypeId}{x y:Operand}{k:IntKind}{n:Int}{i j:Av}(ho:o.op=.indexAddr t x y)(hx:An e x=some (A6 b es))(hy:An e y=some (.int k n))
 (hi:T t=some i) (hk:i.k=.slice u) (hj:T u=some j) (hb:h b=some (Qx sz es)) (hsz:sz=j.size) (h0:0<=n) (hn:n<es.length):QLoc P o e h [b] (.ptr b es.length n.toNat 0):=by
 have hlt:n.toNat<es.length:=by omega
 rw[OL hlt]at hx;rw[S5 hlt]at hb;have:=Ae hT ho hx hy hi hk hj hb rfl hsz h0 hn;rwa[qQ8]at this
theorem left_yes{g:Bool}(h:s.at_=n):true=(s.at_==n||g):=by simp[h]
theorem lO{g:Bool}(h:¬s.at_=n):g=(s.at_==n||g):=by
 grind
abbrev SB(f:BFunc):Da:=fun i v=>HR f v i
abbrev iC(n:Nat)(w:Nat->Nat):List (List AV):=Az (fun b=>.int .i64 (w b:Int)) n
def Mn(w:Nat->Nat)(b z:Nat):Nat->Nat:=fun c=>if c=b then z else w c
variable {w : Nat -> Nat}
theorem iB(z:Nat):(iC n w).set (0+((b:Nat):Int).toNat) [AV.int .i64 (z:Int)]=iC n (Mn w b z):=by
 rw[qQ8,q55];show(Az _ n).set b _=_;rw[Ib];refine De fun c _=>?_
 unfold Mn;split<;>rfl
theorem ZY:(iC n w).set (0+((b:Nat):Int).toNat) [AV.int .i64 2]=iC n (Mn w b 2):=iB 2
theorem lU:(iC n w).set (0+((b:Nat):Int).toNat) [AV.int .i64 1]=iC n (Mn w b 1):=iB 1
theorem eZ(w:Nat->Nat)(b y z:Nat):Mn (Mn w b y) b z=Mn w b z:=funext fun c=>by
 grind[Mn]
theorem jv(n:Nat)(w:Nat->Bool):bC n w=(GW n w).map Bg:=by
 unfold GW;show(List.range n).map _=_;rw[List.map_map];rfl
def Iy(f:BFunc)(G:GG)(v k:Nat):Nat->Nat:=fun b=>if b∈(Gh f v).take k then firstG f G v b else 0
def Uf(f:BFunc)(G:GG)(v k:Nat):Nat->Bool:=fun b=>Iy f G v k b==1
def todoK(f:BFunc)(G:GG)(v k:Nat):List Nat:=((Gh f v).take k).filter fun b=>firstG f G v b==1
theorem Hz{l:List Nat}(h:l[k]?=some i)(b:Nat):b∈l.take (k+1)↔b∈l.take k\/b=i:=by
 rw[q59,h]
 simp
theorem H7(h:(Gh f v)[k]?=some i):Iy f G v (k+1)=Mn (Iy f G v k) i (firstG f G v i):=funext fun b=>by
 unfold Iy Mn
 by_cases hb:b=i
 . subst hb;rw[qK0 ((Hz h b).2 (.inr rfl)),qK0 rfl]
 . rw[qZ9 hb];dsimp only
   by_cases h2:b∈(Gh f v).take k
   . rw[qK0 h2,qK0 ((Hz h b).2 (.inl h2))]
   . rw[qZ9 h2,qZ9 (fun e=>((Hz h b).1 e).elim h2 hb)]
theorem Sk:Iy f G v 0=fun _=>0:=funext fun b=>by unfold Iy;simp
theorem qt(h:(Gh f v)[k]?=some i):i∉(Gh f v).take k:=fun e=>by
 obtain⟨j,hj⟩:=q27.1 e;have hjk:j<k:=by
  grind
 rw[q14 hjk]at hj;have hkl:=(q05.1 h).1;have:=(List.getElem?_inj (by omega:j<(Gh f v).length) (Sg f v)).1 (hj.trans h.symm);omega
theorem VY(h:(Gh f v)[k]?=some i):Iy f G v k i=0:=by
 unfold Iy;rw[qZ9 (qt h)]
theorem qA(h:(Gh f v)[k]?=some i)(h0:firstG f G v i=0):Iy f G v k=Iy f G v (k+1):=by
 rw[H7 h,h0];refine funext fun b=>?_
 unfold Mn;split
 . subst_vars;exact VY h
 . rfl
theorem ix(h:(Gh f v)[k]?=some i)(h1:firstG f G v i=1):CH (Uf f G v k) i true=Uf f G v (k+1):=funext fun b=>by
 unfold Uf CH;rw[H7 h,h1];unfold Mn;split<;>rfl
theorem iy(h:(Gh f v)[k]?=some i)(h1:firstG f G v i≠1):Uf f G v k=Uf f G v (k+1):=funext fun b=>by
 unfold Uf;rw[H7 h];unfold Mn;split
 . rename_i hb;rw[hb,VY h];have:(firstG f G v i==1)=false:=by rw[q40];exact h1
   rw[this];rfl
 . rfl
theorem OC(h:(Gh f v)[k]?=some i)(h1:firstG f G v i=1):todoK f G v k++[i]=todoK f G v (k+1):=by
 unfold todoK;rw[q59,h,q52];simp[h1]
theorem OD(h:(Gh f v)[k]?=some i)(h1:firstG f G v i≠1):todoK f G v k=todoK f G v (k+1):=by
 unfold todoK;rw[q59,h,q52];simp[h1]
theorem aU(f:BFunc)(G:GG)(v k:Nat):(todoK f G v k).length<=k:=by
 unfold todoK
 grind
theorem VZ(h:(Gh f v).length<=k):Iy f G v k=firstG f G v:=funext fun b=>by
 unfold Iy;rw[q20 h];split
 . rfl
 . rename_i hn
   cases e:f.blocks[b]? with
   |none=>unfold firstG;rw[e];rfl
   |some x=>
    rw[GH e];have hbl:=(q05.1 e).1;have:(HR f v b).isEmpty=true:=by
     cases e2:(HR f v b).isEmpty with
     |true=>rfl
     |false=>exact absurd (q90.2 ⟨q94.2 hbl,by rw[e2];rfl⟩) hn
    rw[Gb e]at this;rw[List.isEmpty_iff.1 this];rfl
theorem Qb(p:Nat->Bool):∀n,((List.range n).filter p).length+M7 n p=n
 |0=>rfl
 |n+1=>by
  have ih:=Qb p n;unfold M7 at ih|-;rw[q79,q52,q48,q77,q82]
  cases e:p n<;>simp[e]<;>omega
theorem BfI.first(h:(Gh f v).length<=k):BfI f G v (Uf f G v k) (todoK f G v k) 0 []:=by
 have hf:=VZ (G:=G) h;have hin:∀b,Uf f G v k b=true->b∈todoK f G v k:=fun b hb=>by
  unfold Uf at hb;unfold todoK;rw[q20 h];unfold Iy at hb;rw[q20 h]at hb;split at hb
  . rename_i hm;exact q90.2 ⟨hm,hb⟩
  . cases hb
 refine⟨fun b hb=>?_,fun b hb h1=>?_,fun c hc hn=>absurd (hin c hc) hn,fun c hc=>?_,?_⟩
 . have hm:=hin b hb;unfold todoK at hm;obtain⟨h1,h2⟩:=q90.1 hm;have hbl:=iI (List.mem_of_mem_take h1);obtain⟨x,hx⟩:=Af hbl;refine⟨hbl,.here (F8 hx) ?_⟩;have h3:Du (G b) x.ins.length (Bd x v)=1:=by rw[<-GH hx];simpa using h2
   have:=MZ (G:=G) (v:=v) hx false;rw[V4 h3,Bool.or_false]at this;exact this
 . unfold Uf;rw[hf,h1];rfl
 . unfold todoK at hc;obtain⟨h1,h2⟩:=q90.1 hc;unfold Uf;rw[hf];exact h2
 . have e:=Qb (Uf f G v k) f.blocks.length;have hle:(todoK f G v k).length<=((List.range f.blocks.length).filter (Uf f G v k)).length:=by
    unfold todoK;rw[q20 h];unfold Gh;rw[List.filter_filter];have:∀(l:List Nat) (p q:Nat->Bool),(∀x,p x=true->q x=true)->(l.filter p).length<=(l.filter q).length:=fun l p q hpq=>by
     induction l with
     |nil=>simp
     |cons a l ih=>
      rw[List.filter_cons,List.filter_cons]
      cases ep:p a with
      |true=>rw[hpq a ep];simp;exact ih
      |false=>cases q a<;>simp<;>omega
    refine this _ _ _ fun x hx=>?_
    unfold Uf;rw[hf];simp only[q66]at hx;exact hx.1
   omega
theorem StackI.push(h:StackI n es ws)(hlt:ws.length<n):StackI n (Dg es ws.length (BN b)) (ws++[b]):=by
 refine⟨?_,?_,Ru h.le h.max hlt⟩
 . rw[q48];simp only[q70,q84];rw[KP h.le,h.top,q77];rfl
 . rw[q48];simp only[q70,q84];exact MH h.le
theorem StackI.none(n:Nat):StackI n [] []:=⟨rfl,qZ0 _,qZ1 _⟩
structure MQ where
  inn:Nat->Bool
  todo:List Nat
  es:List (List AV)
structure MP where
  inn:Nat->Bool
  todo:List Nat
  es:List (List AV)
  j:Nat
variable {l : List Site} {G : Nat -> Bool}
theorem first_skip(hs:l[j]?=some s)(h:leftS G n s=false):Du G n (l.drop j)=Du G n (l.drop (j+1)):=by
 rw[q07 (q05.1 hs).1,(q05.1 hs).2,Du,h,qZ3]
theorem PV(hs:l[j]?=some s)(h:leftS G n s=true):Du G n (l.drop j)=bif s.r then 1 else 2:=by
 rw[q07 (q05.1 hs).1,(q05.1 hs).2,Du,h,qZ7]
variable {G : GG}
theorem qa(h:(Gh f v)[k]?=some i)(h1:firstG f G v i=1):((iC n (Iy f G v k)).set (0+((i:Nat):Int).toNat) [AV.int .i64 2]).set (0+((i:Nat):Int).toNat) [AV.int .i64 1]=iC n (Iy f G v (k+1)):=by
 rw[ZY,lU,eZ,H7 h,h1]
theorem p9(h:(Gh f v)[k]?=some i)(h1:firstG f G v i=2):(iC n (Iy f G v k)).set (0+((i:Nat):Int).toNat) [AV.int .i64 2]=iC n (Iy f G v (k+1)):=by
 rw[ZY,H7 h,h1]
theorem BfI.room(h:BfI f G v inn todo b rest)(ha:a<f.blocks.length)(hi:inn a=false):todo.length<f.blocks.length:=by
 have:=h.cnt;have e:=L3 hi ha;omega
theorem P4{l:List Nat}(h:l[j]?=some a):l.drop j=a::l.drop (j+1):=by
 rw[q07 (q05.1 h).1,(q05.1 h).2]
theorem N3(hx:f.blocks[i]?=some x):(HR f v i).length<=x.ins.length+1:=by
 rw[Gb hx];exact Zo _ _ _ _
theorem Fj(k0:Nat):(AObj.row false 2 [WD R S v i]).avoid (kf k0)=true:=by
 show(List.all [_,_] (AV.avoid (kf k0))&&true)=true;simp only[qQ1,qX7,qQ4,q66];exact⟨rfl,by simp[AV.avoid,AV.flat,VB]⟩
theorem Zl(hx:f.blocks[i]?=some x)(h:(HR f v i)[j]?=some s):s.at_<=x.ins.length:=by
 rw[Gb hx]at h;have:=(Xh s (q33 h)).2;omega
structure MPI(f:BFunc)(G:GG)(v b m0:Nat)(p:MP):Prop where
  k:BfI f G v p.inn p.todo b ((AB f b).drop p.j)
  b:p.inn b=true
  st:StackI f.blocks.length p.es p.todo
  mu:2*M7 f.blocks.length p.inn+p.todo.length<=m0
theorem MPI.skip{f:BFunc}{G:GG}{v b m0:Nat}{p:MP}(h:MPI f G v b m0 p){a:Nat}(ha:(AB f b)[p.j]?=some a)(hs:¬(firstG f G v a=0/\p.inn a=false)):MPI f G v b m0 ⟨p.inn,p.todo,p.es,p.j+1⟩:=by
 have hk:=h.k;rw[P4 ha]at hk;exact⟨hk.skip hs,h.b,h.st,h.mu⟩
theorem MPI.push{f:BFunc}{G:GG}{v b m0:Nat}{p:MP}(h:MPI f G v b m0 p){a:Nat}(ha:(AB f b)[p.j]?=some a)(h0:firstG f G v a=0)(hi:p.inn a=false):MPI f G v b m0 ⟨CH p.inn a true,p.todo++[a],Dg p.es p.todo.length (BN a),p.j+1⟩:=by
 have hk:=h.k;have hal:=Kh (q33 ha);have hr:=hk.room hal hi;rw[P4 ha]at hk;have hne:b≠a:=fun e=>by have:=h.b;rw[e,hi]at this;cases this
 refine⟨hk.push h.b (q33 ha) h0 hi,?_,h.st.push hr,?_⟩
 . show CH p.inn a true b=true;rw[C2 _ hne];exact h.b
 . have:=h.mu;have e:=L3 hi hal;show 2*M7 f.blocks.length (CH p.inn a true)+(p.todo++[a]).length<=m0;rw[q48]
   simp
   omega
variable {st : RSd × Bool}
theorem Xf(h:leftS (st.1.G b) x.ins.length s=false):Kp x b st s=st:=by
 grind[Kp,leftS]
theorem UJ(h:leftS (st.1.G b) x.ins.length s=true)(ht:x.ins[s.at_]?=some t)(hs:s.s=true)(hb:st.2=false)(hp:t.pure=true):Kp x b st s=(B6 b s.at_ t.uses st.1,st.2):=by
 grind[Kp,leftS,B6]
theorem OO(h:leftS (st.1.G b) x.ins.length s=true)(hk:s.s=true->∀t,x.ins[s.at_]?=some t->(!st.2&&t.pure)=false):Kp x b st s=(st.1,s.r||(!s.s&&st.2)):=by
 grind[Kp,leftS]
def Wm(inn:Nat->Bool)(x:Block)(j:Nat):Bool:=(x.nexts.take j).any fun d=>inn d.toNat
theorem anyK_succ(h:x.nexts[j]?=some d):Wm inn x (j+1)=(Wm inn x j||inn d.toNat):=by
 unfold Wm;rw[q59,h,List.any_append];simp
theorem jz(h:x.nexts.length<=j):Wm inn x j=If inn x:=by
 unfold Wm If;rw[q20 h]
variable {st : RSd}
theorem bF(h:(Gh f v)[k]?=some i)(hx:f.blocks[i]?=some x)(hm:(HR f v i).length<=m):(CY inn v x i (KO f inn v st k) m).1=KO f inn v st (k+1):=by
 rw[Gb hx]at hm;rw[Rl h,SD hx,OM hm]
theorem fw(hx:f.blocks[i]?=some x)(h:(HR f v i)[j]?=some s)(hs:s.s=true):∃t,x.ins[s.at_]?=some t:=by
 rw[Gb hx]at h;rcases siF_get h with⟨_,_,e,_,_⟩|⟨p,t,h1,h2,_⟩
 . grind
 grind
variable {L : Nat}
theorem bB(hL:L<=1000000000):AX .sub (.int .i64 (L:Int)) (.int .i64 1)=some (.int .i64 (((L-0:Nat):Int)-1)):=by
 grind[AX,BH,isShift,Cq]
theorem oo{kk:Nat}(h:m+kk+1=L)(hL:L<=1000000000):AX .sub (.int .i64 (kk:Int)) (.int .i64 1)=some (.int .i64 (((L-(m+1):Nat):Int)-1)):=by
 grind[AX,BH,isShift,Cq]
theorem QId.leaveR(h:QId R st)(hu:∀u∈us,0<=u/\u<R):QId R (B6 b p us st):=QId.leave (b:=b) (p:=p) (st:=⟨D8 st.G b p,st.w,st.ws,st.es⟩) ⟨h.wt,h.st⟩ hu
theorem bE(h:(Gh f v).length=0):Io f v st=st:=by
 unfold Io;rw[h];rfl
def Cw(S:Da)(i v:Nat)(l:List Site):Da:=fun i' v'=>if i'=i/\v'=v then l else S i' v'
theorem HT(S:Da)(i v:Nat)(l:List Site):Cw S i v l i v=l:=by unfold Cw;rw[qK0 ⟨rfl,rfl⟩]
theorem Im{i' v':Nat}(l:List Site)(h:¬(i'=i/\v'=v)):Cw S i v l i' v'=S i' v':=by unfold Cw;rw[qZ9 h]
theorem Mu(S:Da)(i v:Nat):Cw S i v (S i v)=S:=funext fun a=>funext fun b=>by
 unfold Cw;split
 . grind
 . rfl
def Cn(S:Da)(i v:Nat):List Nat:=(List.range i).filter fun j=> !(S j v).isEmpty
theorem M0(hi:i<n)(h:∀j,i<j->S j v=[]):Oe S n v=Cn S i v++(if(S i v).isEmpty then []else [i]):=by
 unfold Oe Cn;have key:∀m,(List.range (i+1+m)).filter (fun j=> !(S j v).isEmpty)=(List.range (i+1)).filter (fun j=> !(S j v).isEmpty):=fun m=>by
  induction m with
  |zero=>rfl
  |succ m ih=>
   rw[show i+1+(m+1)=(i+1+m)+1 by omega,q79,q52,ih,List.filter_cons,h (i+1+m) z144q]
   simp
 have:=key (n-(i+1));rw[show i+1+(n-(i+1))=n by omega]at this;rw[this,q79,q52,List.filter_cons]
 cases (S i v).isEmpty<;>rfl
theorem gE(h:j∈Cn S i v):j<i:=q94.1 (q90.1 h).1
theorem Rz(l:List Site)(u:Nat):Cn (Cw S i v l) i u=Cn S i u:=by
 unfold Cn;refine List.filter_congr fun j hj=>?_
 rw[Im l (fun e=>by have:=q94.1 hj;omega)]
def Kb(R:Nat)(v i:Nat)(l:List Site):List AV:=[.int .i64 (i:Int),A6 (4*(v+R*i)+3+16) (l.map Hx)]
def CA(R:Nat)(S:Da)(v i:Nat):List (List AV):=(Cn S i v).map (WD R S v)
theorem qu(h:0<(S i v).length):Kb R v i (S i v)=WD R S v i:=by
 unfold Kb WD;have:=OL (b:=4*(v+R*i)+3+16) (es:=(S i v).map Hx) (k:=0) (by rw[q76];exact h)
 grind
theorem bP(l:List Site):CA R (Cw S i v l) v i=CA R S v i:=by
 unfold CA;rw[Rz];refine q42 fun j hj=>?_
 unfold WD;rw[Im l (fun e=>by have:=gE hj;omega)]
theorem Of(hi:i<n)(h:∀j,i<j->S j v=[])(hl:0<(S i v).length):Kw n R S v=CA R S v i++[Kb R v i (S i v)]:=by
 unfold Kw CA;have e:(S i v).isEmpty=false:=by
  grind
 rw[M0 hi h,e,q77,qu hl];rfl
theorem Z0(hi:i<n)(h:∀j,i<j->S j v=[])(hl:S i v=[]):Kw n R S v=CA R S v i:=by
 unfold Kw CA;rw[M0 hi h,hl];simp
def oX(n R:Nat)(S:Da)(v i:Nat):Nat->AV:=fun u=>if u=v then .ref (4*v+2+16) ((Cn S i v).length+1) 0 ((Cn S i v).length+1)else oR n R S u
def Rp(n R:Nat)(S:Da)(v i:Nat)(l:List Site):Nat->AObj:=KE (O7 n R S) v (.row false 2 (CA R S v i++[Kb R v i l]))
def bJ(R:Nat)(S:Da)(v i:Nat)(l:List Site):Nat->AObj:=KE (NW R S) (v+R*i) (By 3 (l.map Hx))
theorem oy(l:List Site)(h:u≠v):Kw n R (Cw S i v l) u=Kw n R S u:=by
 unfold Kw Oe;have e:((List.range n).filter fun j=> !(Cw S i v l j u).isEmpty)=(List.range n).filter fun j=> !(S j u).isEmpty:=List.filter_congr fun j _=>by rw[Im l (fun e=>h e.2)]
 rw[e];refine q42 fun j _=>?_
 unfold WD;rw[Im l (fun e=>h e.2)]
theorem ov(hi:i<n)(h:∀j,i<j->S j v=[])(hl:0<l.length):Az (oX n R S v i) R=Az (oR n R (Cw S i v l)) R:=De fun u _=>by
 unfold oX oR
 by_cases hu:u=v
 . subst hu;rw[qK0 rfl,Of hi (fun j hj=>by rw[Im l (fun e=>by omega)];exact h j hj) (by rw[HT];exact hl),I6];unfold CA;rw[q76,Rz]
 . rw[qZ9 hu,oy l hu]
theorem ge(hv:v<R)(hi:i<n)(h:∀j,i<j->S j v=[])(hl:0<l.length):Rp n R S v i l=O7 n R (Cw S i v l):=by
 unfold Rp;have:=GN (k:=R) (o:=fun u=>Qx 2 (Kw n R S u)) (o':=fun u=>Qx 2 (Kw n R (Cw S i v l) u)) hv (fun c hc=>by rw[oy l hc]);refine Eq.trans ?_ this.symm;unfold O7;congr 1;rw[Of hi (fun j hj=>by rw[Im l (fun e=>by omega)];exact h j hj) (by rw[HT];exact hl),HT,bP];simp[Qx,N2]
theorem Ti(hv:v<R):bJ R S v i l=NW R (Cw S i v l):=funext fun m=>by
 unfold bJ KE NW
 by_cases hm:m=v+R*i
 . subst hm;rw[qK0 rfl,ZW hv,ZV hv,HT]
 . rw[qZ9 hm,Im l (fun e=>hm ?_)];have:=Nat.mod_add_div m R;rw[e.1,e.2]at this;exact this.symm
theorem f9(hv:v<R):bJ R S v i (S i v)=NW R S:=by rw[Ti hv,Mu]
theorem gd(hv:v<R)(hi:i<n)(h:∀j,i<j->S j v=[])(hl:0<(S i v).length):Rp n R S v i (S i v)=O7 n R S:=by rw[ge hv hi h hl,Mu]
theorem lC(hi:i<n)(h:∀j,i<j->S j v=[])(hl:0<(S i v).length):Az (oX n R S v i) R=Az (oR n R S) R:=by rw[ov hi h hl,Mu]
def Bi(l:List Site)(p:Nat):List Site:=if(l.getLast?.map Site.at_)=some p then l else l++[⟨p,false,false⟩]
theorem CK(l:List Site)(p:Nat):0<(Bi l p).length:=by
 grind[Bi]
theorem J2(hk:l[k]?=some s)(hl:k+1=l.length)(h:s.at_≠p):Bi l p=l++[⟨p,false,false⟩]:=by
 grind[Bi]
theorem RG(hk:l[k]?=some s)(hl:k+1=l.length)(h:s.at_=p):Bi l p=l:=by
 grind[Bi]
theorem RF(hi:i<n)(h:∀j,i<j->S j v=[])(hl:(Kw n R S v).length=0):S i v=[]:=by
 cases e:S i v with
 |nil=>rfl
 |cons a l=>
  rw[Of hi h (by rw[e];simp)]at hl;simp at hl
theorem note_new2{j0:Nat}(hi:i<n)(h:∀j,i<j->S j v=[])(hk:(Oe S n v)[k]?=some j0)(hl:k+1=(Oe S n v).length)(hne:j0≠i):S i v=[]:=by
 cases e:S i v with
 |nil=>rfl
 |cons a l=>
  have hs:Oe S n v=Cn S i v++[i]:=by rw[M0 hi h,e];rfl
  rw[hs]at hk hl;have:k=(Cn S i v).length:=by simp at hl;omega
  subst this;rw[q02 (qZ0 _)]at hk;simp at hk;exact absurd hk.symm hne
theorem gY(hi:i<n)(h:∀j,i<j->S j v=[])(hk:(Oe S n v)[k]?=some i):0<(S i v).length:=(TL hk).2
theorem qo(hi:i<n)(h:∀j,i<j->S j v=[])(hl:0<(S i v).length):oR n R S v=.ref (4*v+2+16) ((Cn S i v).length+1) 0 ((Cn S i v).length+1):=by
 unfold oR;rw[Of hi h hl,I6];unfold CA;rw[q76]
variable {y : List AV}
theorem aD{x:List AV}(h:WkAll x y):∀(i:Nat) (ds ds':List AV),(es++[x])[i]?=some ds->(es++[y])[i]?=some ds'->ds'.length=ds.length/\∀(j:Nat) (a b:AV),ds[j]?=some a->ds'[j]?=some b->(a.cell1=true->b.cell1=true)/\∀H ι v,Rel H ι a v->Rel H ι b v:=fun i ds ds' h1 h2=>by
 grind[List.getElem?_append_left,Wk.refl,List.getElem?_append_right,Ow,WkAll]
theorem qm{x:List AV}(hp:es.length=(Cn S i v).length):(Az (oR n R S) R).set (0+((v:Nat):Int).toNat) [A6 (4*v+2+16) (es++[x])]=Az (oX n R S v i) R:=by
 rw[qQ8,q55,Ib];refine De fun u _=>?_
 unfold oX
 by_cases hu:u=v
 . subst hu;rw[qK0 rfl,qK0 rfl,I6,hp]
 . rw[qZ9 hu,qZ9 hu]
theorem FC(R:Nat)(S:Da)(v i:Nat):(CA R S v i).length=(Cn S i v).length:=by simp[CA]
theorem bO(S:Da)(i v:Nat):(Cn S i v).length<=i:=by
 unfold Cn
 grind
theorem bY(l:List Site)(p:Nat):(Bi l p).length<=l.length+1:=by
 grind[Bi]
theorem Gd:F4 r0 r1 (Rp n R S v i l) r3 (4*v+2)=.row false 2 (CA R S v i++[Kb R v i l]):=by
 rw[qQ];unfold Rp KE;rw[qK0 rfl]
theorem qb:F4 r0 r1 r2 (bJ R S v i l) (4*(v+R*i)+3)=By 3 (l.map Hx):=by
 rw[qP];unfold bJ KE;rw[qK0 rfl]
theorem gD:(CA R S v i++[Kb R v i l])[(Cn S i v).length]?=some (Kb R v i l):=by
 rw[<-FC R S v i,q02 (qZ0 _)];simp
theorem qc(x:Nat):F4 r0 r1 (Rp n R S v i l) r3 x=if x=4*v+2 then .row false 2 (CA R S v i++[Kb R v i l])else F4 r0 r1 (O7 n R S) r3 x:=oO _ _ _ _ _ _ _
variable {l' : List Site}
theorem bK:Rp n R S v i l'=KE (Rp n R S v i l) v (.row false 2 (CA R S v i++[Kb R v i l'])):=funext fun c=>by
 unfold Rp KE;split<;>rfl
theorem gC:(CA R S v i++[Kb R v i l]).set (Cn S i v).length y=CA R S v i++[y]:=by
 rw[<-FC R S v i,List.set_append_right _ _ (qZ0 _)];simp
theorem N4(h:0<l.length):By 3 (l.map Hx)=.row true 3 (l.map Hx):=I5 (k:=0) (by rw[q76];exact h)
theorem XE(hv:v<R):F4 r0 r1 (O7 n R S) r3 (4*v+2)=Qx 2 (Kw n R S v):=(qQ _ _ _ _ _).trans (EX hv)
theorem Ro(hv:v<R):F4 r0 r1 r2 (NW R S) (4*(v+R*i)+3)=By 3 ((S i v).map Hx):=(qP _ _ _ _ _).trans (gb hv)
theorem Rc(h:0<L)(hL:L<=1000000000):AX .sub (.int .i64 (L:Int)) (.int .i64 1)=some (.int .i64 ((L-1:Nat):Int)):=by
 grind[AX,BH,isShift,Cq]
theorem TQ(h:(((L:Nat):Int)==0)=false):0<L:=by
 grind
theorem EN(h:(((L:Nat):Int)==0)=true):L=0:=by
 grind
theorem N8{l:List α}(h:l.length=0):l=[]:=q18.1 h
theorem p6(l:List Site):∀cs∈l.map Hx,cs.length=3:=fun cs hc=>by
 grind[Hx]
theorem Oj{L:List AObj}(hL:L.length=6)(h0:h 0=some .free)(h1:h 1=some .free)(hl:LowS h 2 L)(hh:∀x,h (x+16)=some (F x))(hf:∀c,8<=c->c<16->h c=some .free):HSub (DH L F) h:=fun c o ho=>by
 cases e:kD c with
 |true=>rw[ag hL hl hh e];exact ho
 |false=>
  rcases VH e with rfl|rfl|hc
  . have:some AObj.free=some o:=ho;rw[h0];exact this
  . have:some AObj.free=some o:=ho;rw[h1];exact this
  . have e2:DH L F c=some .free:=by
     show Ig (nb (.free:: .free::L)) F c=_;rw[KX _ _ z144q];show some (WA (.free:: .free::L) c)=_;rw[nth_out (by show L.length+1+1<=c;omega)]
    rw[e2]at ho;rw[hf c hc.1 hc.2];exact ho
theorem Yb(h:Ad)(z:Nat)(o1 o2:AObj):hput (hput h z o1) z o2=hput h z o2:=funext fun c=>by
 by_cases hc:c=z
 . subst hc;rw[At,At]
 . rw[AU _ _ hc,AU _ _ hc,AU _ _ hc]
theorem lf(hS0:S i v=[])(x:Nat):F4 r0 r1 (Rp n R S v i (S i v)) r3 x=if x=4*v+2 then .row false 2 (CA R S v i++[[.int .i64 (i:Int),A6 (4*(v+R*i)+3+16) []]])else F4 r0 r1 (O7 n R S) r3 x:=by
 rw[qc,hS0];rfl
theorem gc(hy:y=Kb R v i l')(x:Nat):F4 r0 r1 (Rp n R S v i l') r3 x=if x=4*v+2 then .row false 2 ((CA R S v i++[Kb R v i l]).set (0+(((Cn S i v).length:Nat):Int).toNat) y)else F4 r0 r1 (Rp n R S v i l) r3 x:=by
 rw[bK (l:=l),oO,qQ8,q55,gC,hy]
theorem f8(x:Nat):F4 r0 r1 r2 (bJ R S v i (l++[s])) x=if x=4*(v+R*i)+3 then By 3 (l.map Hx++[Hx s])else F4 r0 r1 r2 (NW R S) x:=by
 unfold bJ;rw[oM,q77];rfl
theorem iJ:[AV.int .i64 (i:Int),A6 (4*(v+R*i)+3+16) (l.map Hx++[Hx s])]=Kb R v i (l++[s]):=by
 unfold Kb;rw[q77];rfl
theorem UL(z:Bool)(v:Nat)(t:Tac):∀(l:List Tac) (j:Nat),Hb false v (l++[t]) j=Hb false v l j++(bif t.uses.contains (v:Int)||t.sets==(v:Int)then [⟨j+l.length,t.uses.contains (v:Int),t.sets==(v:Int)⟩]else [])
 | [],j=>by
  rw[List.nil_append,E7]
  cases t.uses.contains (v:Int)||t.sets==(v:Int)<;>simp[Hb]
 |u::l,j=>by
  rw[q73,E7,E7,UL z v t l (j+1)];exact nA
theorem Zp(z:Bool)(v:Nat):∀(l:List Tac) (j:Nat),Hb z v l j=Hb false v l j++(bif z then [⟨j+l.length,true,false⟩]else [])
 | [],j=>by cases z<;>simp[Hb]
 |u::l,j=>by
  rw[E7,E7,Zp z v l (j+1)];exact nA
def QE(x:Block)(v j:Nat):List Site:=Hb false v (x.ins.take j) 0
theorem UK(x:Block)(v:Nat):QE x v 0=[]:=by simp[QE,Hb]
theorem OQ(h:x.ins[j]?=some t):QE x v (j+1)=QE x v j++(bif t.uses.contains (v:Int)||t.sets==(v:Int)then [⟨j,t.uses.contains (v:Int),t.sets==(v:Int)⟩]else []):=by
 unfold QE;have hj:=(q05.1 h).1;have e:x.ins.take (j+1)=x.ins.take j++[t]:=by rw[q59,h];rfl
 rw[e,UL false,q69,Nat.min_eq_left z144q,qQ8]
theorem Zn(x:Block)(v:Nat):Bd x v=QE x v x.ins.length++(bif Dy x v then [⟨x.ins.length,true,false⟩]else []):=by
 unfold Bd QE;rw[Zp,q71,qQ8]
theorem fy:∀s∈QE x v j,s.at_<j:=fun s hs=>by
 unfold QE at hs;obtain⟨k,hk⟩:=q27.1 hs;rcases siF_get hk with⟨_,_,_,e,_⟩|⟨p,t,h1,h2,_⟩
 . cases e
 . have:=(q05.1 h2).1;rw[q69]at this;omega
theorem noteL_fresh(h:∀s∈l,s.at_<p):Bi l p=l++[⟨p,false,false⟩]:=by
 unfold Bi
 cases e:l.getLast? with
 |none=>simp
 |some s=>
  have:=h s (List.mem_of_getLast? e);rw[qZ9 Df]
theorem noteL_there{r s:Bool}:Bi (l++[⟨p,r,s⟩]) p=l++[⟨p,r,s⟩]:=by
 unfold Bi;rw[List.getLast?_concat];simp
def Dq(f:BFunc)(i:Nat)(cur:Nat->List Site):Da:=fun i' v=>if i'<i then HR f v i' else if i'=i then cur v else []
theorem Pe(f:BFunc)(i:Nat)(cur:Nat->List Site)(v:Nat):∀j,i<j->Dq f i cur j v=[]:=fun j hj=>by
 unfold Dq;rw[qZ9 z144q,qZ9 z144q]
theorem To(f:BFunc)(i:Nat)(cur:Nat->List Site)(v:Nat):Dq f i cur i v=cur v:=by
 unfold Dq;rw[qZ9 (Nat.lt_irrefl i),qK0 rfl]
theorem Tn(f:BFunc)(i:Nat)(cur:Nat->List Site)(v:Nat)(l:List Site):Cw (Dq f i cur) i v l=Dq f i (fun u=>if u=v then l else cur u):=funext fun a=>funext fun u=>by
 unfold Cw Dq
 by_cases ha:a=i
 . subst ha;rw[qZ9 (Nat.lt_irrefl a),qK0 rfl,qZ9 (Nat.lt_irrefl a),qK0 rfl]
   by_cases hu:u=v
   . rw[qK0 ⟨rfl,hu⟩];exact(qK0 hu).symm
   . rw[qZ9 (fun e=>hu e.2)];exact(qZ9 hu).symm
 . rw[qZ9 (fun e=>ha e.1)]
   by_cases h2:a<i
   . rw[qK0 h2,qK0 h2]
   . rw[qZ9 h2,qZ9 h2,qZ9 ha,qZ9 ha]
variable {cur : Nat -> List Site}
theorem Vh(hx:f.blocks[i]?=some x)(h:∀v,cur v=Bd x v):Dq f i cur=Dq f (i+1) (fun _=>[]):=funext fun a=>funext fun u=>by
 unfold Dq
 by_cases ha:a=i
 . subst ha;rw[qZ9 (Nat.lt_irrefl a),qK0 rfl,qK0 (Nat.lt_succ_self a),h,Gb hx]
 . by_cases h2:a<i
   . rw[qK0 h2,qK0 z144q]
   . rw[qZ9 h2,qZ9 ha,qZ9 z144q];split<;>rfl
theorem lq:Dq f f.blocks.length (fun _=>[])=SB f:=funext fun a=>funext fun u=>by
 unfold Dq
 by_cases h:a<f.blocks.length
 . rw[qK0 h]
 . rw[qZ9 h];have:f.blocks[a]?=none:=q09.2 z144q;have e:HR f u a=[]:=by unfold HR;rw[this];rfl
   show _=HR f u a;rw[e];split<;>rfl
theorem JX{cur':Nat->List Site}(h:∀v,cur v=cur' v):Dq f i cur=Dq f i cur':=by rw[funext h]
def BG(x:Block)(j:Nat)(us:List Int)(v:Nat):List Site:=QE x v j++(bif us.contains (v:Int)then [⟨j,true,false⟩]else [])
theorem Ia(x:Block)(j v:Nat):BG x j [] v=QE x v j:=by simp[BG]
def flagR(l:List Site):List Site:=l.dropLast++(l.getLast?.map fun s=>(⟨s.at_,true,s.s⟩:Site)).toList
def flagS(l:List Site):List Site:=l.dropLast++(l.getLast?.map fun s=>(⟨s.at_,s.r,true⟩:Site)).toList
theorem Iz(l:List Site)(s:Site):flagR (l++[s])=l++[⟨s.at_,true,s.s⟩]:=by
 unfold flagR;rw[List.dropLast_concat,List.getLast?_concat];rfl
theorem KW(l:List Site)(s:Site):flagS (l++[s])=l++[⟨s.at_,s.r,true⟩]:=by
 unfold flagS;rw[List.dropLast_concat,List.getLast?_concat];rfl
theorem oz:∃r,Bi (BG x j us v) j=QE x v j++[⟨j,r,false⟩]/\r=us.contains (v:Int):=by
 unfold BG
 cases e:us.contains (v:Int)with
 |true=>exact⟨true,noteL_there,rfl⟩
 |false=>
  refine⟨false,?_,rfl⟩;rw[qZ3,q91];exact noteL_fresh fy
variable {u : Int}
theorem use_noted(h:us[k]?=some u)(h0:0<=u)(v:Nat):(if v=u.toNat then flagR (Bi (BG x j (us.take k) u.toNat) j)else BG x j (us.take k) v)=BG x j (us.take (k+1)) v:=by
 have e:us.take (k+1)=us.take k++[u]:=by rw[q59,h];rfl
 by_cases hv:v=u.toNat
 . rw[qK0 hv];obtain⟨r,h1,_⟩:=oz (x:=x) (j:=j) (v:=u.toNat) (us:=us.take k);rw[h1,Iz];unfold BG;have:(us.take (k+1)).contains (v:Int)=true:=by
    rw[q31,e,q78,q47];right;omega
   rw[this,hv];rfl
 . rw[qZ9 hv];unfold BG;have:(us.take (k+1)).contains (v:Int)=(us.take k).contains (v:Int):=by
    rw[Bool.eq_iff_iff,q31,q31,e,q78,q47];exact⟨fun h=>h.elim id fun e=>absurd (show v=u.toNat by omega) hv,.inl⟩
   rw[this]
theorem bj(ht:x.ins[j]?=some t)(h0:0<=t.sets)(v:Nat):(if v=t.sets.toNat then flagS (Bi (BG x j t.uses t.sets.toNat) j)else BG x j t.uses v)=QE x v (j+1):=by
 rw[OQ ht]
 by_cases hv:v=t.sets.toNat
 . rw[qK0 hv];obtain⟨r,h1,h2⟩:=oz (x:=x) (j:=j) (v:=t.sets.toNat) (us:=t.uses);rw[h1,KW];have e:(t.sets==(v:Int))=true:=by rw[qZ4];omega
   rw[e,qX6,qZ7,h2,hv]
 . rw[qZ9 hv];exact nv
theorem Vp(ht:x.ins[j]?=some t)(h0:¬0<=t.sets)(v:Nat):BG x j t.uses v=QE x v (j+1):=by
 rw[OQ ht];exact nv
theorem cM(h:x.fin=2)(h0:0<=x.v)(v:Nat):(if v=x.v.toNat then flagR (Bi (QE x x.v.toNat x.ins.length) x.ins.length)else QE x v x.ins.length)=Bd x v:=by
 rw[Zn]
 by_cases hv:v=x.v.toNat
 . rw[qK0 hv,noteL_fresh fy,Iz];have:Dy x v=true:=by unfold Dy;rw[h];simp;omega
   rw[this,hv];rfl
 . rw[qZ9 hv];have:Dy x v=false:=by
    unfold Dy;have:(x.v==(v:Int))=false:=by rw[q40];omega
    rw[this,q97]
   rw[this,qZ3,q91]
theorem Vq(h:¬x.fin=2)(v:Nat):QE x v x.ins.length=Bd x v:=by
 rw[Zn];have:Dy x v=false:=by unfold Dy;simp[h]
 rw[this,qZ3,q91]
variable {d : Nat}
theorem qL(h:∀c,A' c=if c=d then A c++[k]else A c):(Az (aR A) n).set (0+d) [A6 (4*d+0+16) ((A d).map BN++[BN k])]=Az (aR A') n:=by
 grind[Ib,De,aR,Az,A6,BN]
theorem lm(hd:d<n)(h:∀c,A' c=if c=d then A c++[k]else A c)(x:Nat):F4 (Tj n A') r1 r2 r3 x=if x=4*d+0 then By 1 ((A d).map BN++[BN k])else F4 (Tj n A) r1 r2 r3 x:=by
 have e:Tj n A'=KE (Tj n A) d (By 1 ((A' d).map BN)):=GN hd fun c hc=>by rw[h,qZ9 hc]
 grind[wA,F4,Tj,By,BN]
theorem Rr(h:∀c,A c=A' c):Tj n A=Tj n A':=by rw[funext h]
theorem vU(h:b<n):F4 (Tj n A) r1 r2 r3 (4*b+0)=By 1 ((A b).map BN):=(wC _ _ _ _ _).trans (EX h)
abbrev G0:GG:=fun _ _=>false
def S0:Da:=fun _ _=>[]
def gK(f:BFunc)(k:Nat):Nat->AV:=fun b=>if b<k then gR f b else .nil
theorem l0(f:BFunc)(n:Nat):List.replicate n [AV.nil]=Az (gK f 0) n:=by
 grind[Ic,De,gK,Az]
theorem qw(f:BFunc):Az (gK f f.blocks.length) f.blocks.length=Az (gR f) f.blocks.length:=De fun b hb=>by
 grind[gK,Az,gR]
theorem qv(hm:G1 f k=m):(Az (gK f k) n).set (0+((k:Nat):Int).toNat) [.ref (4*k+1+16) m 0 m]=Az (gK f (k+1)) n:=by
 rw[qQ8,q55,Ib]
 grind[De,gK,gR,G1,Az]
variable {p : Nat -> Bool}
theorem Eh(hp:∀x,p (x+16)=true)(f:BFunc)(k b:Nat):(gK f k b).avoid p=true:=by
 unfold gK;split
 . exact B9 hp f b
 . rfl
theorem ll:F4 r0 (Qy f k G) r2 r3 (4*k+1)=.free:=(wB _ _ _ _ _).trans (KJ (qZ0 _))
theorem gr(hm:G1 f k=m)(x:Nat):F4 r0 (Qy f (k+1) G0) r2 r3 x=if x=4*k+1 then .row true 1 (List.replicate m [AV.bool false])else F4 r0 (Qy f k G0) r2 r3 x:=by
 unfold Qy;rw[Jb,oP,hm];have:bC m (G0 k)=List.replicate m [AV.bool false]:=by
  show Az (fun _=>AV.bool false) m=_;exact(Ic _ _).symm
 rw[this]
theorem ju(R:Nat):List.replicate R [AV.bool false]=bC R (fun b=>decide (b<0)):=by
 show _=Az (fun b=>AV.bool (decide (b<0))) R;rw[Ic]
 grind
theorem iG(n v:Nat):Oe S0 n v=[]:=by
 unfold Oe;exact List.filter_eq_nil_iff.2 fun a _=>by simp[S0]
theorem VU(n R v:Nat):Kw n R S0 v=[]:=by unfold Kw;rw[iG];rfl
theorem lD(n R v:Nat):oR n R S0 v=A6 (4*v+2+16) []:=by unfold oR;rw[VU]
theorem F4_start{x:Nat}:F4 (Tj n (fun _=>[])) (Qy f 0 G0) (O7 n R S0) (NW R S0) x=.free:=by
 have e0:∀b,Tj n (fun _=>[]) b=.free:=fun b=>by unfold Tj CZ;split<;>rfl
 have e1:∀b,Qy f 0 G0 b=.free:=fun b=>by unfold Qy CZ;rw[qZ9 (Nat.not_lt_zero b)]
 have e2:∀b,O7 n R S0 b=.free:=fun b=>by unfold O7 CZ;dsimp only;rw[VU];split<;>rfl
 have e3:∀b,NW R S0 b=.free:=fun b=>rfl
 unfold F4;split
 . exact e0 _
 . split
   . exact e1 _
   . split
     . exact e2 _
     . exact e3 _
variable {S' : Da}
theorem iH(h:∀i,(S i v).length=(S' i v).length):Oe S n v=Oe S' n v:=by
 unfold Oe
 grind
theorem VV(h:∀i,(S i v).length=(S' i v).length):Kw n R S v=Kw n R S' v:=by
 unfold Kw;rw[iH h];refine q42 fun i _=>?_
 unfold WD;rw[h i]
theorem lE(h:∀v i,(S i v).length=(S' i v).length):Az (oR n R S) R=Az (oR n R S') R:=De fun v _=>by
 unfold oR;rw[VV (h v)]
theorem gh(h:∀v i,(S i v).length=(S' i v).length):O7 n R S=O7 n R S':=by
 unfold O7;congr 1;exact funext fun v=>by rw[VV (h v)]
theorem Rf(h:l'.length=l.length):∀v' i',(Cw S i v l i' v').length=(Cw S i v l' i' v').length:=fun v' i'=>by
 unfold Cw;split
 . exact h.symm
 . rfl
theorem GF:(flagR l).length=l.length:=by
 grind[Iz,flagR]
theorem M2:(flagS l).length=l.length:=by
 grind[KW,flagS]
theorem kL(h:0<l.length):∃l' s,l=l'++[s]:=by
 rcases List.eq_nil_or_concat l with rfl|⟨l',s,rfl⟩
 . simp at h
 grind
theorem si_last(h:0<l.length):∃s,l[l.length-1]?=some s/\(l.map Hx).set (l.length-1) [.int .i64 (s.at_:Int),.bool true,.bool s.s]=(flagR l).map Hx/\(l.map Hx).set (l.length-1) [.int .i64 (s.at_:Int),.bool s.r,.bool true]=(flagS l).map Hx:=by
 grind[kL,List.getElem?_append_right,Iz,Hx,KW,flagR,flagS]
variable {q : List (List AV)}
theorem ga(hv:v<R)(hl:0<l'.length)(hq:q=l'.map Hx)(x:Nat):F4 r0 r1 r2 (NW R (Cw S i v l')) x=if x=4*(v+R*i)+3 then .row true 3 q else F4 r0 r1 r2 (NW R (Cw S i v l)) x:=by
 have e:NW R (Cw S i v l')=KE (NW R (Cw S i v l)) (v+R*i) (.row true 3 q):=by
  rw[<-Ti hv,<-Ti hv];refine funext fun m=>?_
  unfold bJ KE;split
  . rw[hq,N4 hl]
  . rfl
 rw[e,oM]
theorem PR(hv:v<R)(hl:0<l.length):F4 r0 r1 r2 (NW R (Cw S i v l)) (4*(v+R*i)+3)=.row true 3 (l.map Hx):=by
 rw[Ro hv,HT,N4 hl]
theorem Zm(x:Block)(v:Nat):∀j,(QE x v j).length<=j
 |0=>by rw[UK];exact qZ0 _
 |j+1=>by
  have ih:=Zm x v j
  cases e:x.ins[j]? with
  |none=>
   have:QE x v (j+1)=QE x v j:=by
    have:=q09.1 e;unfold QE;rw[q20 z144q,q20 this]
   rw[this];omega
  |some t=>
   rw[OQ e,q48]
   cases t.uses.contains (v:Int)||t.sets==(v:Int)<;>simp<;>omega
theorem i9(x:Block)(j:Nat)(us:List Int)(v:Nat):(BG x j us v).length<=j+1:=by
 grind[BG,Zm,List.length_append]
theorem bN(f:BFunc):S0=Dq f 0 (fun _=>[]):=funext fun a=>funext fun u=>by
 grind[Dq,S0]
theorem Rw(f:BFunc)(k:Nat)(x:Block):Dq f k (fun _=>[])=Dq f k (BG x 0 []):=JX fun v=>by rw[Ia,UK]
abbrev qW(f:BFunc)(R:Nat):List AV:=[.int .i64 f.regs,BZ f.blocks,AO f.nexts,.ref 3 f.blocks.length 0 f.blocks.length,.ref 4 R 0 R,.ref 5 f.blocks.length 0 f.blocks.length,.nil,.nil]
abbrev jH(f:BFunc)(R:Nat)(S:Da)(k:Nat):List AObj:=[.row false 8 [qW f R],.row false 1 (Az (aR (AB f)) f.blocks.length),.row false 1 (Az (oR f.blocks.length R S) R),.row false 1 (Az (gK f k) f.blocks.length),.free,.free]
abbrev dK(f:BFunc)(R:Nat)(S:Da)(k:Nat):Nat->AObj:=F4 (Tj f.blocks.length (AB f)) (Qy f k G0) (O7 f.blocks.length R S) (NW R S)
theorem GJ(f:BFunc)(R:Nat)(S:Da)(k:Nat):∀o∈jH f R S k,o.avoid kD=true:=fun o ho=>by
 simp only[jH,q99,List.not_mem_nil,or_false]at ho;rcases ho with rfl|rfl|rfl|rfl|rfl|rfl
 . rfl
 . exact Ah (fun b _=>Bo CS _ _)
 . exact Ah (fun b _=>Bf CS _ _ _ _)
 . exact Ah (fun b _=>Eh CS _ _ _)
 . rfl
 . rfl
theorem Dx(hp:∀x,p (x+16)=true)(f:BFunc)(R:Nat)(S:Da)(k x:Nat):(dK f R S k x).avoid p=true:=Md (fun _=>JV _) (fun _=>JU _) (fun _=>JT hp _) (fun _=>JS _) x
variable {S2 : Da}
theorem T7(hv:v<R)(hl:l'.length=l.length)(h0:0<l.length)(hS:S2=Cw S i v l')(hq:q=l'.map Hx)(x:Nat):
 dK f R S2 k x=if x=4*(v+R*i)+3 then .row true 3 q else dK f R (Cw S i v l) k x:=by
 subst hS;have e:O7 f.blocks.length R (Cw S i v l')=O7 f.blocks.length R (Cw S i v l):=gh (Rf hl.symm);show F4 _ _ (O7 f.blocks.length R (Cw S i v l')) _ x=_;rw[e];exact ga hv z144q hq x
theorem Ki(hl:l'.length=l.length)(hS:S2=Cw S i v l'):Az (oR n R (Cw S i v l)) R=Az (oR n R S2) R:=by
 subst hS;exact lE (Rf hl)
variable {q : Nat}
theorem XK(h:us[q]?=some u)(h0:0<=u):Dq f k (BG x j (us.take (q+1)))=Cw (Dq f k (BG x j (us.take q))) k u.toNat (flagR (Bi (Dq f k (BG x j (us.take q)) k u.toNat) j)):=by
 rw[To,Tn];exact JX fun v=>(use_noted h h0 v).symm
theorem XL(ht:x.ins[j]?=some t)(h0:0<=t.sets):Dq f k (BG x (j+1) [])=Cw (Dq f k (BG x j t.uses)) k t.sets.toNat (flagS (Bi (Dq f k (BG x j t.uses) k t.sets.toNat) j)):=by
 rw[To,Tn]
 grind[JX,Ia,bj,Dq,BG,Cw,flagS,Bi]
theorem Vf(ht:x.ins[j]?=some t)(h0:¬0<=t.sets):Dq f k (BG x j t.uses)=Dq f k (BG x (j+1) []):=JX fun v=>by
 rw[Ia];exact Vp ht h0 v
theorem XN(hx:f.blocks[k]?=some x)(h:x.fin=2)(h0:0<=x.v):Dq f (k+1) (fun _=>[])=Cw (Dq f k (BG x x.ins.length [])) k x.v.toNat (flagR (Bi (Dq f k (BG x x.ins.length []) k x.v.toNat) x.ins.length)):=by
 rw[To,Tn,Ia]
 grind[Vh,Ia,cM,Dq,Cw,BG,flagR,Bi]
theorem Vg(hx:f.blocks[k]?=some x)(h:¬x.fin=2):Dq f k (BG x x.ins.length [])=Dq f (k+1) (fun _=>[]):=Vh hx fun v=>by rw[Ia];exact Vq h v
theorem XM(hj:j<=100000):(Dq f k (BG x j us) k v).length<=1000000:=by
 grind[To,i9,Dq,BG]
def Lx(κ:Nat->Bool)(h g:Ad):Ad:=fun c=>bif κ c then g c else h c
variable {κ : Nat -> Bool}
theorem Lw(hc:κ c=true):Lx κ h g c=g c:=by unfold Lx;rw[hc];rfl
theorem ZE(hc:κ c=false):Lx κ h g c=h c:=by unfold Lx;rw[hc];rfl
variable {W : Ad}
theorem Vb(hH:∀b,κ b=true->h b=W b):HSub (Lx κ hNone W) h:=fun c o ho=>by
 cases e:κ c with
 |true=>rw[Lw e]at ho;rw[hH c e];exact ho
 |false=>rw[ZE e]at ho;cases ho
theorem PO(hH:∀b,κ b=true->h b=W b)(hN:∀b,κ b=false->W b=some .free):EL h κ=W:=funext fun b=>by
 unfold EL
 cases e:κ b with
 |true=>rw[qZ7];exact hH b e
 |false=>rw[qZ3];exact(hN b e).symm
variable {f : FuncId}
theorem gU(κ:Nat->Bool)(ho:o.op=.call {callee:=.value (.func f),args:=args,argTypes:=tys})(hf:P.funcs[f]?=some fn)(hnm:(fn.name== "runtime.NumGoroutine")=false)(hb:fn.body.isSome=true)
 (hx:A8 e args.toList=some xs) (hxa:xs.all (AV.avoid κ)=true) (hH:∀b,κ b=true->h b=W b) (hA:∀b,κ b=true->∃q,W b=some q/\q.avoid κ=true) (hN:∀b,κ b=false->W b=some .free) (hra:r.avoid κ=true)
 (hcall:ACall P f xs W (fun r' h'=>r'=r/\HSub (Lx κ hNone W) h')):NT P o e h h r:=
 LF (hw:=Lx κ hNone W) κ ho hf hnm hb hx hxa eB (PO hH hN) (fun _ _=>rfl)
  sg hra hcall
theorem gT{W':Ad}(κ:Nat->Bool)(ho:o.op=.call {callee:=.value (.func f),args:=args,argTypes:=tys})(hf:P.funcs[f]?=some fn)(hnm:(fn.name== "runtime.NumGoroutine")=false)(hb:fn.body.isSome=true)
 (hx:A8 e args.toList=some xs) (hxa:xs.all (AV.avoid κ)=true) (hH:∀b,κ b=true->h b=W b) (hA:∀b,κ b=true->∃q,W b=some q/\q.avoid κ=true) (hN:∀b,κ b=false->W b=some .free) (hA':∀b,κ b=true->∃q,W' b=some q/\q.avoid κ=true) (hra:r.avoid κ=true)
 (hcall:ACall P f xs W (fun r' h'=>r'=r/\HSub (Lx κ hNone W') h')):NT P o e h (Lx κ h W') r:=
 LF (hw:=Lx κ hNone W') κ ho hf hnm hb hx hxa eB (PO hH hN) (fun _ hb=>ZE hb)
  (fun b hb=>by obtain⟨q,q1,q2⟩:=hA' b hb;exact⟨q,(Lw hb).trans q1,(Lw hb).trans q1,q2⟩) hra hcall
theorem gW{x:Operand}{fs:List AV}{hc hw hn:Ad}(κ:Nat->Bool)(ho:o.op=.call {callee:=.value x,args:=args,argTypes:=tys})(hfn:An e x=some (.fn (.func f) fs cs))(hf:P.funcs[f]?=some fn)(hnm:(fn.name== "runtime.NumGoroutine")=false)(hb:fn.body.isSome=true)
 (hx:A8 e args.toList=some xs) (hxa:(fs++xs++cs).all (AV.avoid κ)=true) (hL:∀b,κ b=true->∃q,h b=some q/\q.avoid κ=true) (hres':EL h κ=hc) (hW:∀b,κ b=false->hn b=h b)
 (hk:∀b,κ b=true->∃q,hw b=some q/\hn b=some q/\q.avoid κ=true) (hra:r.avoid κ=true)
 (hcall:ACall P f (fs++xs++cs) hc (fun r' h'=>r'=r/\HSub hw h')):NT P o e h hn r:=by
 intro H ι a w n Q hs;have hvf:=Ao hs hfn;obtain⟨us,vs,hve,k1,k2,k3,k4⟩:=hvf.fn_inv;have hraa:=CF (CF ⟨k1,k3⟩ (Cl hs hx)) ⟨k2,k4⟩;have hra':RelAll H (lcut ι κ) (fs++xs++cs) (us++args.map a.eval++vs):=⟨hraa.1,fun j x v h1 h2=>Ex (hraa.2 j x v h1 h2) (Fq hxa h1)⟩;have hrc:HeapRel H (lcut ι κ) (EL h κ) w:=by
  exact rD
 have hcalls:=hcall H (lcut ι κ) w _ hra' (hres'▸hrc);have hexec:(execOp a.eval o).run P w=.ok (.enter f (us++args.map a.eval++vs)) w:=by
  exact na
 exact rx
theorem gV{x:Operand}{fs:List AV}(κ:Nat->Bool)(ho:o.op=.call {callee:=.value x,args:=args,argTypes:=tys})(hfn:An e x=some (.fn (.func f) fs cs))(hf:P.funcs[f]?=some fn)(hnm:(fn.name== "runtime.NumGoroutine")=false)(hb:fn.body.isSome=true)
 (hx:A8 e args.toList=some xs) (hxa:(fs++xs++cs).all (AV.avoid κ)=true) (hH:∀b,κ b=true->h b=W b) (hA:∀b,κ b=true->∃q,W b=some q/\q.avoid κ=true) (hN:∀b,κ b=false->W b=some .free) (hra:r.avoid κ=true)
 (hcall:ACall P f (fs++xs++cs) W (fun r' h'=>r'=r/\HSub (Lx κ hNone W) h')):NT P o e h h r:=
 gW (hw:=Lx κ hNone W) κ ho hfn hf hnm hb hx hxa eB (PO hH hN) (fun _ _=>rfl)
  sg hra hcall
def kW:Nat->Bool:=fun c=>(Nat.ble 2 c&&Nat.blt c 9)||(Nat.beq c 12||Nat.ble 16 c)
theorem VG(x:Nat):kW (x+16)=true:=by
 unfold kW;rw[show Nat.ble 16 (x+16)=true by rw[qZ5];omega];simp
theorem ir(h:c<16):c=0\/c=1\/c=2\/c=3\/c=4\/c=5\/c=6\/c=7\/c=8\/c=9\/c=10\/c=11\/c=12\/c=13\/c=14\/c=15:=by omega
abbrev WH(r2 r3 r4 r5 r6 r7 A B:AObj)(F:Nat->AObj):Ad:=Ig (nb [.free,.free,r2,r3,r4,r5,r6,r7,A,.free,.free,.free,B]) F
theorem ac{r2 r3 r4 r5 r6 r7 A B:AObj}:∀b,kW b=false->WH r2 r3 r4 r5 r6 r7 A B F b=some .free:=fun b hb=>by
 rcases qX4 b 16 with h|h
 . rcases ir h with rfl|rfl|rfl|rfl|rfl|rfl|rfl|rfl|rfl|rfl|rfl|rfl|rfl|rfl|rfl|rfl<;>first|rfl|(exact absurd hb Aj)
 . obtain⟨x,rfl⟩:∃x,b=x+16:=⟨b-16,by omega⟩
   rw[VG]at hb;cases hb
theorem jD{r2 r3 r4 r5 r6 r7 A B:AObj}(h2:r2.avoid kW=true)(h3:r3.avoid kW=true)(h4:r4.avoid kW=true)(h5:r5.avoid kW=true)(h6:r6.avoid kW=true)(h7:r7.avoid kW=true)(hA:A.avoid kW=true)(hB:B.avoid kW=true)(hF:∀x,(F x).avoid kW=true):
 ∀b,kW b=true->∃q,WH r2 r3 r4 r5 r6 r7 A B F b=some q/\q.avoid kW=true:=fun b hb=>by
 rcases qX4 b 16 with h|h
 . rcases ir h with rfl|rfl|rfl|rfl|rfl|rfl|rfl|rfl|rfl|rfl|rfl|rfl|rfl|rfl|rfl|rfl<;>first|exact absurd hb Aj|exact⟨_,rfl,h2⟩|exact⟨_,rfl,h3⟩|exact⟨_,rfl,h4⟩|exact⟨_,rfl,h5⟩|exact⟨_,rfl,h6⟩|exact⟨_,rfl,h7⟩|exact⟨_,rfl,hA⟩|exact⟨_,rfl,hB⟩
 . obtain⟨x,rfl⟩:∃x,b=x+16:=⟨b-16,by omega⟩
   exact⟨_,As _ _ _,hF x⟩
theorem Z9{r2 r3 r4 r5 r6 r7 A B:AObj}(h2:h 2=some r2)(h3:h 3=some r3)(h4:h 4=some r4)(h5:h 5=some r5)(h6:h 6=some r6)(h7:h 7=some r7)(hA:h 8=some A)(hB:h 12=some B)(hF:∀x,h (x+16)=some (F x)):
 ∀b,kW b=true->h b=WH r2 r3 r4 r5 r6 r7 A B F b:=fun b hb=>by
 rcases qX4 b 16 with g|g
 . rcases ir g with rfl|rfl|rfl|rfl|rfl|rfl|rfl|rfl|rfl|rfl|rfl|rfl|rfl|rfl|rfl|rfl<;>first|exact absurd hb Aj|exact h2|exact h3|exact h4|exact h5|exact h6|exact h7|exact hA|exact hB
 . obtain⟨x,rfl⟩:∃x,b=x+16:=⟨b-16,by omega⟩
   exact(hF x).trans (As _ _ _).symm
abbrev ArW:AObj:=.row false 1 [[.ptr 2 1 0 0]]
abbrev y5(i:Nat):AObj:=.row false 1 [[.int .i64 (i:Int)]]
abbrev WS(f:BFunc)(R:Nat)(S:Da)(G:GG)(es:List (List AV))(len:Nat)(w:Nat->Bool)(i:Nat):Ad:=
  WH (.row false 8 [Ug f R es.length len]) (.row false 1 (Az (aR (AB f)) f.blocks.length)) (.row false 1 (Az (oR f.blocks.length R S) R)) (.row false 1 (Az (gR f) f.blocks.length)) (.row true 1 es) (.row true 1 (bC R w)) ArW (y5 i) (DF f R S G)
theorem Wn(f:BFunc)(R:Nat)(S:Da)(G:GG)(es:List (List AV))(len:Nat)(w:Nat->Bool)(i:Nat):∀b,kW b=true->∃q,WS f R S G es len w i b=some q/\q.avoid kW=true:=
 jD rfl (Ah (fun b _=>Bo VG _ _)) (Ah (fun b _=>Bf VG _ _ _ _)) (Ah (fun b _=>B9 VG _ _)) rfl rfl rfl rfl (Bn VG f R S G)
variable {l : List Tac} {G : Nat -> Bool}
theorem Vv(h:l[j]?=some t):EP G (l.take (j+1)) 0=EP G (l.take j) 0++(bif G j then []else [t]):=by
 have hj:=(q05.1 h).1;have e:l.take (j+1)=l.take j++[t]:=by rw[q59,h];rfl
 grind[Tx,EP]
theorem Vy(h:l[j]?=some t)(hg:G j=true):EP G (l.take (j+1)) 0=EP G (l.take j) 0:=by rw[Vv h,hg];simp
theorem Vx(h:l[j]?=some t)(hg:G j=false):(EP G (l.take j) 0).map Tac.cells++[t.cells]=(EP G (l.take (j+1)) 0).map Tac.cells:=by rw[Vv h,hg,q77];rfl
variable {f : BFunc}
theorem i7{G:GG}(h:∀x∈f.blocks,x.ins.length<=m):∀x∈(CB f G).blocks,x.ins.length<=m:=fun y hy=>by
 obtain⟨b,hb⟩:=q27.1 hy;obtain⟨x,hx,rfl⟩:=Ol hb;exact qX2 (Ob (G b) x.ins 0) (h x (q33 hx))
theorem kZ:some (AObj.row false 8 [Ug f R ((List.range R).map BN).length R])=some (AObj.row false 8 [Ug f R (qV R).es.length (qV R).ws.length]):=by
 show some (AObj.row false 8 [Ug f R ((List.range R).map BN).length R])=some (AObj.row false 8 [Ug f R ((List.range R).map BN).length (List.range R).length]);rw[List.length_range]
theorem gZ{r:Int}(h:x.ends n r=true):∀d∈x.nexts,0<=d/\d<n:=fun d hd=>by
 unfold Block.ends at h;unfold Block.nexts at hd
 cases e1:x.fin==1 with
 |true=>
  rw[e1]at h hd;simp[A3]at h hd;omega
 |false=>
  cases e2:x.fin==2 with
  |true=>
   rw[e1,e2]at h hd;simp[A3]at h hd;omega
  |false=>
   rw[e1,e2]at hd;simp at hd
theorem one_sane{n w:Int}(h:f.one n w=true):f.sane:=by
 obtain⟨h1,h2,h3,h4⟩:=Cs h;refine⟨h1,fun x hx t ht=>PS ((h4 x hx).2 t ht),fun x hx e=>?_,fun x hx=>gZ (h4 x hx).1⟩;have he:=(h4 x hx).1;unfold Block.ends at he;rw[e]at he;simp[A3]at he;omega
variable {b : Blocks}
theorem dnf_insW(h:b.insW):b.dnf.insW:=fun g hg x hx=>by
 obtain⟨f,hf,rfl⟩:=qX3.1 hg;have key:∀{f g:BFunc},Cuts f g->(∀x∈f.blocks,Sv.H6 x.ins)->∀x∈g.blocks,Sv.H6 x.ins:=fun {f g} hc=>by
  induction hc with
  |refl=>exact fun h=>h
  |step a _ ih=>
   intro h;refine ih fun y hy=>?_
   obtain⟨c,x,l1,t,l2,v,ha⟩:=a;rw[ha.hg]at hy;rcases q08 hy with hy|rfl
   . exact h y hy
   . have:=h x (q33 ha.hx);rw[ha.hi]at this;intro t ht;refine this t ?_;rcases q78.1 (show t∈l1++l2 from ht)with h|h
     . exact q78.2 (.inl h)
     . exact q78.2 (.inr (q99.2 (.inr h)))
 exact key (F7 f) (h f hf) x hx
theorem fj(h:f.tame)(hx:x∈f.tidy.blocks):∃p,oG f.blocks.length p/\p.length<=f.blocks.length+1/\x.ins=f.joined p:=by
 simp only[BFunc.tidy,qX3]at hx;obtain⟨p,hp,rfl⟩:=hx;exact⟨p,Je h.leads _ (qZ0 _) p hp,EZ _ p hp,rfl⟩
theorem aW(h:f.tame)(hw:∀x∈f.blocks,Sv.H6 x.ins):∀x∈f.tidy.blocks,Sv.H6 x.ins:=fun x hx t ht=>by
 obtain⟨p,h1,h2,h3⟩:=fj h hx;rw[h3]at ht;obtain⟨i,hi,hti⟩:=Px ht;exact hw _ (q33 (Bv (h1.2 i hi))) t hti
noncomputable def CN(f:BFunc)(k:Int):OPass:=bif k==1 then⟨1,f.all,[],f.fold⟩else bif k==2 then⟨2,f.fcert,[],f.forward⟩else bif k==3 then⟨3,⟨EF (NN f)⟩,[],NN f⟩else⟨4,⟨[]⟩,f.tpaths,f.tidy⟩
structure PS35(n w:Int)(f:BFunc):Prop where
  one:f.one n w=true
  r:f.regs<=30
  c:f.count<=200
  i:∀x∈f.blocks,H6 x.ins
variable {n w : Int}
theorem PS35.len(h:PS35 n w f):f.blocks.length<=200/\∀x∈f.blocks,x.ins.length<=200:=by
 have hc:=h.c;refine⟨by have:=E2 f;omega,fun x hx=>?_⟩;have:x.count<=f.count:=PE hx;simp only[Block.count]at this;omega
theorem PS35.mild(h:PS35 n w f):f.mild:=by
 obtain⟨h1,h2,h3,h4⟩:=Cs h.one;have hl:=h.len;exact⟨h1,by omega,by omega,fun x hx=>⟨by have:=hl.2 x hx;omega,h.i x hx⟩⟩
theorem PS35.tame(h:PS35 n w f):f.tame:=by
 have hle:=GB h.one;have hl:=h.len;exact⟨by omega,fun x hx=>by have:=hl.2 x hx;omega,hle,fun k hk=>Sd hle hk⟩
theorem cR(f:BFunc):(NN f).count<=f.count:=by
 have key:∀{f g:BFunc},Cuts f g->g.count<=f.count:=fun {f g} hc=>by
  induction hc with
  |refl=>exact qZ0 _
  | @step f g h a b ih=>
   have h1:=Ho a;have h2:=(Jy (Cuts.one a)).2;have h3:=E2 f;have h4:=E2 g;have h5:DG f.blocks=iw f:=rfl;have h6:DG g.blocks=iw g:=rfl;omega
 exact key (F7 f)
theorem Ye(f:BFunc):f.fold.count=f.count:=by
 show((f.blocks.map _).map Block.count).sum=_;rw[List.map_map];exact congrArg List.sum (q42 fun x _=>by show 1+(Dk [] x.ins).length=1+x.ins.length;rw[BX])
theorem PS35.step(h:PS35 n w f)(k:Int):PS35 n w (CN f k).f:=by
 have hle:=GB h.one;have hne:=(Cs h.one).2.2.1;unfold CN
 cases k==1 with
 |true=>exact⟨Vm h.one,h.r,by show f.fold.count<=200;rw[Ye];exact h.c,fun x hx=>((cD h.mild).2.2.2 x hx).2⟩
 |false=>
 cases k==2 with
 |true=>exact⟨Ny h.one,h.r,by show f.forward.count<=200;rw[QO];exact h.c,fun x hx=>by
  obtain⟨y,hy,rfl⟩:=qX3.1 (show x∈f.blocks.map _ from hx);exact Si _ _ (h.i y hy)⟩
 |false=>
 cases k==3 with
 |true=>exact⟨Z5 h.one,by show(NN f).regs<=30;rw[(Jy (F7 f)).1];exact h.r,qX2 (cR f) h.c,fun x hx=>dnf_insW (b:=⟨0,[f]⟩) (fun g hg=>by rw[q47.1 hg];exact h.i) (NN f) (by simp[Blocks.dnf]) x hx⟩
 |false=>exact⟨lw (KG hle hne) h.one,h.r,qX2 (W0 hle) h.c,aW h.tame h.i⟩
variable {call call' : Int -> Mach -> Mach} {s : ByteArray}
theorem PI:∀(l:List Tac) (regs:List Int) (m:Mach),(Bz call s l regs m).2.1.length=regs.length
 | [],_,_=>rfl
 |t::r,regs,m=>by
  unfold Bz
  cases (mone call s t regs m).2.fin==0 with
  |false=>exact mone_len t regs m
  |true=>exact(PI r _ _).trans (mone_len t regs m)
theorem RZ:∀(l:List Tac) (K:CC) (regs:List Int) (m:Mach),(∀t∈l,setsOp t.op=true->0<=t.d/\t.d<regs.length)->ZQ K regs->Fv K->Bz call s (Dk K l) regs m=Bz call s l regs m
 | [],_,_,_,_,_,_=>rfl
 |t::r,K,regs,m,hl,hk,hu=>by
  have h1:=X6 (call:=call) (s:=s) hk t m;have hkn:=X8 (call:=call) (s:=s) hk hu (u:=CG K t) (fun h=>by rw[Z1];exact hl t z145q (Ix h)) m;rw[h1]at hkn;simp only[Dk,Bz,h1];rw[RZ r (Gq K (CG K t)) _ _ (fun u hu' hs=>by rw[mone_len];exact hl u (by simp[hu']) hs) hkn (Nm hu _)]
theorem R3{f:BFunc}(hf:∀x∈f.blocks,∀t∈x.ins,setsOp t.op=true->0<=t.d/\t.d<f.regs.toNat):∀(g:Nat) (i:Int) (regs:List Int) (m:Mach),regs.length=f.regs.toNat->kblk call s f.fold g i regs m=kblk call s f g i regs m
 |0,_,_,_,_=>rfl
 |g+1,i,regs,m,hr=>by
  have e:f.fold.blocks[i.toNat]?=(f.blocks[i.toNat]?).map Block.fold:=by simp[BFunc.fold]
  cases hk:f.blocks[i.toNat]? with
  |none=>unfold kblk;rw[e,hk];rfl
  |some k=>
   have hm:Bz call s k.fold.ins regs m.tick=Bz call s k.ins regs m.tick:=RZ k.ins [] regs m.tick (fun t ht hs=>by rw[hr];exact hf k (q33 hk) t ht hs) (fun z v h=>by cases h) (by simp[Fv]);rw[Fh hk,Fh (k:=k.fold) (by rw[e,hk];rfl),hm];have ih:=R3 hf g (k.next (Bz call s k.ins regs m.tick).2.1) (Bz call s k.ins regs m.tick).2.1 (Bz call s k.ins regs m.tick).2.2 (by rw[PI];exact hr);unfold Gk;rw[show k.fold.fin=k.fin from rfl,show k.fold.next (Bz call s k.ins regs m.tick).2.1=k.next (Bz call s k.ins regs m.tick).2.1 from rfl,ih]
def mC(R:Nat)(fr regs:List Int):Prop:=regs.length=R/\∀v:Int,0<=v->v<R->rget regs v=rget regs (rget fr v)
variable {regs : List Int}
theorem qz(h:regs.length=R):mC R (Ku R) regs:=⟨h,fun v h0 h1=>by
 obtain⟨u,rfl⟩:∃u:Nat,v=u:=⟨v.toNat,by omega⟩
 rw[Iw z144q]⟩
variable {fr : List Int}
theorem ia(h:mC R fr regs)(ht:YC R t)(m:Mach):mone call s (subT fr t) regs m=mone call s t regs m:=by
 unfold subT
 cases e1:use1 t.op with
 |true=>
  have ha:=ht.u1 e1;simp only[qZ7];unfold mone;dsimp only;rw[<-h.2 t.a ha.1 ha.2]
 |false=>
  cases e2:use2 t.op with
  |true=>
   obtain⟨ha,hb⟩:=ht.u2 e2;simp only[qZ7,qZ3];unfold mone;dsimp only;rw[<-h.2 t.a ha.1 ha.2,<-h.2 t.b hb.1 hb.2]
  |false=>rfl
variable {m : Mach}
theorem iM(h:mC R fr regs)(hr:Mc R fr)(ht:YC R t)(h0:(mone call s t regs m).2.fin=0):mC R (Dh fr t) (mone call s t regs m).1:=by
 obtain⟨_,hm⟩:=Vs (call:=call) (s:=s) t (r:=regs) (r':=regs) (fun _=>rfl) (fun _=>rfl) m;rcases hm with⟨hs,v,hv,_⟩|⟨hv,_,hs⟩
 . have hd:=ht.d hs;have hsd:t.sets=t.d:=by unfold Tac.sets;rw[hs];rfl
   have hlt:t.d<regs.length:=by rw[h.1];exact hd.2
   have main:mC R (Ck t.sets fr) (mone call s t regs m).1:=by
    rw[hv,hsd];refine⟨by rw[Dn];exact h.1,fun u u0 u1=>?_⟩;obtain⟨w,rfl⟩:∃w:Nat,u=w:=⟨u.toNat,by omega⟩
    rw[Dd (by rw[hr.len];omega)]
    cases e:((w:Int)==t.d||rget fr w==t.d)with
    |true=>rfl
    |false=>
     simp only[q38,q40]at e;simp only[qZ3];rw[Es hd.1 u0 e.1,Es hd.1 (hr.ran w u0 u1).1 e.2];exact h.2 w u0 u1
   unfold Dh;rw[show decide (t.sets>=0)=true by rw[hsd];simpa using hd.1]
   cases e2:(t.op==2&&t.a !=t.sets)with
   |false=>exact main
   |true=>
    simp only[q66,qZ4,bne_iff_ne]at e2;simp only[qZ7];have ha:=ht.u1 (by rw[e2.1];rfl);have hval:(mone call s t regs m).1=A5 regs t.d (rget regs t.a):=by unfold mone;rw[e2.1];rfl
    refine⟨main.1,fun u u0 u1=>?_⟩;rw[hsd]at e2 main|-
    by_cases e:u=t.d
    . subst e;rw[In ⟨u0,by rw[Dc,hr.len];exact u1⟩,hval,In ⟨u0,hlt⟩,Es u0 ha.1 e2.2]
    . rw[Es hd.1 u0 e];exact main.2 u u0 u1
 grind[Tac.sets,Dh,mC,mone]
theorem kins_fwd{n w:Int}{R:Nat}:∀(l:List Tac) (fr regs:List Int) (m:Mach),Mc R fr->mC R fr regs->(∀t∈l,t.fits n R w=true)->
 Bz call s (Di fr l).1 regs m=Bz call s l regs m/\((Bz call s l regs m).1=true->mC R (Di fr l).2 (Bz call s l regs m).2.1)
 | [],_,_,_,_,h,_=>⟨rfl,fun _=>h⟩
 |t::r,fr,regs,m,hr,h,hl=>by
  have ht:=hl t z145q;have hsub:=S3 hr ht;have h1:=ia (call:=call) (s:=s) h (fits_tacR ht) m;show Bz call s (subT fr t::(Di (Dh fr (subT fr t)) r).1) regs m=_/\(_->mC R (Di (Dh fr (subT fr t)) r).2 _);unfold Bz;rw[h1]
  cases hf:(mone call s t regs m).2.fin==0 with
  |false=>exact⟨rfl,fun e=>by cases e⟩
  |true=>
   have hn:=iM (call:=call) (s:=s) h hr (fits_tacR hsub) (m:=m) (by rw[h1];simpa using hf);rw[h1]at hn;exact kins_fwd r _ _ _ (MD hr hsub) hn fun u hu=>hl u IY
theorem VD{n w:Int}{f:BFunc}{R:Nat}(hR:f.regs=(R:Int))(hf:∀x∈f.blocks,(x.fin=2->0<=x.v/\x.v<R)/\∀t∈x.ins,t.fits n R w=true):∀(g:Nat) (i:Int) (regs:List Int) (m:Mach),regs.length=R->kblk call s f.forward g i regs m=kblk call s f g i regs m
 |0,_,_,_,_=>rfl
 |g+1,i,regs,m,hr=>by
  have e:f.forward.blocks[i.toNat]?=(f.blocks[i.toNat]?).map (Block.forward R):=by
   show(f.blocks.map _)[i.toNat]?=_;rw[q54,hR];rfl
  cases hk:f.blocks[i.toNat]? with
  |none=>unfold kblk;rw[e,hk];rfl
  |some k=>
   obtain⟨hv,hi⟩:=hf k (q33 hk);obtain⟨hm,ha⟩:=kins_fwd (call:=call) (s:=s) k.ins (Ku R) regs m.tick (Th R) (qz hr) hi;rw[Fh hk,Fh (k:=k.forward R) (by rw[e,hk];rfl)];show(bif (Bz call s (Di (Ku R) k.ins).1 regs m.tick).1 then Gk call s f.forward (k.forward R) g (Bz call s (Di (Ku R) k.ins).1 regs m.tick).2.1 (Bz call s (Di (Ku R) k.ins).1 regs m.tick).2.2 else(Bz call s (Di (Ku R) k.ins).1 regs m.tick).2.2)=_;rw[hm]
   cases hc:(Bz call s k.ins regs m.tick).1 with
   |false=>rfl
   |true=>
    simp only[qZ7];have ha':=ha hc;unfold Gk;have hnx:(k.forward R).next (Bz call s k.ins regs m.tick).2.1=k.next (Bz call s k.ins regs m.tick).2.1:=by
     unfold Block.next Block.forward;dsimp only
     cases e2:k.fin==2 with
     |false=>rfl
     |true=>
      have hz:=hv (by simpa using e2);simp only[qZ7,qQ5];rw[<-ha'.2 k.v hz.1 hz.2]
    rw[hnx,VD hR hf g _ _ _ (by rw[PI];exact hr)];rfl
theorem J8(hc:Ek call call' jS){z:Nat->Bool}:∀(l:List Tac),(∀t∈l,t.low)->∀{a b:List Int} {m m':Mach},FN (fun v=>need v l (z v)) a b->m.fin=0->m.Le m'->LN z (Bz call s l a m) (Bz call' s l b m')
 | [],_,a,b,m,m',ha,h0,h=>.inr ⟨rfl,h,fun _=>⟨h0,ha⟩,fun e=>by cases e⟩
 |t::r,hl,a,b,m,m',ha,h0,h=>by
  unfold Bz;obtain⟨b2,b1⟩:=cd (s:=s) hc (fun _=>trivial) (hl t z145q) ha h0 h;rcases b2 with b2|b2
  . rw[show((mone call s t a m).2.fin==0)=false by rw[b2];rfl];exact .inl ⟨rfl,b2⟩
  . rw[b2.fin]
    cases hf:(mone call s t a m).2.fin==0 with
    |false=>
     simp only[qZ3];exact .inr ⟨rfl,b2,z130q,fun _=>by simpa using hf⟩
    |true=>
     simp only[qZ7];exact J8 hc r (fun u hu=>hl u IY) (b1 (by simpa using hf)) (by simpa using hf) b2
theorem ip(hc:Ek call call' jS){z:Nat->Bool}(hl:∀u∈l1++t::l2,u.low)(hp:t.pure=true)(hk:t.op=3->4<=t.k/\t.k<=15)(hv:t.sets=(v:Int))(hd:need v l2 (z v)=false)
 {a b:List Int} {m':Mach} (ha:FN (fun v=>need v (l1++t::l2) (z v)) a b) (h0:m.fin=0) (h:m.Le m'):LN z (Bz call s (l1++t::l2) a m) (Bz call' s (l1++l2) b m'):=by
 have h1:=J8 (s:=s) hc (z:=fun v=>need v (t::l2) (z v)) l1 (fun u hu=>hl u IY) (a:=a) (b:=b) ⟨ha.1,fun w hw=>ha.2 w (by show need w _ _=true;rw[Jg];exact hw)⟩ h0 h;rw[Hm,Hm];generalize Bz call s l1 a m=X at h1|-;generalize Bz call' s l1 b m'=Y at h1|-;obtain⟨X1,X2,X3⟩:=X;obtain⟨Y1,Y2,Y3⟩:=Y;rcases h1 with⟨h1,h2⟩|⟨h1,h2,h3,h4⟩
 . simp only at h1 h2;subst h1;exact .inl ⟨rfl,h2⟩
 . simp only at h1 h2 h3 h4;subst h1
   cases X1 with
   |false=>exact .inr ⟨rfl,h2,z130q,h4⟩
   |true=>
    simp only[qZ7];obtain⟨hz,hag⟩:=h3 rfl;obtain⟨val,hmo⟩:=cb (call:=call) (s:=s) hp hk X2 X3;have hlt:=hl t z145q;have hso:=bM hp;have hdv:t.d=(v:Int):=by rw[<-JN hso];exact hv
    have hkey:=J8 (s:=s) hc (z:=z) l2 (fun u hu=>hl u IY) (a:=A5 X2 t.d val) (b:=Y2) (m:=X3) (m':=Y3)
     ⟨by rw[OY];exact hag.1,fun w hw=>by
      have hne:¬t.d=(w:Int):=fun e=>by
       have:v=w:=by omega
       subst this;rw[show need v l2 (z v)=true from hw]at hd;cases hd
      rw[Mz (hlt.1 hso),qZ9 (fun e=>hne e.1)];refine hag.2 w ?_;show need w (t::l2) (z w)=true;unfold need;rw[JN hso,show(t.d==(w:Int))=false by simpa using hne,show need w l2 (z w)=true from hw]
      simp⟩ hz h2
    show LN z (bif (mone call s t X2 X3).2.fin==0 then Bz call s l2 (mone call s t X2 X3).1 (mone call s t X2 X3).2 else(false,mone call s t X2 X3)) _;rw[hmo];simp only[hz];exact hkey
theorem VF(hc:Ek call call' jS){f g:BFunc}{c:Nat}{x:Block}{l1 l2:List Tac}{t:Tac}{v:Nat}(hcut:F9 f g c x l1 t l2 v)(hf:jK jS f):
 ∀(n:Nat) (i:Int) (a b:List Int) (m m':Mach),FN (fun v=>WC f v i.toNat) a b->m.fin=0->m.Le m'->(kblk call s f n i a m).Sim (kblk call' s g n i b m')
 |0,_,_,_,_,_,_,_,_=>.inl rfl
 |n+1,i,a,b,m,m',hag,h0,h=>by
  cases hk:f.blocks[i.toNat]? with
  |none=>
   have hk':g.blocks[i.toNat]?=none:=by
    rw[q09]at hk|-;rw[hcut.hg,Ly];exact hk
   unfold kblk;rw[hk,hk'];exact .inr h
  |some k=>
   obtain⟨k',hk',hkn,hs⟩:∃k',g.blocks[i.toNat]?=some k'/\(k'.fin=k.fin/\∀r,k'.next r=k.next r)/\LN (endB f k) (Bz call s k.ins a m.tick) (Bz call' s k'.ins b m'.tick):=by
    have hin:=hf.ins k (q33 hk);have hag':FN (fun v=>need v k.ins (endB f k v)) a b:=⟨hag.1,fun w hw=>hag.2 w (by show WC f w _=true;rw[Ya hk];exact hw)⟩
    by_cases hci:c=i.toNat
    . subst hci;have:=hcut.hx.symm.trans hk;cases this;refine⟨x.mid (l1++l2),by rw[hcut.hg];exact Eu hcut.hx,⟨rfl,fun _=>rfl⟩,?_⟩;have hi:=hcut.hi;show LN (endB f x) (Bz call s x.ins a m.tick) (Bz call' s (l1++l2) b m'.tick);rw[hi]at hin hag'|-;exact ip hc (fun u hu=>(hin u hu).2.1) hcut.pure (hin t z145q).2.2 hcut.hv hcut.dead hag' h0 h.tick
    . exact⟨k,by rw[hcut.hg,Hk hci];exact hk,⟨rfl,fun _=>rfl⟩,J8 hc k.ins (fun u hu=>(hin u hu).2.1) hag' h0 h.tick⟩
   rw[Fh hk,Fh hk'];have hfin:=hf.fin k (q33 hk);generalize Bz call s k.ins a m.tick=X at hs|-;generalize Bz call' s k'.ins b m'.tick=Y at hs|-;obtain⟨X1,X2,X3⟩:=X;obtain⟨Y1,Y2,Y3⟩:=Y;rcases hs with⟨h1,h2⟩|⟨h1,h3,h4,h5⟩
   . simp only at h1 h2;subst h1;exact .inl h2
   . simp only at h1 h3 h4 h5;subst h1
     cases X1 with
     |false=>exact .inr h3
     |true=>
      simp only[qZ7];obtain⟨hz,hag2⟩:=h4 rfl;unfold Gk;rw[hkn.1,hkn.2]
      cases hfin3:k.fin==3 with
      |true=>exact .inr h3
      |false=>
       simp only[qZ3];rw[<-X0 hfin.2 hag2];exact VF hc hcut hf n _ _ _ _ _ (YA hfin.1 hfin3 hag2) hz h3
theorem FSm.fold{f:BFunc}{n w:Int}(h:f.one n w=true):FSm f f.fold:=fun call s G hc m m' h0 hl=>by
 have hs:=Cs h;rw[show f.fold.regs=f.regs from rfl,R3 (fun x hx t ht e=>by
  have:=(PS ((hs.2.2.2 x hx).2 t ht)).1 e;omega) G 0 _ m' z145q]
 exact J9 hc G _ _ h0 hl
theorem FSm.forward{f:BFunc}{n w:Int}(h:f.one n w=true):FSm f f.forward:=fun call s G hc m m' h0 hl=>by
 obtain⟨h1,h2,h3,h4⟩:=Cs h;obtain⟨R,hR⟩:∃R:Nat,f.regs=(R:Int):=⟨f.regs.toNat,by omega⟩
 rw[show f.forward.regs=f.regs from rfl,VD (n:=n) (w:=w) hR (fun x hx=>⟨fun e=>by
  have he:=(h4 x hx).1;unfold Block.ends at he;rw[e]at he;simp[A3]at he;omega,fun t ht=>by rw[<-hR];exact(h4 x hx).2 t ht⟩) G 0 _ m' (by rw[hR];simp)]
 exact J9 hc G _ _ h0 hl
theorem jL{g:BFunc}(h:Cuts f g)(hf:jK jS f):FSm f g:=by
 induction h with
 |refl f=>exact Wq f
 | @step f g h a1 b ih=>
  refine FSm.trans ?_ (ih (iR a1 hf));have hr:=(Jy (Cuts.one a1)).1;obtain⟨c,x,l1,t,l2,v,a1⟩:=a1;intro call s G hc m m' h0 hl;rw[hr];exact VF hc a1 hf G 0 _ _ m m' ⟨rfl,fun _ _=>rfl⟩ h0 hl
theorem FSm.dnf(h:f.one n w=true):FSm f (NN f):=by
 have hf:=gL h;exact jL (F7 f) ⟨fun x hx t ht=>⟨fun _=>trivial,(hf.ins x hx t ht).2⟩,hf.fin⟩
theorem PS35.fs(h:PS35 n w f)(k:Int):FSm f (CN f k).f:=by
 have hs:=Cs h.one;unfold CN
 cases k==1 with
 |true=>exact FSm.fold h.one
 |false=>
 cases k==2 with
 |true=>exact FSm.forward h.one
 |false=>
 cases k==3 with
 |true=>exact FSm.dnf h.one
 |false=>exact FSm.tidy (KG (GB h.one) hs.2.2.1) fun x hx=>V5 (hs.2.2.2 x hx).1
theorem P0:∀(ks:List Int) (f:BFunc),PS35 n w f->PS35 n w (Mh CN ks f)/\FSm f (Mh CN ks f)
 | [],f,h=>⟨h,Wq f⟩
 |k::r,f,h=>by
  obtain⟨h1,h2⟩:=P0 r (CN f k).f (h.step k);exact⟨h1,(h.fs k).trans h2⟩
noncomputable def XQ(b:Blocks)(ks:List Int):Blocks:=⟨b.words,b.funcs.map (Mh CN ks)⟩
structure All35(b:Blocks):Prop where
  n:b.funcs.length<=6
  r:b.right=true
  e:∀(i:Nat) (f:BFunc),b.funcs[i]?=some f->PS35 (i:Int) b.words f
theorem All35.of(h:Hh b=true)(hw:b.insW):All35 b:=by
 have hS:=Xe h;refine⟨hS.n,hS.r,fun i f hf=>⟨(KM hS.r).2.2.2 i f hf,hS.g f (q33 hf),qX2 (PE (q33 hf)) hS.c,hw f (q33 hf)⟩⟩
theorem bz(h1:0<=b.words)(h2:b.words<=1048576)(h3:b.funcs≠[])(h4:∀(i:Nat) (f:BFunc),b.funcs[i]?=some f->f.one (i:Int) b.words=true):b.right=true:=by
 grind[My,List.all_eq_true,List.getElem?_eq_some_iff,Af,B8]
theorem fm{l:List Nat}(h:∀x∈l,x<=q):l.sum<=q*l.length:=by
 induction l with
 |nil=>exact qZ0 _
 |cons x l ih=>
  have h1:=ih fun y hy=>h y (by simp[hy])
  have h2:=h x z145q;rw[qQ2,q70,Nat.mul_succ];omega
theorem All35.count{b:Blocks}(h:All35 b):b.count<=1200:=by
 have:=fm (l:=b.funcs.map BFunc.count) (q:=200) fun x hx=>by
  obtain⟨f,hf,rfl⟩:=qX3.1 hx;obtain⟨i,hi⟩:=q35 hf;exact(h.e i f hi).c
 rw[q76]at this;have h2:=h.n;show(b.funcs.map BFunc.count).sum<=1200;have:200*b.funcs.length<=1200:=by omega
 omega
theorem All35.lim(h:All35 b):b.Lim:=⟨qX2 h.n Aj,qX2 h.count Aj⟩
set_option maxRecDepth 100000
def oK(fr:List Int)(ks l:List Int)(g:List Int):Prop:=g.length=fr.length/\∀v:Nat,v<fr.length->rget g v=if(v:Int)∈ks/\(v:Int)∉l then(v:Int)else rget fr v
variable {b : Nat} {o : AObj}
theorem QM(hb:h b=some o):hput (hrm h b) b o=h:=by
 funext x
 by_cases hx:x=b
 . subst hx;rw[At,hb]
 . rw[AU _ _ hx,FJ _ hx]
theorem iF(hab:a≠b):hput (hrm h b) a o=hrm (hput h a o) b:=by
 funext x
 by_cases hx:x=a
 . subst hx;rw[At,FJ _ hab,At]
 . rw[AU _ _ hx]
   by_cases hb:x=b
   . subst hb;rw[G2,G2]
   . rw[FJ _ hb,FJ _ hb,AU _ _ hx]
theorem l7(h:Ad){R:Nat}{fr:List Int}{to:List (Option Nat)}{maps:List (List Int)}(hI:FwI R fr to maps){d:Nat}(hd:d<R):ACall Tryz.prog 78 [.ptr 2 1 0 0,.int .i64 (d:Int)] (FH h R fr to maps) (fun r h'=>r=.tup []/\∃maps',FwI R (Ck d fr) (to.set d none) maps'/\maps'.length=maps.length/\HSub (FH h R (Ck d fr) (to.set d none) maps') h'):=by
 refine ACall.of_body (n:=56) Ai Tryz.func78 rfl rfl ?_;have hdf:(0:Int)<=(d:Int)/\(d:Int)<fr.length:=by rw[hI.lenF];omega
 obtain⟨s,hs⟩:∃s:Nat,rget fr d=s:=⟨(rget fr d).toNat,by have:=(hI.ran d hd).1;omega⟩
 have hsR:s<R:=by have:=(hI.ran d hd).2;omega
 refine wk 1 ?_;refine AGo.join (γ:=List (List Int)) (fun m1=>⟨56,Aa (Aa AZ 0 (.ptr 2 1 0 0)) 1 (.int .i64 (d:Int)),FH h R (A5 fr (d:Int) d) to m1⟩) (fun m1=>FwI R (A5 fr (d:Int) d) to m1/\m1.length=maps.length) ?_ ?_
 .
  refine wk 7 ?_;refine aq 11 (Ae Ai rfl rfl rfl rfl rfl rfl rfl IH rfl hdf.1 z144q) ?_;refine aq 12 (Ar Ai rfl rfl rfl (.ptr _ _ _ _ _ _ _ _ rfl IH (LY hdf)) rfl) ?_;refine wk 8 ?_;refine asp 15 (fun hb1=>?_) fun hb1=>?_
  .
   have hne:s≠d:=by(rw[hs]at hb1;have h9:(s:Int)≠d:=(by simpa using hb1);omega)
   obtain⟨j,ks,k1,k2,k3⟩:=hI.off hd hs hne;have hjl:j<maps.length:=(q05.1 k2).1;refine wk 8 ?_;refine aq 21 (Ae Ai rfl rfl rfl rfl rfl rfl rfl Hf rfl (by rw[hs];omega) (by rw[hs];omega)) ?_;refine aq 22 (Ar Ai rfl rfl rfl (.ptr _ _ _ _ _ _ _ _ rfl Hf (by rw[hs];exact Jp k1)) rfl) ?_;refine wk 1 ?_;refine AOps.w rfl rfl (Pn Ai rfl rfl rfl rfl (by rw[JG,IA k2]) rfl rfl rfl rfl) ?_;refine wk 1 ?_;rw[VC];show AGo _ _ ⟨_,_,hput (FH h R fr to maps) (j+16) _⟩ _;rw[YE _ hjl];refine wk 7 ?_;refine aq 30 (Ae Ai rfl rfl rfl rfl rfl rfl rfl IH rfl hdf.1 z144q) ?_;refine AOps.w rfl rfl (o_store Ai rfl rfl rfl rfl rfl rfl IH (LY hdf) rfl Aj rfl (by intro h;rfl)) ?_;refine wk 1 ?_;refine⟨_,Sub.mk' B5 ?_,k3,by simp⟩;show HSub _ (hput (FH h R fr to (maps.set j (ks.erase (d:Int)))) 3 (.row true 1 ((GZ fr).set (0+((d:Nat):Int).toNat) [.int .i64 (d:Int)])))
   rw[Kc,Oq];exact HSub.refl _
  have he:s=d:=by(rw[hs]at hb1;have h9:¬((s:Int)≠d):=(by simpa using hb1);omega)
  subst he;refine wk 2 ?_;have hoff:=hI.off0 hd hs;refine⟨maps,Sub.mk' B5 (by rw[hoff];exact HSub.refl _),by rw[hoff];exact hI,rfl⟩
 rintro m1 ⟨hI1,hm1⟩
 have hd1:rget (A5 fr (d:Int) d) d=d:=by rw[EW (by rw[hI.lenF];exact hd),qK0 rfl]
 have hfin:=hI1.clear hd hd1;rw[MA hI hd]at hfin;obtain⟨o,ho⟩:=hI1.to_of hd;refine wk 1 ?_;have hd3:(0:Int)<=(d:Int)/\(d:Int)<(A5 fr (d:Int) d).length:=by rw[hI1.lenF];omega
 refine AGo.join (γ:=Unit) (fun _=>⟨56,Aa (Aa AZ 0 (.ptr 2 1 0 0)) 1 (.int .i64 (d:Int)),FH h R (Ck d fr) to m1⟩) (fun _=>True) ?_ ?_
 .
  cases o with
  |none=>
   have hrs:Ck d fr=A5 fr (d:Int) d:=by
    rw[<-MA hI hd];exact Lq (Dc _ _) fun v hv=>by
     rw[Dc]at hv;rw[Dd hv]
     by_cases e:rget (A5 fr (d:Int) d) v=d
     . have:=hI1.nn d ho v (by rw[<-hI1.lenF];exact hv) e;subst this;rw[hd1];simp
     . have hvd:v≠d:=fun e2=>e (by rw[e2];exact hd1)
       rw[show((v:Int)==d)=false from q40.2 z144q,show(rget (A5 fr (d:Int) d) v==(d:Int))=false from q40.2 e];rfl
   refine YJ Ai (n:=56) (e:=Aa (Aa (Aa AZ 0 (.ptr 2 1 0 0)) 1 (.int .i64 (d:Int))) 37 (.val (.map none))) (h:=FH h R (A5 fr (d:Int) d) to m1) 7 rfl ?_ ⟨rfl,rfl,rfl⟩ rfl rfl rfl ⟨rfl,rfl,rfl⟩ ⟨rfl,rfl,rfl⟩ Aj ⟨rfl,rfl,rfl⟩ ?_
   .
    exact q6
   . exact⟨(),Sub.mk' B5 (by rw[hrs];exact HSub.refl _),trivial⟩
  |some j=>
   obtain⟨ks,k1,k2,k3⟩:=hI1.sm d j ho;have hj16:3≠j+16:=by omega
   have hbk:∀g,oK (A5 fr (d:Int) d) ks [] g->g=Ck d fr:=fun g ⟨g1,g2⟩=>by
    rw[<-MA hI hd];refine Lq (by rw[g1,Dc]) fun v hv=>?_
    rw[g1]at hv;rw[g2 v hv,Dd hv];have hvR:v<R:=by rw[<-hI1.lenF];exact hv
    by_cases e:rget (A5 fr (d:Int) d) v=d
    . by_cases e2:v=d
      . subst e2;rw[qZ9 (fun h=>((k3 v).1 h.1).2.2.1 rfl)];simp[hd1]
      . rw[qK0 ⟨(k3 v).2 ⟨by omega,by omega,by omega,e⟩,by simp⟩];simp[e]
    . have hvd:v≠d:=fun e2=>e (by rw[e2];exact hd1)
      rw[qZ9 (fun h=>e ((k3 v).1 h.1).2.2.2),show((v:Int)==d)=false from q40.2 z144q,show(rget (A5 fr (d:Int) d) v==(d:Int))=false from q40.2 e];rfl
   refine YK Ai (K:=.i64) (γ:=List Int) (S:=fun rb g=>⟨56,Aa (Aa (Aa AZ 0 (.ptr 2 1 0 0)) 1 (.int .i64 (d:Int))) 38 (.val (.pointer (some ⟨rb,0,none⟩))),hrm (FH h R g to m1) (j+16)⟩) (J:=fun l g=>oK (A5 fr (d:Int) d) ks l g/\∀v∈l,v∈ks/\l.Nodup) (m:=Ud ks) (b:=j+16)
    (e:=Aa (Aa (Aa AZ 0 (.ptr 2 1 0 0)) 1 (.int .i64 (d:Int))) 37 (.map (j+16))) (h:=FH h R (A5 fr (d:Int) d) to m1) (A5 fr (d:Int) d) 7 rfl ?_ ⟨rfl,rfl,rfl⟩ rfl rfl rfl (by rw[JG,IA k1]) ⟨rfl,rfl,rfl⟩ ⟨rfl,rfl,rfl⟩ ⟨rfl,rfl,rfl⟩ ⟨rfl,rfl,rfl⟩ ⟨rfl,rfl,rfl⟩ Aj Aj Aj (fun _ _=>⟨rfl,rfl,rfl,rfl,rfl,rfl,rfl⟩) ?_ (fun _=>Sub.mk' B5 (HSub.refl _)) ?_ ?_
   .
    exact q6
   . rw[gA];exact⟨⟨rfl,fun v hv=>by rw[qZ9 (fun h=>h.2 h.1)]⟩,fun v hv=>⟨hv,k2⟩⟩
   .
    rintro rb l1 z l2 g ⟨⟨g1,g2⟩,g3⟩
    have hz:=g3 z z145q;obtain⟨z0,z1,z2,z3⟩:=(k3 z).1 hz.1;have hzg:(0:Int)<=z/\z<g.length:=by rw[g1,hI1.lenF];omega
    refine wk 7 ?_;refine aq 49 (Ae Ai rfl rfl rfl rfl rfl rfl rfl (by rw[GY,g1,hI1.lenF]) rfl z0 z144q) ?_;refine AOps.w rfl rfl (o_store Ai rfl rfl rfl rfl rfl rfl (by rw[GY,g1,hI1.lenF]) (LY hzg) rfl Aj rfl (by intro h;rfl)) ?_;refine wk 1 ?_;refine⟨rfl,A5 g z z,⟨⟨by rw[Dn,g1],fun v hv=>?_⟩,fun v hv=>⟨(g3 v ((List.Sublist.append_left (List.sublist_cons_self _ _) _).subset hv)).1,?_⟩⟩,Sub.mk' B5 ?_⟩
    . obtain⟨u,rfl⟩:∃u:Nat,z=u:=⟨z.toNat,by omega⟩
      rw[EW z144q];have hnd:=hz.2;rw[q65]at hnd;have hnd2:=q93.1 hnd.2.1
      by_cases e:v=u
      . subst e;rw[qK0 rfl,qK0 ⟨hz.1,fun h=>(q78.1 h).elim (fun h=>hnd.2.2 _ h _ z145q rfl) hnd2.1⟩]
      . rw[qZ9 e,g2 v hv];have hm:(v:Int)∈l1++(u:Int)::l2↔(v:Int)∈l1++l2:=by simp[show(v:Int)≠u from by omega]
        simp only[hm]
    . have hnd:=hz.2;exact hnd.sublist (List.Sublist.append_left (List.sublist_cons_self _ _) _)
    . show HSub _ (hput (hrm (FH h R g to m1) (j+16)) 3 (.row true 1 ((GZ g).set (0+z.toNat) [.int .i64 z])));rw[Kc,iF hj16,Oq];exact HSub.refl _
   . rintro rb g ⟨hg,_⟩
     refine⟨(),Sub.mk' B5 ?_,trivial⟩;rw[QM (by rw[JG,IA k1]),hbk g hg];exact HSub.refl _
 intro _ _;refine wk 6 ?_;refine aq 55 (Ae Ai rfl rfl rfl rfl rfl rfl rfl Hf rfl hdf.1 z144q) ?_;refine AOps.w rfl rfl (o_store Ai rfl rfl rfl rfl rfl rfl Hf (Jp ho) rfl Aj rfl D9) ?_;refine wk 1 ?_;refine⟨[],trivial,rfl,m1,hfin,hm1,?_⟩;have hsp:D0 (NZ o) 0 [AV.val (.map none)]=NZ none:=by cases o<;>rfl
 show HSub _ (hput (FH h R (Ck d fr) to m1) 4 (.row false 1 ((to.map NZ).set (0+((d:Nat):Int).toNat) (D0 (NZ o) 0 [AV.val (.map none)]))));rw[hsp,PQ,oL];exact HSub.refl _
set_option maxRecDepth 100000
theorem Yi(h:Ad){to:List (Option Nat)}{maps:List (List Int)}(hI:FwI R fr to maps)(hd:d<R)(ha:a<R)(hne:a≠d)(hs:rget fr d=d)(hn:to[d]?=some none)(hra:rget fr a=a):
 ACall Tryz.prog 79 [.ptr 2 1 0 0,.int .i64 (d:Int),.int .i64 (a:Int)] (FH h R fr to maps) (fun r h'=>r=.tup []/\∃to' maps',FwI R (A5 fr (d:Int) a) to' maps'/\HSub (FH h R (A5 fr (d:Int) a) to' maps') h'):=by
 refine ACall.of_body (n:=36) Ai Tryz.func79 rfl rfl ?_;have hdf:(0:Int)<=(d:Int)/\(d:Int)<fr.length:=by rw[hI.lenF];omega
 obtain⟨o,ho⟩:=hI.to_of ha;refine wk 8 ?_;refine aq 12 (Ae Ai rfl rfl rfl rfl rfl rfl rfl IH rfl hdf.1 z144q) ?_;refine AOps.w rfl rfl (o_store Ai rfl rfl rfl rfl rfl rfl IH (LY hdf) rfl Aj rfl (by intro h;rfl)) ?_;refine wk 1 ?_;refine AGo.sub (s':=⟨36,Aa (Aa (Aa AZ 0 (.ptr 2 1 0 0)) 1 (.int .i64 (d:Int))) 2 (.int .i64 (a:Int)),FH h R (A5 fr (d:Int) a) to maps⟩) (Sub.mk' B5 ?_) ?_
 . show HSub _ (hput (FH h R fr to maps) 3 (.row true 1 ((GZ fr).set (0+((d:Nat):Int).toNat) [.int .i64 (a:Int)])));rw[Kc,Oq];exact HSub.refl _
 have hidx:(0:Int)<=(a:Int)/\(a:Int)<R:=by omega
 rcases hI.copied hd ha hne hs hn hra with⟨j,ks,k1,k2,k3,k4⟩|⟨k1,k4⟩
 .
  have hjl:j<maps.length:=(q05.1 k2).1;refine wk 8 ?_;refine aq 18 (Ae Ai rfl rfl rfl rfl rfl rfl rfl Hf rfl hidx.1 z144q) ?_;refine aq 19 (Ar Ai rfl rfl rfl (.ptr _ _ _ _ _ _ _ _ rfl Hf (Jp k1)) rfl) ?_;refine aq 20 (U3 Ai (r:=false) (.inr ⟨⟨j+16,rfl⟩,rfl⟩) rfl rfl) ?_;refine wk 9 ?_;refine aq 33 (Ae Ai rfl rfl rfl rfl rfl rfl rfl Hf rfl hidx.1 z144q) ?_;refine aq 34 (Ar Ai rfl rfl rfl (.ptr _ _ _ _ _ _ _ _ rfl Hf (Jp k1)) rfl) ?_;refine wk 1 ?_;refine AOps.w rfl rfl (o_mapUpdate Ai rfl rfl rfl rfl rfl rfl (by rw[JG,IA k2]) rfl rfl rfl rfl) ?_;refine wk 1 ?_;refine⟨[],trivial,rfl,to,_,k4,?_⟩;show HSub _ (hput (FH h R (A5 fr (d:Int) a) to maps) (j+16) (.map (kvs .i64 (Kj (d:Int) (.bool true) (Ud ks)))));rw[PH k3,YE _ hjl];exact HSub.refl _
 refine wk 8 ?_;refine aq 18 (Ae Ai rfl rfl rfl rfl rfl rfl rfl Hf rfl hidx.1 z144q) ?_;refine aq 19 (Ar Ai rfl rfl rfl (.ptr _ _ _ _ _ _ _ _ rfl Hf (Jp k1)) rfl) ?_;refine aq 20 (U3 Ai (r:=true) (.inl ⟨rfl,rfl⟩) rfl rfl) ?_;refine wk 8 ?_;refine ax 26 (J1 .i64 (maps.length+16) rfl (by rw[JG,cL])) ?_;refine aq 27 (Ae (p:=false) (sz:=1) (es:=to.map NZ) Ai rfl rfl rfl rfl rfl rfl rfl Hf rfl hidx.1 z144q) ?_;refine AOps.w rfl rfl (o_store (p:=false) (sz:=1) (es:=to.map NZ) Ai rfl rfl rfl rfl rfl rfl Hf (Jp k1) rfl Aj rfl D9) ?_;refine wk 1 ?_;refine AGo.sub (s':=⟨36,Aa (Aa (Aa AZ 0 (.ptr 2 1 0 0)) 1 (.int .i64 (d:Int))) 2 (.int .i64 (a:Int)),FH h R (A5 fr (d:Int) a) (to.set a (some maps.length)) (maps++[[]])⟩) (Sub.mk' B5 ?_) ?_
 . show HSub _ (hput (hput (FH h R (A5 fr (d:Int) a) to maps) (maps.length+16) (.map (kvs .i64 (Ud [])))) 4 (.row false 1 ((to.map NZ).set (0+((a:Nat):Int).toNat) (NZ (some maps.length)))));rw[PQ,qO,oL];exact HSub.refl _
 have hto:(to.set a (some maps.length))[a]?=some (some maps.length):=q21 (by rw[hI.lenT];exact ha);have hmp:(maps++[[]])[maps.length]?=some ([]:List Int):=by rw[q02 (qZ0 _)];simp
 refine wk 6 ?_;refine aq 33 (Ae Ai rfl rfl rfl rfl rfl rfl rfl (by rw[q76,q83,hI.lenT]) rfl hidx.1 z144q) ?_;refine aq 34 (Ar Ai rfl rfl rfl (.ptr _ _ _ _ _ _ _ _ rfl (by rw[q76,q83,hI.lenT]) (Jp hto)) rfl) ?_;refine wk 1 ?_;refine AOps.w rfl rfl (o_mapUpdate Ai rfl rfl rfl rfl rfl rfl (by rw[JG,IA hmp]) rfl rfl rfl rfl) ?_;refine wk 1 ?_;refine⟨[],trivial,rfl,_,_,k4,?_⟩;show HSub _ (hput (FH h R (A5 fr (d:Int) a) (to.set a (some maps.length)) (maps++[[]])) (maps.length+16) (.map (kvs .i64 (Kj (d:Int) (.bool true) (Ud [])))));rw[PH z145q,YE _ z145q];have h9:(maps++[([]:List Int)]).set maps.length ([]++[(d:Int)])=maps++[[(d:Int)]]:=by simp
 rw[h9];exact HSub.refl _
theorem Yv(op:Int):APure Tryz.prog 64 [.int .i64 op] (fun r=>r=.bool (setsOp op)):=by
 refine APure.of_body (n:=11) Ai Tryz.func64 rfl rfl ?_;refine wk 16 ?_;refine asp 4 (fun hb1=>?_) fun hb1=>?_
 .
  refine wk 7 ?_;exact WF
 refine wk 6 ?_;refine asp 4 (fun hb2=>?_) fun hb2=>?_
 .
  refine wk 7 ?_;exact WF
 refine wk 6 ?_;refine asp 4 (fun hb3=>?_) fun hb3=>?_
 .
  refine wk 7 ?_;exact WF
 refine wk 6 ?_;refine asp 4 (fun hb4=>?_) fun hb4=>?_
 .
  refine wk 7 ?_;exact WF
 refine wk 6 ?_;refine asp 4 (fun hb5=>?_) fun hb5=>?_
 .
  refine wk 7 ?_;exact WF
 refine wk 5 ?_;refine asp 4 (fun hb6=>?_) fun hb6=>?_
 .
  refine wk 5 ?_;exact WF
 refine wk 6 ?_;exact WF
theorem dh(op:Int):APure Tryz.prog 65 [.int .i64 op] (fun r=>r=.int .i64 (Xx op)):=by
 refine APure.of_body (n:=12) Ai Tryz.func65 rfl rfl ?_;refine wk 16 ?_;refine asp 4 (fun hb1=>?_) fun hb1=>?_
 .
  refine wk 7 ?_;exact WK
 refine wk 6 ?_;refine asp 4 (fun hb2=>?_) fun hb2=>?_
 .
  refine wk 7 ?_;exact WK
 refine wk 6 ?_;refine asp 4 (fun hb3=>?_) fun hb3=>?_
 .
  refine wk 7 ?_;exact WK
 refine wk 5 ?_;refine asp 4 (fun hb4=>?_) fun hb4=>?_
 .
  refine wk 5 ?_;exact WK
 refine wk 7 ?_;refine asp 9 (fun hb5=>?_) fun hb5=>?_
 .
  refine wk 7 ?_;exact WK
 refine wk 5 ?_;refine asp 9 (fun hb6=>?_) fun hb6=>?_
 .
  refine wk 5 ?_;exact WK
 refine wk 6 ?_;exact WK
theorem Qg(t:Tac):APure Tryz.prog 81 [.agg t.cells] (fun r=>r=AS t.uses):=by
 refine APure.of_body (n:=18) Ai Tryz.func81 rfl rfl ?_;refine HG ?_;refine ax 1 (D4 8 0) ?_;refine wk 7 ?_;refine ax 5 (CW Tryz.func65 (dh _)) ?_;refine wk 7 ?_;refine asp 6 (fun hb1=>?_) fun hb1=>?_
 .
  refine wk 5 ?_;refine ax 10 (BU Ai rfl rfl rfl rfl rfl rfl Aj rfl rfl rfl rfl rfl rfl) ?_;refine wk 2 ?_;exact o7
 refine wk 6 ?_;refine asp 11 (fun hb2=>?_) fun hb2=>?_
 .
  refine wk 7 ?_;refine ax 17 (BU Ai rfl rfl rfl rfl rfl rfl Aj rfl rfl rfl rfl rfl rfl) ?_;refine wk 2 ?_;exact o7
 refine wk 6 ?_;refine AGo.ghost (.empty 2 rfl) ?_;exact o7
theorem L9(t:Tac):APure Tryz.prog 77 [.agg t.cells] (fun r=>r=.int .i64 t.sets):=by
 refine APure.of_body (n:=8) Ai Tryz.func77 rfl rfl ?_;refine HG ?_;refine ax 1 (D4 8 0) ?_;refine wk 7 ?_;refine ax 5 (CW Tryz.func64 (Yv _)) ?_;refine an ?_;refine asp 5 (fun hb1=>?_) fun hb1=>?_
 .
  refine wk 7 ?_;exact mS
 refine wk 6 ?_;exact mS
set_option maxRecDepth 100000
def Hn(R q:Nat):List Int:=(List.range R).map fun v=>if v<q then(v:Int)else 0
theorem M3(R q:Nat):(Hn R q).length=R:=by simp[Hn]
theorem Yh(h:q<R):A5 (Hn R q) (q:Int) q=Hn R (q+1):=by
 unfold A5 Hn;apply q62;intro v;rw[show((q:Nat):Int).toNat=q from rfl,q60,q54,q54]
 by_cases e:q=v
 . subst e;rw[qK0 rfl];simp[h]
 . rw[qZ9 e]
   by_cases hv:v<R
   . simp[hv]
     by_cases h1:v<q
     . rw[qK0 h1,qK0 z144q]
     . rw[qZ9 h1,qZ9 z144q]
   . simp[hv]
theorem cK(R:Nat):Hn R R=Ku R:=by
 unfold Hn Ku;apply q42;intro v hv;rw[qK0 (q94.1 hv)]
theorem iZ(hx:l[i]?=some t):(DM R l i)[0+((i:Nat):Int).toNat]?=some [.int .i64 0,.int .i64 0,.int .i64 0,.int .i64 0,.int .i64 0,.int .i64 0,.int .i64 0,.int .u32 0]:=by
 have hi:i<l.length:=(q05.1 hx).1;rw[qQ8,show((i:Nat):Int).toNat=i from rfl];unfold DM;rw[q02 (by rw[q76,G3,q69];omega),q76,G3,q69,show i-min i l.length=0 by omega,q19,qK0 z144q]
theorem VL(k:Nat->Bool)(l:List Tac):(EB l).avoid k=true:=by
 rfl
theorem M8(b:Block):(AObj.row false 5 [b.cells]).avoid k6=true:=by
 rfl
theorem Jw(R:Nat)(l:List Tac)(i:Nat):(AObj.row true 8 (DM R l i)).avoid k6=true:=by
 rfl
theorem kU(h:decide (t.sets>=0)=true):setsOp t.op=true/\t.sets=t.d:=by
 unfold Tac.sets at h|-
 cases e:setsOp t.op with
 |true=>exact⟨rfl,rfl⟩
 |false=>rw[e]at h;cases h
theorem TN(b:Block)(R:Nat)(hR:R<=4000)(hlen:b.ins.length<=1000000000)(hins:∀t∈b.ins,YC R t)(hv:b.fin=2->0<=b.v/\b.v<R):APure Tryz.prog 57 [.agg b.cells,.int .i64 (R:Int)] (fun r=>r=.agg (b.forward R).cells):=by
 refine APure.of_body (n:=108) Ai Tryz.func57 rfl rfl ?_;refine wk 2 ?_;refine ax 2 (D4 5 0) ?_;refine ax 4 (Eg Ai 1) ?_;refine wk 4 ?_;refine dx 12 (AJ Ai (n:=R) (m:=R) 3 true rfl rfl rfl rfl rfl rfl rfl rfl rfl rfl (q68 _) rfl (qZ0 _) (by show 8*R<=_;omega) Be) ?_;refine wk 1 ?_;refine dx 14 (AJ Ai (n:=R) (m:=R) 4 false rfl rfl rfl rfl rfl rfl rfl rfl rfl rfl (q68 _) rfl (qZ0 _) (by show 8*R<=_;omega) Be) ?_;refine wk 1 ?_;refine dx 5 (Eg Ai 2) ?_;refine wk 2 ?_;refine AGo.sub (s':=⟨108,Aa (Aa (Aa (Aa AZ 1 (.int .i64 (R:Int))) 2 (.ptr 0 1 0 0)) 4 (.ptr 1 1 0 0)) 5 (.ptr 2 1 0 0),FH (WB b .free .free) R (Hn R 0) (List.replicate R none) []⟩) (Sub.mk' B5 (Nf rfl rfl rfl (congrArg (fun es=>some (AObj.row true 1 es)) (by simp[GZ,Hn,List.map_const'])) (congrArg (fun es=>some (AObj.row false 1 es)) (by simp[NZ])) rfl rfl (fun j=>rfl))) ?_
 refine wk 40 ?_;refine AGo.loopI (γ:=Nat) (fun q=>⟨108,Aa (Aa (Aa (Aa (Aa (Aa (Aa AZ 1 (.int .i64 (R:Int))) 2 (.ptr 0 1 0 0)) 4 (.ptr 1 1 0 0)) 5 (.ptr 2 1 0 0)) 17 (.ref 3 R 0 R)) 18 (.int .i64 (R:Int))) 19 (.int .i64 (q:Int)),FH (WB b .free .free) R (Hn R q) (List.replicate R none) []⟩) (fun q=>q<=R) (fun q=>R-q) 0 (Sub.mk' B5 (HSub.refl _)) (qZ1 _) ?_;intro q hq;refine wk 40 ?_;refine asp 20 (fun hb1=>?_) fun hb1=>?_
 .
  have hqR:q<R:=by have:=hb1;simp at this;exact this
  have hqz:(0:Int)<=(q:Int)/\(q:Int)<(Hn R q).length:=by rw[M3];omega
  refine wk 40 ?_;refine aq 26 (Ae Ai rfl rfl rfl rfl rfl rfl rfl (by rw[GY,M3]) rfl hqz.1 z144q) ?_;refine AOps.w rfl rfl (o_store Ai rfl rfl rfl rfl rfl rfl (by rw[GY,M3]) (LY hqz) rfl Aj rfl (by intro h;rfl)) ?_;refine wk 40 ?_;refine⟨q+1,Sub.mk' (by repeat(first|exact ESub.new _|refine ESub.put ?_ (by first|rfl|exact congrArg (fun x=>some (AV.int .i64 x)) (JI hqR Be)))) ?_,hqR,by omega⟩;show HSub _ (hput (FH (WB b .free .free) R (Hn R q) (List.replicate R none) []) 3 (.row true 1 ((GZ (Hn R q)).set (0+((q:Nat):Int).toNat) [.int .i64 (q:Int)])));rw[Kc,Yh hqR,Oq];exact HSub.refl _
 have hqR:q=R:=by have:=hb1;simp at this;omega
 refine wk 40 ?_;refine ax 31 (AJ Ai (n:=b.ins.length) (m:=b.ins.length) 5 true rfl rfl rfl (congrArg (fun(m:Nat)=>(m:Int)) (q76 _)) (congrArg (fun(m:Nat)=>(m:Int)) (q76 _)) rfl rfl rfl rfl rfl (q68 _) rfl (qZ0 _) (by show 64*b.ins.length<=_;omega) Be) ?_;refine wk 40 ?_;rw[hqR];refine Bl (γ:=Nat×List Int×List (Option Nat)×List (List Int)) k6 (fun g=>⟨108,Aa (Aa (Aa (Aa (Aa (Aa (Aa AZ 2 (.ptr 0 1 0 0)) 4 (.ptr 1 1 0 0)) 5 (.ptr 2 1 0 0)) 7 (.ref 5 b.ins.length 0 b.ins.length)) 33 (EB b.ins)) 34 (.int .i64 (b.ins.length:Int))) 35 (.int .i64 (g.1:Int)),FH (WB b (.row true 8 (DM R b.ins g.1)) .free) R g.2.1 g.2.2.1 g.2.2.2⟩) (fun g=>zh R b.ins g.1 g.2.1 g.2.2.1 g.2.2.2) (fun g=>b.ins.length-g.1) (0,Ku R,List.replicate R none,[]) (Sub.mk' (by repeat(first|exact ESub.new _|refine ESub.put ?_ (by first|rfl|exact congrArg (fun(m:Nat)=>some (AV.int .i64 (m:Int))) (q76 _)))) ?_) ⟨qZ1 _,rfl,qy R⟩ (fun g x hx=>?_) ?_
 . exact Nf rfl rfl rfl (by show some (AObj.row true 1 (GZ (Hn R R)))=some (AObj.row true 1 (GZ (Ku R)));rw[cK]) rfl (by show some (AObj.row true 8 (List.replicate b.ins.length ty91.zero))=some (AObj.row true 8 (DM R b.ins 0));rw[Yk]) rfl (fun _=>rfl)
 . have:x=6:=by unfold k6 at hx;exact q25 (by simpa using hx)
   subst this;rfl
 rintro⟨i,fr,to,maps⟩ hF
 dsimp only at hF|-;refine wk 40 ?_;refine asp 36 (fun hb2=>?_) fun hb2=>?_
 .
  have hil:i<b.ins.length:=by have:=hb2;simp at this;exact this
  obtain⟨t,ht⟩:=Af hil;have hT:=hins t (q33 ht);have hI:=hF.inv;have gg:∀{z:Int},0<=z/\z<R->(0:Int)<=z/\z<fr.length:=fun h=>by rw[hI.lenF];exact h
  refine wk 40 ?_;refine aq 38 (Hc Ai (Aw ht)) ?_;refine wk 1 ?_;refine ax 9 (Eg Ai 6) ?_;refine wk 9 ?_;refine AGo.sub (s':=⟨108,Aa (Aa (Aa (Aa (Aa (Aa (Aa (Aa (Aa (Aa AZ 2 (.ptr 0 1 0 0)) 4 (.ptr 1 1 0 0)) 5 (.ptr 2 1 0 0)) 7 (.ref 5 b.ins.length 0 b.ins.length)) 33 (EB b.ins)) 34 (.int .i64 (b.ins.length:Int))) 35 (.int .i64 (i:Int))) 8 (.int .i64 (i:Int))) 9 (.ptr 6 1 0 0)) 41 (.int .i64 t.op),FH (WB b (.row true 8 (DM R b.ins i)) (.row false 8 [t.cells])) R fr to maps⟩) (Sub.mk' B5 (Nf rfl rfl rfl rfl rfl rfl rfl (fun _=>rfl))) ?_;refine AGo.join (γ:=Unit) (fun _=>⟨108,(Aa (Aa (Aa (Aa (Aa (Aa (Aa (Aa (Aa AZ 2 (.ptr 0 1 0 0)) 4 (.ptr 1 1 0 0)) 5 (.ptr 2 1 0 0)) 7 (.ref 5 b.ins.length 0 b.ins.length)) 33 (EB b.ins)) 34 (.int .i64 (b.ins.length:Int))) 35 (.int .i64 (i:Int))) 8 (.int .i64 (i:Int))) 9 (.ptr 6 1 0 0)),FH (WB b (.row true 8 (DM R b.ins i)) (.row false 8 [(subT fr t).cells])) R fr to maps⟩) (fun _=>True) ?_ ?_
  .
   refine wk 2 ?_;refine AGo.join (γ:=Unit) (fun _=>⟨108,Aa (Aa (Aa (Aa (Aa (Aa (Aa (Aa (Aa (Aa (Aa AZ 2 (.ptr 0 1 0 0)) 4 (.ptr 1 1 0 0)) 5 (.ptr 2 1 0 0)) 7 (.ref 5 b.ins.length 0 b.ins.length)) 33 (EB b.ins)) 34 (.int .i64 (b.ins.length:Int))) 35 (.int .i64 (i:Int))) 8 (.int .i64 (i:Int))) 9 (.ptr 6 1 0 0)) 41 (.int .i64 t.op)) 42 (.bool (use1 t.op)),FH (WB b (.row true 8 (DM R b.ins i)) (.row false 8 [t.cells])) R fr to maps⟩) (fun _=>True) ?_ ?_
   .
    refine wk 40 ?_;refine asp 42 (fun hc1=>?_) fun hc1=>?_
    . refine wk 40 ?_;have hu:use1 t.op=true:=by unfold use1;simp at hc1;simp[hc1]
      exact ap
    refine wk 40 ?_;refine asp 42 (fun hc2=>?_) fun hc2=>?_
    . refine wk 40 ?_;have hu:use1 t.op=true:=by unfold use1;simp at hc2;simp[hc2]
      exact ap
    refine wk 40 ?_;refine asp 42 (fun hc3=>?_) fun hc3=>?_
    . refine wk 40 ?_;have hu:use1 t.op=true:=by unfold use1;simp at hc3;simp[hc3]
      exact ap
    refine wk 40 ?_;have hu:use1 t.op=(t.op==9):=by show(t.op==2||(t.op==5||(t.op==6||t.op==9)))=_;rw[show(t.op==2)=false by simpa using hc1,show(t.op==5)=false by simpa using hc2,show(t.op==6)=false by simpa using hc3];rfl
    exact ap
   intro _ _;refine asp 42 (fun hu=>?_) fun hu=>?_
   .
    have ha:=hT.u1 hu;have hs:subT fr t={t with a:=rget fr t.a}:=by unfold subT;rw[hu];rfl
    refine wk 40 ?_;refine aq 51 (Ae Ai rfl rfl rfl rfl rfl rfl rfl IH rfl ha.1 ha.2) ?_;refine aq 52 (Ar Ai rfl rfl rfl (.ptr _ _ _ _ _ _ _ _ rfl IH (LY (gg ha))) rfl) ?_;exact nI
   refine wk 1 ?_;refine wk 1 ?_;refine AGo.join (γ:=Unit) (fun _=>⟨108,Aa (Aa (Aa (Aa (Aa (Aa (Aa (Aa (Aa (Aa AZ 2 (.ptr 0 1 0 0)) 4 (.ptr 1 1 0 0)) 5 (.ptr 2 1 0 0)) 7 (.ref 5 b.ins.length 0 b.ins.length)) 33 (EB b.ins)) 34 (.int .i64 (b.ins.length:Int))) 35 (.int .i64 (i:Int))) 8 (.int .i64 (i:Int))) 9 (.ptr 6 1 0 0)) 54 (.bool (use2 t.op)),FH (WB b (.row true 8 (DM R b.ins i)) (.row false 8 [t.cells])) R fr to maps⟩) (fun _=>True) ?_ ?_
   .
    refine wk 40 ?_;refine asp 54 (fun hc1=>?_) fun hc1=>?_
    . refine wk 40 ?_;have hu:use2 t.op=true:=by unfold use2;simp at hc1;simp[hc1]
      exact ap
    refine wk 40 ?_;have hu:use2 t.op=(t.op==7):=by show(t.op==3||t.op==7)=_;rw[show(t.op==3)=false by simpa using hc1];rfl
    exact ap
   intro _ _;refine asp 54 (fun hu2=>?_) fun hu2=>?_
   .
    obtain⟨ha,hb⟩:=hT.u2 hu2;have hs:subT fr t={t with a:=rget fr t.a,b:=rget fr t.b}:=by unfold subT;rw[hu,hu2];rfl
    refine wk 40 ?_;refine dq 61 (Ae Ai rfl rfl rfl rfl rfl rfl rfl IH rfl ha.1 ha.2) ?_;refine dq 62 (Ar Ai rfl rfl rfl (.ptr _ _ _ _ _ _ _ _ rfl IH (LY (gg ha))) rfl) ?_;refine wk 40 ?_;refine dq 67 (Ae Ai rfl rfl rfl rfl rfl rfl rfl IH rfl hb.1 hb.2) ?_;refine dq 68 (Ar Ai rfl rfl rfl (.ptr _ _ _ _ _ _ _ _ rfl IH (LY (gg hb))) rfl) ?_;exact nI
   have hs:subT fr t=t:=by unfold subT;rw[hu,hu2];rfl
   refine wk 40 ?_;exact⟨(),Sub.mk' B5 (by rw[hs];exact HSub.refl _),trivial⟩
  intro _ _;refine wk 40 ?_;refine aq 74 (Ae Ai rfl rfl rfl rfl rfl rfl rfl (Ke hF.le).symm rfl (q46 _) z144q) ?_;refine AOps.w rfl rfl (o_store Ai rfl rfl rfl rfl rfl rfl (Ke hF.le).symm (iZ ht) rfl Aj rfl (by intro h;rfl)) ?_;refine wk 1 ?_;have hnx:(DM R b.ins i).set (0+((i:Nat):Int).toNat) (subT fr t).cells=DM R b.ins (i+1):=by have:=Yl (R:=R) ht;rw[hF.pre]at this;exact this
  refine AGo.sub (s':=⟨108,(Aa (Aa (Aa (Aa (Aa (Aa (Aa (Aa (Aa AZ 2 (.ptr 0 1 0 0)) 4 (.ptr 1 1 0 0)) 5 (.ptr 2 1 0 0)) 7 (.ref 5 b.ins.length 0 b.ins.length)) 33 (EB b.ins)) 34 (.int .i64 (b.ins.length:Int))) 35 (.int .i64 (i:Int))) 8 (.int .i64 (i:Int))) 9 (.ptr 6 1 0 0)),FH (WB b (.row true 8 (DM R b.ins (i+1))) (.row false 8 [(subT fr t).cells])) R fr to maps⟩) (Sub.mk' B5 (Nf rfl rfl rfl rfl rfl (congrArg (fun es=>some (AObj.row true 8 es)) hnx) rfl (fun _=>rfl))) ?_;refine wk 40 ?_;refine ax 76 (CW Tryz.func77 (L9 (subT fr t))) ?_;refine wk 40 ?_;have hst:=(S4 fr t).2.2;have hop:=(S4 fr t).1;refine asp 78 (fun hs1=>?_) fun hs1=>?_
  .
   obtain⟨hsp,hsd'⟩:=kU hs1;have hsd:(subT fr t).sets=t.d:=by rw[hsd',(S4 fr t).2.1]
   have hd:=hT.d (by rw[<-hop];exact hsp);obtain⟨d,hdd⟩:∃d:Nat,t.d=d:=⟨t.d.toNat,by omega⟩
   have hdR:d<R:=by omega
   have hsn:(subT fr t).sets=(d:Int):=by rw[hsd,hdd]
   refine wk 40 ?_;rw[hsn];refine AOps.inn 80 rfl rfl rfl ?_;refine v9 rfl Tryz.func78 AF rfl rfl ?_;refine(l7 (WB b (.row true 8 (DM R b.ins (i+1))) (.row false 8 [(subT fr t).cells])) hI hdR).mono ?_
   rintro r h' ⟨rfl,maps',hI',hml,hsub⟩
   refine wk 1 ?_;refine AGo.sub (s':=⟨108,Aa (Aa (Aa (Aa (Aa (Aa (Aa (Aa (Aa (Aa AZ 2 (.ptr 0 1 0 0)) 4 (.ptr 1 1 0 0)) 5 (.ptr 2 1 0 0)) 7 (.ref 5 b.ins.length 0 b.ins.length)) 33 (EB b.ins)) 34 (.int .i64 (b.ins.length:Int))) 35 (.int .i64 (i:Int))) 8 (.int .i64 (i:Int))) 9 (.ptr 6 1 0 0)) 10 (.int .i64 (d:Int)),FH (WB b (.row true 8 (DM R b.ins (i+1))) (.row false 8 [(subT fr t).cells])) R (Ck (d:Int) fr) (to.set d none) maps'⟩) (Sub.mk' B5 hsub) ?_;refine wk 40 ?_;have hdf:(d:Int)<fr.length:=by rw[hI.lenF];omega
   refine CM 84 (fun hc=>?_) fun hc=>?_
   .
    have hu1:use1 t.op=true:=by(have h9:t.op=2:=(by rw[<-hop];simpa using hc);unfold use1;rw[h9];rfl)
    have ha:=hT.u1 hu1;have hsa:(subT fr t).a=rget fr t.a:=by unfold subT;rw[hu1];rfl
    obtain⟨a0,ha0⟩:∃a0:Nat,t.a=a0:=⟨t.a.toNat,by omega⟩
    have ha1:=hI.ran a0 z144q;obtain⟨a,haa⟩:∃a:Nat,rget fr t.a=a:=⟨(rget fr t.a).toNat,by rw[ha0];omega⟩
    have haR:a<R:=by rw[ha0]at haa;omega
    have hra:rget fr a=a:=by have:=hI.root a0 z144q;rw[<-ha0,haa]at this;exact this
    have hsa':(subT fr t).a=(a:Int):=by rw[hsa,haa]
    refine wk 40 ?_;refine asp 89 (fun hc2=>?_) fun hc2=>?_
    .
     have hne:a≠d:=by(rw[hsa']at hc2;have h9:(a:Int)≠d:=(by simpa using hc2);omega)
     have hn:Dh fr (subT fr t)=A5 (Ck (d:Int) fr) (d:Int) a:=by unfold Dh;rw[hs1,hsn,hsa',show((subT fr t).op==2)=true from hc,show((a:Int) !=(d:Int))=true from by simp;omega];rfl
     refine wk 40 ?_;rw[hsa'];refine AOps.inn 93 rfl rfl rfl ?_;refine v9 rfl Tryz.func79 AF rfl rfl ?_;refine(Yi (WB b (.row true 8 (DM R b.ins (i+1))) (.row false 8 [(subT fr t).cells])) hI' hdR haR hne (by rw[Dd z144q];simp) (q21 (by rw[hI.lenT];exact hdR)) (by rw[Dd (by rw[hI.lenF];exact haR),hra];cases ((a:Int)==(d:Int)||(a:Int)==(d:Int))<;>rfl)).mono ?_
     rintro r h2 ⟨rfl,to2,maps2,hI2,hsub2⟩
     refine wk 1 ?_;refine AGo.sub (s':=⟨108,(Aa (Aa (Aa (Aa (Aa (Aa (Aa (Aa (Aa AZ 2 (.ptr 0 1 0 0)) 4 (.ptr 1 1 0 0)) 5 (.ptr 2 1 0 0)) 7 (.ref 5 b.ins.length 0 b.ins.length)) 33 (EB b.ins)) 34 (.int .i64 (b.ins.length:Int))) 35 (.int .i64 (i:Int))) 8 (.int .i64 (i:Int))) 9 (.ptr 6 1 0 0)),FH (WB b (.row true 8 (DM R b.ins (i+1))) (.row false 8 [(subT fr t).cells])) R (A5 (Ck (d:Int) fr) (d:Int) a) to2 maps2⟩) (Sub.mk' B5 hsub2) ?_;refine wk 40 ?_;exact⟨(i+1,A5 (Ck (d:Int) fr) (d:Int) a,to2,maps2),DropK.mk' pB (Ua (o6:=.free) (M8 b) rfl rfl rfl rfl rfl rfl (Jw _ _ _) (fun _=>rfl)),⟨hil,by rw[Mq ht,hF.pre,hn],hI2⟩,by show b.ins.length-(i+1)<b.ins.length-i;omega⟩
    have hn:Dh fr (subT fr t)=Ck (d:Int) fr:=by unfold Dh;rw[hs1,hsn,show((subT fr t).a !=(d:Int))=false from hc2];cases ((subT fr t).op==2)<;>rfl
    exact rj
   have hn:Dh fr (subT fr t)=Ck (d:Int) fr:=by unfold Dh;rw[hs1,hsn,show((subT fr t).op==2)=false from hc];rfl
   exact rj
  have hn:Dh fr (subT fr t)=fr:=by unfold Dh;rw[show decide ((subT fr t).sets>=0)=false from hs1];rfl
  refine wk 40 ?_;exact⟨(i+1,fr,to,maps),DropK.mk' pB (Ua (o6:=.free) (M8 b) rfl rfl rfl rfl rfl rfl (Jw _ _ _) (fun _=>rfl)),⟨hil,by rw[Mq ht,hF.pre,hn],hI⟩,by show b.ins.length-(i+1)<b.ins.length-i;omega⟩
 have hin:i=b.ins.length:=by have:=hb2;simp at this;have:=hF.le;omega
 have hfr:(Di (Ku R) b.ins).2=fr:=by have:=hF.pre;rw[hin,q71]at this;exact this
 have hgg:∀{z:Int},0<=z/\z<R->(0:Int)<=z/\z<fr.length:=fun h=>by rw[hF.inv.lenF];exact h
 refine wk 2 ?_;refine AGo.ghost (Ghost.freeze 7 5 rfl rfl (Ke hF.le).symm) ?_;rw[q95,q20 (Nat.le_of_eq (Ke hF.le)),hin,cQ];refine wk 40 ?_;refine asp 99 (fun hc=>?_) fun hc=>?_
 .
  have hz:=hv (by simpa using hc);refine wk 40 ?_;refine aq 104 (Ae Ai rfl rfl rfl rfl rfl rfl rfl (by rw[GY,hF.inv.lenF]) rfl hz.1 hz.2) ?_;refine aq 105 (Ar Ai rfl rfl rfl (.ptr _ _ _ _ _ _ _ _ rfl (by rw[GY,hF.inv.lenF]) (LY (hgg hz))) rfl) ?_;refine wk 40 ?_;refine⟨[_],⟨⟨_,_,_,_,rfl,rfl,.ptr _ _ _ _ _ _ _ _ rfl rfl rfl,rfl⟩,trivial⟩,?_,rfl⟩;unfold Block.forward;rw[hfr,show(b.fin==2)=true from hc];rfl
 refine wk 40 ?_;refine⟨[_],⟨⟨_,_,_,_,rfl,rfl,.ptr _ _ _ _ _ _ _ _ rfl rfl rfl,rfl⟩,trivial⟩,?_,rfl⟩;unfold Block.forward;rw[hfr,show(b.fin==2)=false from hc];rfl
end Go.Proofs.YtbbfelelocccmaaGreat.Sv
