/-
  ALIVE36 (C): own work; printed by a program of our own from what the kernel has evaluated.
-/
import Derived.Test.YtijlphdockhgjaaGreatDoorPSystemForgedUptoCard6
import Derived.Test.YtijlphdockhgjaaGreatDoorPSystemForgedUptoCard4
import Derived.Test.YtijlphdockhgjaaGreatDoorPSystemForgedUptoCard3
import Derived.Test.YtijlphdockhgjaaGreatDoorPSystemForgedUptoCard2
import Derived.RangeFuncLeaves
import Derived.RangeFuncKeeps
import Derived.Shelf.Abstract
import Derived.WalkKit
import Derived.OwnWalkIn
import Derived.TacticsInMore
import Derived.LoopNIn
import Derived.LoopIn
import Derived.Test.YtijlphdockhgjaaGreatDoorPSystemForgedUptoCard5
set_option linter.unusedVariables false
set_option linter.unusedSimpArgs false
set_option maxRecDepth 100000
set_option maxHeartbeats 2000000
namespace Go.Proofs.YtijlphdockhgjaaGreatDoor.Sv
open Go
theorem i7:APure Tryz.prog 29 a_emit (fun r=>r=v_emit):=Bz (l:=[]) AY 12 4000 Ay
theorem jq{l:List Kn}(h:A2 Tryz.prog l):A2 Tryz.prog (⟨29,a_emit,v_emit⟩::l):=Cr Ay rfl i7 h
theorem co:APure Tryz.prog 12 a_image (fun r=>r=v_image):=Bz (l:=[⟨26,a_core,v_core⟩,⟨30,a_lower,v_lower⟩,⟨29,a_emit,v_emit⟩]) (Zj (c9 (jq AY))) 12 4000 Ay
theorem dd{l:List Kn}(h:A2 Tryz.prog l):A2 Tryz.prog (⟨12,a_image,v_image⟩::l):=Cr Ay rfl co h
def L2(v:Nat):List Tac->Bool->Bool
  | [],z=>z
  |t::r,z=>t.uses.contains (v:Int)||(!(t.sets==(v:Int))&&L2 v r z)
theorem QJ(v:Nat)(l2:List Tac)(z:Bool):∀l1,L2 v (l1++l2) z=L2 v l1 (L2 v l2 z)
 | []=>rfl
 |t::r=>by rw[List.cons_append,L2,L2,QJ v l2 z r]
def MF(x:Block)(v:Nat):Bool:=x.fin==2&&x.v==(v:Int)
section
variable {call call' : Int -> Mach -> Mach} {s : ByteArray} {fuel : Int}
theorem bA{t:Tac}(h:setsOp t.op=true):t.sets=t.d:=by unfold Tac.sets;rw[h];rfl
end
def xQ(R:Nat)(p:Nat->Bool):List Bool:=(List.range R).map p
def nd(R:Nat)(x:Block)(p:Nat->Bool)(i:Nat):List Bool:=xQ R (fun v=>L2 v (x.ins.drop i) (MF x v||p v))
def Jq(p:Nat->Bool):Nat->Nat
  |0=>0
  |n+1=>Jq p n+(if p n then 2^n else 0)
theorem Ps(p:Nat->Bool):∀n,Jq p n<2^n
 |0=>by simp[Jq]
 |n+1=>by
  have ih:=Ps p n
  grind[Jq]
theorem Jp(p:Nat->Bool):∀n i,(Jq p n).testBit i=(decide (i<n)&&p i)
 |0,i=>by simp[Jq]
 |n+1,i=>by
  have ih:=Jp p n i;have hlt:=Ps p n;unfold Jq
  by_cases hp:p n=true
  . rw[if_pos hp,Nat.add_comm]
    by_cases h1:i<n
    . rw[Nat.testBit_two_pow_add_gt h1,ih];simp[h1];omega
    . by_cases h2:i=n
      . subst h2;rw[Nat.testBit_two_pow_add_eq,ih];simp[hp]
      . have h3:2^n+Jq p n<2^i:=by
         have:2^(n+1)<=2^i:=Nat.pow_le_pow_right Ab Ab;rw[Nat.pow_succ]at this;omega
        rw[Nat.testBit_lt_two_pow h3];have:¬i<n+1:=by omega
        simp[this]
  . rw[if_neg hp,Nat.add_zero,ih]
    by_cases h2:i=n
    . subst h2;simp[hp]
    . by_cases h1:i<n
      . have:i<n+1:=by omega
        simp[h1,this]
      . have:¬i<n+1:=by omega
        simp[h1,this]
theorem Jn{p:Nat->Bool}{n x:Nat}(h:∀i,x.testBit i=(decide (i<n)&&p i)):x=Jq p n:=Nat.eq_of_testBit_eq fun i=>by rw[h,Jp]
theorem Iu{p q:Nat->Bool}{n:Nat}(h:∀i,i<n->p i=q i):Jq p n=Jq q n:=Jn fun i=>by
 grind[Jp,Jq]
theorem Lg{x:Nat}(h:x<18446744073709551616):IntKind.u64.wrap (x:Int)=(x:Int):=UX h
theorem HH(w x:Nat):BitVec.ofInt w (x:Int)=BitVec.ofNat w x:=by
 grind
def wd(p:Nat->Bool):Nat:=Jq p 64
theorem TD(p:Nat->Bool):wd p<18446744073709551616:=Ps p 64
theorem RR(p:Nat->Bool)(i:Nat):(wd p).testBit i=(decide (i<64)&&p i):=Jp p 64 i
theorem Xh(p:Nat->Bool):wd p%2^64=wd p:=Nat.mod_eq_of_lt (TD p)
theorem lC(p q:Nat->Bool):AM .or (.int .u64 (wd p:Int)) (.int .u64 (wd q:Int))=some (.int .u64 (wd (fun v=>p v||q v):Int)):=by
 have e:(BitVec.ofInt 64 (wd p:Int)|||BitVec.ofInt 64 (wd q:Int)).toNat=wd (fun v=>p v||q v):=by
  rw[HH,HH,BitVec.toNat_or,BitVec.toNat_ofNat,BitVec.toNat_ofNat,Xh,Xh];refine Jn fun i=>?_
  grind[RR,AM,wd]
 show some (AV.int .u64 (IntKind.u64.wrap ((BitVec.ofInt 64 (wd p:Int)|||BitVec.ofInt 64 (wd q:Int)).toNat:Int)))=_;rw[e,Lg (TD _)]
theorem U1(p q:Nat->Bool):AM .andNot (.int .u64 (wd p:Int)) (.int .u64 (wd q:Int))=some (.int .u64 (wd (fun v=>p v&& !q v):Int)):=by
 have e:(BitVec.ofInt 64 (wd p:Int)&&& ~~~BitVec.ofInt 64 (wd q:Int)).toNat=wd (fun v=>p v&& !q v):=by
  refine Jn fun i=>?_
  rw[HH,HH];rw[<-BitVec.getLsbD.eq_1,BitVec.getLsbD_and,BitVec.getLsbD_not,BitVec.getLsbD_ofNat,BitVec.getLsbD_ofNat,RR,RR]
  cases decide (i<64)<;>simp
 show some (AV.int .u64 (IntKind.u64.wrap ((BitVec.ofInt 64 (wd p:Int)&&& ~~~BitVec.ofInt 64 (wd q:Int)).toNat:Int)))=_;rw[e,Lg (TD _)]
theorem Xg{i:Nat}(h:i<64):AM .shl (.int .u64 1) (.int .i64 (i:Int))=some (.int .u64 (wd (fun v=>v==i):Int)):=by
 have e:(2:Nat)^i=wd (fun v=>v==i):=Jn fun k=>by
  grind
 have hl:(2:Nat)^i<18446744073709551616:=by rw[e];exact TD _
 have h1:min ((i:Int).toNat) IntKind.u64.bits=i:=by rw[Int.toNat_natCast];show min i 64=i;omega
 have h2:AM .shl (.int .u64 1) (.int .i64 (i:Int))=some (.int .u64 (IntKind.u64.wrap (1*2^(min ((i:Int).toNat) IntKind.u64.bits)))):=by
  have hn:¬((i:Int)<0):=by omega
  simp[AM,isShift,Bf,hn]
 rw[h2,h1,Int.one_mul,show((2:Int)^i)=(((2:Nat)^i:Nat):Int) by simp,Lg hl,e]
def nw(R:Nat):Nat:=(R+63)/64
def CK(p:Nat->Bool)(j:Nat):List AV:=[AV.int .u64 ((wd (fun v=>p (64*j+v)):Nat):Int)]
def Dw(R:Nat)(p:Nat->Bool):List (List AV):=(List.range (nw R)).map (CK p)
theorem Cn(R:Nat)(p:Nat->Bool):(Dw R p).length=nw R:=by simp[Dw]
theorem LC{R:Nat}{p:Nat->Bool}{j:Nat}(h:j<nw R):(Dw R p)[j]?=some (CK p j):=by simp[Dw,h]
theorem gg{R i:Nat}(h:i<R):i/64<nw R:=by unfold nw;omega
theorem ID{p q:Nat->Bool}{j:Nat}(h:∀v,v<64->p (64*j+v)=q (64*j+v)):CK p j=CK q j:=by
 grind[CK,wd,Iu]
theorem Ia{R:Nat}{p q:Nat->Bool}(h:∀v,p v=q v):Dw R p=Dw R q:=List.map_congr_left fun j _=>ID fun v _=>h _
theorem Vl(R:Nat):List.replicate (nw R) [AV.int .u64 0]=Dw R (fun _=>false):=by
 have e:∀j,CK (fun _=>false) j=[AV.int .u64 0]:=fun j=>by
  unfold CK wd;have:Jq (fun _=>false) 64=0:=(Jn (p:=fun _=>false) (n:=64) (x:=0) (fun i=>by simp)).symm;rw[this];rfl
 refine List.ext_getElem? fun i=>?_
 grind[nw,LC,List.length_replicate,Cn,Dw]
theorem Qg{R:Nat}{p q:Nat->Bool}{j:Nat}(h1:∀v,v/64≠j->q v=p v):(Dw R p).set j (CK q j)=Dw R q:=by
 refine List.ext_getElem? fun i=>?_
 grind[nw,LC,Cn,ID,Dw,CK]
theorem ae{i v:Nat}(hv:v<64):(64*(i/64)+v==i)=(v==i%64):=by
 grind
theorem RQ(p:Nat->Bool)(i:Nat):CK (fun v=>p v||v==i) (i/64)=[AV.int .u64 ((wd (fun v=>p (64*(i/64)+v)||v==i%64):Nat):Int)]:=by
 grind[CK,wd,Iu,ae]
theorem U0(p:Nat->Bool)(i:Nat):CK (fun v=>p v&& !(v==i)) (i/64)=[AV.int .u64 ((wd (fun v=>p (64*(i/64)+v)&& !(v==i%64)):Nat):Int)]:=by
 grind[CK,wd,Iu,ae]
theorem XW{i:Nat}(h:i<=1000000000):AM .quo (.int .i64 (i:Int)) (.int .i64 64)=some (.int .i64 ((i/64:Nat):Int)):=ZR (b:=64) A7 (No Ab)
theorem ga{i:Nat}:AM .rem (.int .i64 (i:Int)) (.int .i64 64)=some (.int .i64 ((i%64:Nat):Int)):=ZQ (b:=64) A7
def Ga(v:Nat)(l:List Tac):Bool:=l.any fun t=>t.sets==(v:Int)
def T1(x:Block)(v:Nat):Bool:=L2 v x.ins (MF x v)
def TW(t:Tac)(p:Nat->Bool):Nat->Bool:=fun v=>p v&& !(t.sets==(v:Int))
def Fs(us:List Int)(p:Nat->Bool):Nat->Bool:=fun v=>us.contains (v:Int)||p v
def KT(t:Tac)(q:Nat->Bool):Nat->Bool:=fun v=>q v||t.sets==(v:Int)
def tR(x:Block)(pre:List Nat):Nat->Bool:=pre.foldl (fun p k=>match x.ins[k]? with
  |some t=>Fs t.uses (TW t p)
  |none=>p) (MF x)
def tS(x:Block)(pre:List Nat):Nat->Bool:=pre.foldl (fun p k=>match x.ins[k]? with
  |some t=>KT t p
  |none=>p) (fun _=>false)
theorem bq{x:Block}{pre:List Nat}{k:Nat}{t:Tac}(h:x.ins[k]?=some t):tR x (pre++[k])=Fs t.uses (TW t (tR x pre)):=by
 grind[tR,Fs,TW]
theorem bp{x:Block}{pre:List Nat}{k:Nat}{t:Tac}(h:x.ins[k]?=some t):tS x (pre++[k])=KT t (tS x pre):=by
 grind[tS,KT]
theorem NL(k:Nat):(List.range (k+1)).reverse=k::(List.range k).reverse:=by
 rw[List.range_succ,List.reverse_append];rfl
theorem gt(x:Block)(v:Nat):∀(m:Nat) (p:Nat->Bool),m<=x.ins.length->((List.range m).reverse.foldl (fun p k=>match x.ins[k]? with
 |some t=>Fs t.uses (TW t p)
 |none=>p) p) v=L2 v (x.ins.take m) (p v)
 |0,p,_=>by simp[L2]
 |m+1,p,h=>by
  obtain⟨t,ht⟩:=Ag (l:=x.ins) (k:=m) Ab;rw[NL,List.foldl_cons,gt x v m _ Ab,ht];have e:x.ins.take (m+1)=x.ins.take m++[t]:=by
   rw[List.take_add_one,ht];rfl
  rw[e,QJ];congr 1;unfold Fs TW;simp[L2,Bool.and_comm]
theorem gr(x:Block)(v:Nat):∀(m:Nat) (p:Nat->Bool),m<=x.ins.length->((List.range m).reverse.foldl (fun p k=>match x.ins[k]? with
 |some t=>KT t p
 |none=>p) p) v=(p v||Ga v (x.ins.take m))
 |0,p,_=>by simp[Ga]
 |m+1,p,h=>by
  obtain⟨t,ht⟩:=Ag (l:=x.ins) (k:=m) Ab;rw[NL,List.foldl_cons,gr x v m _ Ab,ht];have e:x.ins.take (m+1)=x.ins.take m++[t]:=by
   rw[List.take_add_one,ht];rfl
  rw[e];unfold KT Ga;rw[List.any_append];simp only[List.any_cons,List.any_nil,Bool.or_false]
  cases p v<;>cases t.sets==(v:Int)<;>cases (List.any (List.take m x.ins) fun t=>t.sets==(v:Int))<;>rfl
theorem ip(x:Block)(v:Nat):tR x (List.range x.ins.length).reverse v=T1 x v:=by
 have:=gt x v x.ins.length (MF x) (Nat.le_refl _);rw[List.take_length]at this;exact this
theorem im(x:Block)(v:Nat):tS x (List.range x.ins.length).reverse v=Ga v x.ins:=by
 have:=gr x v x.ins.length (fun _=>false) (Nat.le_refl _);rw[List.take_length]at this;exact this.trans Az
def Fd(R:Nat)(p:Nat->Bool):AObj:=.row true 1 (Dw R p)
theorem Cf{R:Nat}{p q:Nat->Bool}(h:∀v,p v=q v):some (Fd R p)=some (Fd R q):=congrArg (fun es=>some (AObj.row true 1 es)) (Ia h)
theorem Kc{d:Int}(h:0<=d)(v:Nat):(v==d.toNat)=(d==(v:Int)):=by
 grind
theorem bE{t:Tac}{p:Nat->Bool}(h:0<=t.sets)(v:Nat):(p v&& !(v==t.sets.toNat))=TW t p v:=by unfold TW;rw[Kc h]
theorem XJ{t:Tac}{p:Nat->Bool}(h:0<=t.sets)(v:Nat):(p v||v==t.sets.toNat)=KT t p v:=by unfold KT;rw[Kc h]
theorem bF{t:Tac}{p:Nat->Bool}(h:¬0<=t.sets)(v:Nat):p v=TW t p v:=by
 grind[TW]
theorem XK{t:Tac}{p:Nat->Bool}(h:¬0<=t.sets)(v:Nat):p v=KT t p v:=by
 grind[KT]
theorem WG{p:Nat->Bool}(v:Nat):p v=Fs [] p v:=by simp[Fs]
theorem Tn{us:List Int}{k:Nat}{u:Int}{p:Nat->Bool}(h:us[k]?=some u)(hu:0<=u)(v:Nat):(Fs (us.take k) p v||v==u.toNat)=Fs (us.take (k+1)) p v:=by
 unfold Fs;have e:us.take (k+1)=us.take k++[u]:=by rw[List.take_add_one,h];rfl
 grind
theorem ZN{x:Block}(h:x.fin=2)(h0:0<=x.v)(v:Nat):(false||v==x.v.toNat)=MF x v:=by
 grind[Kc,MF]
theorem dL{x:Block}(h:¬x.fin=2)(v:Nat):false=MF x v:=by
 simp[MF,h]
theorem MP(op:Int):Pu Tryz.prog 81 [.int .i64 op] (.bool (setsOp op)):=by
 refine APure.of_body (n:=11) Am Tryz.func81 rfl rfl ?_;refine wk 16 ?_;refine asp 4 (fun hb1=>?_) fun hb1=>?_
 .
  refine wk 7 ?_;exact RC
 refine wk 6 ?_;refine asp 4 (fun hb2=>?_) fun hb2=>?_
 .
  refine wk 7 ?_;exact RC
 refine wk 6 ?_;refine asp 4 (fun hb3=>?_) fun hb3=>?_
 .
  refine wk 7 ?_;exact RC
 refine wk 6 ?_;refine asp 4 (fun hb4=>?_) fun hb4=>?_
 .
  refine wk 7 ?_;exact RC
 refine wk 6 ?_;refine asp 4 (fun hb5=>?_) fun hb5=>?_
 .
  refine wk 7 ?_;exact RC
 refine wk 5 ?_;refine asp 4 (fun hb6=>?_) fun hb6=>?_
 .
  refine wk 5 ?_;exact RC
 refine wk 6 ?_;exact RC
theorem Oo(op:Int):Pu Tryz.prog 82 [.int .i64 op] (.int .i64 (C8 op)):=by
 refine APure.of_body (n:=12) Am Tryz.func82 rfl rfl ?_;refine wk 16 ?_;refine asp 4 (fun hb1=>?_) fun hb1=>?_
 .
  refine wk 7 ?_;exact RJ
 refine wk 6 ?_;refine asp 4 (fun hb2=>?_) fun hb2=>?_
 .
  refine wk 7 ?_;exact RJ
 refine wk 6 ?_;refine asp 4 (fun hb3=>?_) fun hb3=>?_
 .
  refine wk 7 ?_;exact RJ
 refine wk 5 ?_;refine asp 4 (fun hb4=>?_) fun hb4=>?_
 .
  refine wk 5 ?_;exact RJ
 refine wk 7 ?_;refine asp 9 (fun hb5=>?_) fun hb5=>?_
 .
  refine wk 7 ?_;exact RJ
 refine wk 5 ?_;refine asp 9 (fun hb6=>?_) fun hb6=>?_
 .
  refine wk 5 ?_;exact RJ
 refine wk 6 ?_;exact RJ
theorem Z7(t:Tac):Pu Tryz.prog 206 [.agg t.cells] (Bt t.uses):=by
 refine APure.of_body (n:=18) Am Tryz.func206 rfl rfl ?_;refine Gy ?_;refine ax 1 (Dn 8 0) ?_;refine wk 7 ?_;refine ax 5 (CR Tryz.func82 (Oo _)) ?_;refine wk 7 ?_;refine asp 6 (fun hb1=>?_) fun hb1=>?_
 .
  refine wk 5 ?_;refine ax 10 Iy ?_;refine wk 2 ?_;exact gP
 refine wk 6 ?_;refine asp 11 (fun hb2=>?_) fun hb2=>?_
 .
  refine wk 7 ?_;refine ax 17 Iy ?_;refine wk 2 ?_;exact gP
 refine wk 6 ?_;refine AGo.ghost (.empty 2 rfl) ?_;exact gP
theorem Z8(t:Tac):Pu Tryz.prog 204 [.agg t.cells] (.int .i64 t.sets):=by
 refine APure.of_body (n:=8) Am Tryz.func204 rfl rfl ?_;refine Gy ?_;refine ax 1 (Dn 8 0) ?_;refine wk 7 ?_;refine ax 5 (CR Tryz.func81 (MP _)) ?_;refine an ?_;refine asp 5 (fun hb1=>?_) fun hb1=>?_
 .
  refine wk 7 ?_;exact eI
 refine wk 6 ?_;exact eI
theorem Jv(words f regs blocks r:Int):APure Tryz.prog 80 [(.agg [.int .i64 words,.int .i64 f,.int .i64 regs,.int .i64 blocks]),.int .i64 r] (fun q=>q=.bool (AX r regs)):=by
 refine APure.of_body (n:=13) Am Tryz.func80 rfl rfl ?_;refine Gy ?_;refine ax 2 (Dn 4 0) ?_;refine wk 7 ?_;refine BH 7 (fun hb1=>?_) fun hb1=>?_
 .
  exact fm
 exact fm
theorem dX(words f regs blocks:Int)(x:Block):APure Tryz.prog 43 [(.agg [.int .i64 words,.int .i64 f,.int .i64 regs,.int .i64 blocks]),.agg x.cells] (fun q=>q=.bool (x.ends blocks regs)):=by
 refine APure.of_body (n:=67) Am Tryz.func43 rfl rfl ?_;refine Gy ?_;refine ax 2 (Dn 4 0) ?_;refine ax 3 (Dn 5 1) ?_;refine wk 3 ?_;refine AGo.join (γ:=Unit) (fun _u=>⟨67,(Ad (Ad (Ad BC 2 (pZ 0)) 3 (pZ 1)) 5 (.bool (AX x.to blocks))),(Al (Al (AU 2) 0 (rf 4 [[.int .i64 words,.int .i64 f,.int .i64 regs,.int .i64 blocks]])) 1 (rf 5 [x.cells]))⟩) (fun _u=>True) ?_ ?_
 .
  refine wk 5 ?_;refine BH 9 (fun hb1=>?_) fun hb1=>?_
  .
   exact k7
  exact k7
 intro _u _;refine wk 12 ?_;refine asp 18 (fun hb2=>?_) fun hb2=>?_
 .
  refine wk 5 ?_;refine BH 21 (fun hb3=>?_) fun hb3=>?_
  .
   refine wk 5 ?_;refine BH 26 (fun hb4=>?_) fun hb4=>?_
   .
    refine wk 6 ?_;exact Lb
   refine wk 6 ?_;exact Lb
  refine wk 11 ?_;exact Lb
 refine wk 6 ?_;refine asp 31 (fun hb5=>?_) fun hb5=>?_
 .
  refine wk 5 ?_;refine BH 34 (fun hb6=>?_) fun hb6=>?_
  .
   refine wk 3 ?_;refine ax 38 (CR Tryz.func80 (Jv _ _ _ _ _)) ?_;refine wk 2 ?_;refine BH 40 (fun hb7=>?_) fun hb7=>?_
   .
    refine wk 5 ?_;refine BH 45 (fun hb8=>?_) fun hb8=>?_
    .
     refine wk 8 ?_;exact Lb
    refine wk 8 ?_;exact Lb
   refine wk 13 ?_;exact Lb
  refine wk 19 ?_;exact Lb
 refine wk 6 ?_;refine asp 52 (fun hb9=>?_) fun hb9=>?_
 .
  refine wk 7 ?_;refine BH 57 (fun hb10=>?_) fun hb10=>?_
  .
   refine wk 5 ?_;refine BH 62 (fun hb11=>?_) fun hb11=>?_
   .
    refine wk 6 ?_;exact Lb
   refine wk 6 ?_;exact Lb
  refine wk 11 ?_;exact Lb
 refine wk 6 ?_;exact Lb
theorem bK(z R i:Nat)(p:Nat->Bool)(hi:i<R)(hR:R<=100000):Ca Tryz.prog 250 [.ref z (nw R) 0 (nw R),.int .i64 (i:Int)] (Al hNew z (rt 1 (Dw R p))) (.tup []) (Al hNone z (rt 1 (Dw R (fun v=>p v||v==i)))):=by
 have hj:=gg hi;refine ACall.of_body (n:=14) Am Tryz.func250 rfl rfl ?_;refine wk 3 ?_;refine dq 6 (BB (r:=.int .i64 ((i/64:Nat):Int)) rfl rfl rfl (XW Ab)) ?_;refine dq 7 (An Am rfl rfl rfl rfl rfl rfl (Au _ _ _) (Cn _ _).symm rfl (Int.natCast_nonneg _) Ab) ?_;refine dq 8 (Aw Am rfl rfl rfl (.ptr _ _ _ _ _ _ _ (CK p (i/64)) (Au _ _ _) (Cn _ _).symm aZ) rfl) ?_;refine dm 9 ?_;refine dq 10 (BB (r:=.int .i64 ((i%64:Nat):Int)) rfl rfl rfl ga) ?_;refine dq 11 (BB (r:=.int .u64 ((wd (fun v=>v==i%64):Nat):Int)) rfl rfl rfl (Xg Ab)) ?_;refine dq 12 (BB rfl rfl rfl (lC (fun v=>p (64*(i/64)+v)) (fun v=>v==i%64))) ?_;refine dq 13 (An Am rfl rfl rfl rfl rfl rfl (Au _ _ _) (Cn _ _).symm rfl (Int.natCast_nonneg _) Ab) ?_;refine DOps.w rfl rfl (Be Am (es:=Dw R p) (cs:=CK p (i/64)) rfl rfl rfl rfl rfl (Au _ _ _) (Cn _ _).symm aZ rfl A7 rfl (fun _=>rfl)) ?_
 refine wk 1 ?_;refine⟨[],trivial,rfl,HSub.put (HSub.none _) ((Au _ _ _).trans (congrArg (fun es=>some (rt 1 es)) ?_))⟩;rw[Nat.zero_add,Int.toNat_natCast];exact(congrArg ((Dw R p).set (i/64)) (RQ p i)).symm.trans (Qg (fun v hv=>by
  have:(v==i)=false:=by rw[beq_eq_false_iff_ne];intro e;exact hv (by rw[e])
  simp[this]))
theorem iO(z R i:Nat)(p:Nat->Bool)(hi:i<R)(hR:R<=100000):Ca Tryz.prog 252 [.ref z (nw R) 0 (nw R),.int .i64 (i:Int)] (Al hNew z (rt 1 (Dw R p))) (.tup []) (Al hNone z (rt 1 (Dw R (fun v=>p v&& !(v==i))))):=by
 have hj:=gg hi;refine ACall.of_body (n:=14) Am Tryz.func252 rfl rfl ?_;refine wk 3 ?_;refine dq 6 (BB (r:=.int .i64 ((i/64:Nat):Int)) rfl rfl rfl (XW Ab)) ?_;refine dq 7 (An Am rfl rfl rfl rfl rfl rfl (Au _ _ _) (Cn _ _).symm rfl (Int.natCast_nonneg _) Ab) ?_;refine dq 8 (Aw Am rfl rfl rfl (.ptr _ _ _ _ _ _ _ (CK p (i/64)) (Au _ _ _) (Cn _ _).symm aZ) rfl) ?_;refine dm 9 ?_;refine dq 10 (BB (r:=.int .i64 ((i%64:Nat):Int)) rfl rfl rfl ga) ?_;refine dq 11 (BB (r:=.int .u64 ((wd (fun v=>v==i%64):Nat):Int)) rfl rfl rfl (Xg Ab)) ?_;refine dq 12 (BB rfl rfl rfl (U1 (fun v=>p (64*(i/64)+v)) (fun v=>v==i%64))) ?_;refine dq 13 (An Am rfl rfl rfl rfl rfl rfl (Au _ _ _) (Cn _ _).symm rfl (Int.natCast_nonneg _) Ab) ?_;refine DOps.w rfl rfl (Be Am (es:=Dw R p) (cs:=CK p (i/64)) rfl rfl rfl rfl rfl (Au _ _ _) (Cn _ _).symm aZ rfl A7 rfl (fun _=>rfl)) ?_
 refine wk 1 ?_;refine⟨[],trivial,rfl,HSub.put (HSub.none _) ((Au _ _ _).trans (congrArg (fun es=>some (rt 1 es)) ?_))⟩;rw[Nat.zero_add,Int.toNat_natCast];exact(congrArg ((Dw R p).set (i/64)) (U0 p i)).symm.trans (Qg (fun v hv=>by
  have:(v==i)=false:=by rw[beq_eq_false_iff_ne];intro e;exact hv (by rw[e])
  simp[this]))
theorem Qj(z R:Nat)(hR:R<=100000):Ca Tryz.prog 209 [.int .i64 (R:Int)] (Al hNew z .free) (.ref z (nw R) 0 (nw R)) (Al hNone z (rt 1 (Dw R (fun _=>false)))):=by
 refine ACall.of_body (n:=7) Am Tryz.func209 rfl rfl ?_;refine wk 7 ?_;refine aq 4 (BB (r:=.int .i64 ((R+63:Nat):Int)) rfl rfl rfl (ZS (a:=R) (b:=63) (No Ab))) ?_;refine aq 5 (BB (r:=.int .i64 ((nw R:Nat):Int)) rfl rfl rfl (XW Ab)) ?_;refine ax 6 (B7 Am (n:=nw R) (m:=nw R) z true rfl rfl rfl rfl rfl rfl rfl rfl (Au _ _ _) rfl (Nat.zero_lt_succ _) rfl (Nat.le_refl _) (by unfold nw;show 8*_<=_;omega) (by unfold nw;simp only[maxLen];omega)) ?_;refine wk 3 ?_;refine⟨[_],⟨rfl,trivial⟩,rfl,HSub.put (HSub.none _) ((Au _ _ _).trans (congrArg (fun es=>some (rt 1 es)) (Vl R)))⟩
end Go.Proofs.YtijlphdockhgjaaGreatDoor.Sv
namespace Go.Proofs.YtijlphdockhgjaaGreatDoor.Sv
open Go Go.RowKit Go.Shelf
abbrev Kk(N:Nat):={k:Nat//k<N}
def leftOf:Value->Nat
  | .int _ i=>(i+1).toNat
  |_=>0
theorem XQ(k:Nat):(List.range (k+1)).reverse=k::(List.range k).reverse:=by
 rw[List.range_succ,List.reverse_append];rfl
theorem dR(l N b off:Nat)(hN:N<=1000000000)(J Jx:List (Kk N)->World->Prop)
 (hY:∀pre (x:Kk N) W,J pre W->pre.length<N->YieldAt Fence.wide 2 Tryz.prog l #[.int .i64 (x.1:Int)] W fun e W'=>
  (e=.returned (.bool true)/\J (pre++[x]) W'/\True)\/(e=.returned (.bool false)/\Jx (pre++[x]) W'))
 (W:World) (hB:W.cell? ⟨b,off,none⟩=some (.int .i64 (N:Int))) (h0:J [] W):
 CallsIn Fence.wide 3 Tryz.prog 275 #[.func (.yield l) #[] #[],.pointer (some ⟨b,off,none⟩)] W fun e W'=>(∃v,e=.returned v)/\
  ((∃xs:List (Kk N),xs.map (·.1)=(List.range N).reverse/\J xs W')\/(∃pre,True/\Jx pre W')):=by
 refine callsIn_of_wp Tryz.func275 rfl trivial ?_ rfl;simp only[Tryz.ntmps275,List.size_toArray,List.length_cons,List.length_nil,Nat.reduceAdd,Nat.reduceSub,Array.replicate_succ,Array.replicate_zero,List.push_toArray,List.append_toArray,List.nil_append,List.cons_append]
 gi_wp2
 gi_loopw [3] (fun p wr=>∃(m:Nat) (pre:List (Kk N)),p=.int .i64 ((m:Int)-1)/\pre.map (·.1)++(List.range m).reverse=(List.range N).reverse/\J pre wr)
  (fun p wr=>leftOf p)
 case atStart=>
  exact⟨N,[],rfl,rfl,h0⟩
 case round=>
  obtain⟨m,pre,rfl,hx,hJs⟩:=hrel;have hlen:=congrArg List.length hx;simp only[List.length_append,List.length_map,List.length_reverse,List.length_range]at hlen
  cases m with
  |zero=>
   gi_wp2
   exact⟨rfl,_,results_none rfl _ _ _,⟨_,rfl⟩,.inl ⟨pre,by simpa using hx,hJs⟩⟩
  |succ k=>
   have hk:k<N:=by omega
   obtain⟨fn,tmps,assign,body,hy,hR⟩:=hY pre ⟨k,hk⟩ wr hJs Ab;dsimp only at hy
   gi_wp2
   refine hR.mono ?_
   rintro e W3 (⟨rfl,hJ3,_⟩|⟨rfl,hJx3⟩)
   . gi_wp2
     refine⟨⟨k,pre++[⟨k,hk⟩],rfl,?_,hJ3⟩,?_⟩
     . rw[List.map_append,<-hx,XQ];simp only[List.map_cons,List.map_nil,List.append_assoc,List.cons_append,List.nil_append]
     . show((k:Int)-1+1).toNat<(((k+1:Nat):Int)-1+1).toNat;omega
   . gi_wp2
     exact⟨rfl,_,results_none rfl _ _ _,⟨_,rfl⟩,.inr ⟨_,trivial,hJx3⟩⟩
theorem S8{N:Nat}(hN:N<=1000000000){H:Aq}{ι:AL}{h:Aa}{w:World}(hr:HeapRel H ι h w)(lb:Array Value)(hl:lb.size=[AV.loc [.int .i64 (N:Int)]].length)
 (hlb:∀(j:Nat) (x:AV) (v:Value),[AV.loc [.int .i64 (N:Int)]][j]?=some x->lb[j]?=some v->Rel H ι x v):
 SeqStopsK Fence.wide 3 Tryz.prog 275 lb (fun x:Kk N=> #[.int .i64 (x.1:Int)]) (fun _ _=>True) (fun xs=>xs.map (·.1)=(List.range N).reverse) (fun _=>True) N w:=by
 intro l J Jx W hB hJ hJx hY h0;obtain⟨v,hv⟩:=(⟨lb[0]'(by rw[hl];exact Nat.zero_lt_one),Array.getElem?_eq_getElem _⟩:∃v,lb[0]?=some v);have hlb2:lb= #[v]:=by
  cases lb with
  |mk L=>cases L with
   |nil=>simp at hv
   |cons y L=>cases L with
    |nil=>simp at hv;rw[hv]
    |cons z L=>simp at hl
 subst hlb2;obtain⟨b,off,c,vals,rfl,hb,hcv,hcr,_⟩:=(hlb 0 _ v rfl hv).loc_inv;have e1:=hcv 0 _ rfl;have e2:=hcr 0 _ rfl
 cases e2_:vals 0 with
 |int k i=>
  rw[e2_]at e2 e1
  cases e2
  obtain⟨T,fr,e3⟩:=hr.know b c hb;have e4:W.heap[b]?=some (.cells c T fr):=by
   have:=hB.block b (Array.getElem?_eq_some_iff.1 e3).1;exact this.trans e3
  refine(dR l N b off hN J Jx hY W ?_ h0).mono ?_
  . unfold World.cell?;rw[e4];exact e1
  . intro e W' hp;exact hp
 |_=>rw[e2_]at e2;cases e2
theorem dP(n:Int):Ca Tryz.prog 251 [.int .i64 n] hNew (.fn (.func 275) [] [.loc [.int .i64 n]]) hNone:=by
 refine ACall.of_body (n:=4) Am Tryz.func251 rfl rfl ?_;refine Gy ?_;refine ax 1 (Dn 1 0) ?_;refine WN 2 rfl rfl rfl rfl ?_;refine wk 2 ?_;refine AGo.ghost (.plain 0 rfl (by intro cs hc;simp at hc;subst hc;rfl)) ?_;refine AGo.ghost (.freezeP 1 0 rfl rfl) ?_;refine j7 ?_;refine aq 3 (Ig rfl rfl rfl) ?_;refine wk 3 ?_;exact⟨[_],⟨rfl,trivial⟩,rfl,HSub.none _⟩
end Go.Proofs.YtijlphdockhgjaaGreatDoor.Sv
namespace Go.Proofs.YtijlphdockhgjaaGreatDoor.Sv
open Go
theorem LN(z R:Nat)(i:Int)(p:Nat->Bool)(h0:0<=i)(hi:i<R)(hR:R<=100000):Ca Tryz.prog 250 [.ref z (nw R) 0 (nw R),.int .i64 i] (Al hNew z (Fd R p)) (.tup []) (Al hNone z (Fd R (fun v=>p v||v==i.toNat))):=by
 have:=bK z R i.toNat p Ab hR;rw[Int.toNat_of_nonneg h0]at this;exact this
theorem bD(z R:Nat)(i:Int)(p:Nat->Bool)(h0:0<=i)(hi:i<R)(hR:R<=100000):Ca Tryz.prog 252 [.ref z (nw R) 0 (nw R),.int .i64 i] (Al hNew z (Fd R p)) (.tup []) (Al hNone z (Fd R (fun v=>p v&& !(v==i.toNat)))):=by
 have:=iO z R i.toNat p Ab hR;rw[Int.toNat_of_nonneg h0]at this;exact this
theorem io(x:Block):tR x []=MF x:=rfl
theorem il(x:Block):tS x []=fun _=>false:=rfl
theorem NM{R:Nat}{p:Nat->Bool}:((Dw R p).drop 0).take (nw R)=Dw R p:=by rw[List.drop_zero,List.take_of_length_le (by rw[Cn];exact Nat.le_refl _)]
attribute [local irreducible] Dw MF TW KT Fs tR tS
theorem Xx(x:Block)(R:Nat)(hR:R<=100000)(hi:x.ins.length<=100000)(hT:∀t∈x.ins,t.inR (R:Int))(hv:x.fin=2->0<=x.v/\x.v<R):Ca Tryz.prog 208 [.agg x.cells,.int .i64 (R:Int)] hNew (.tup [.lst false (Dw R (T1 x)),.lst false (Dw R (fun v=>Ga v x.ins))]) hNone:=by
 refine Hu (n:=57) Tryz.func208 rfl rfl ?_;intro H0 ι0 w0 hr;refine AW.seq hr ?_;refine j7 ?_;refine ax 2 (Dn 5 0) ?_;refine ax 4 (I7 Am 1) ?_;refine ax 5 (I7 Am 2) ?_;refine an ?_;refine AW.seq hr ?_;refine wk 2 ?_;refine ax 11 (JW (Qj 3 R hR) [3] [(3,(Fd R (fun _=>false)))] rfl Tryz.func209 Ay rfl rfl rfl ⟨⟨_,rfl,rfl⟩,trivial⟩ rfl C6 ⟨⟨_,rfl,rfl,rfl⟩,trivial⟩ rfl) ?_;refine wk 1 ?_;refine ax 13 (JW (Qj 4 R hR) [4] [(4,(Fd R (fun _=>false)))] rfl Tryz.func209 Ay rfl rfl rfl ⟨⟨_,rfl,rfl⟩,trivial⟩ rfl C6 ⟨⟨_,rfl,rfl,rfl⟩,trivial⟩ rfl) ?_;refine wk 3 ?_;refine AW.seq hr ?_;refine AGo.join (γ:=Unit) (fun _u=>⟨57,(Ad (Ad (Ad BC 2 (pZ 0)) 4 (pZ 1)) 5 (pZ 2)),(Al (Al (Al (Al (Al hNone 0 (rf 5 [x.cells])) 1 (rf 1 [[.ref 3 (nw R) 0 (nw R)]])) 2 (rf 1 [[.ref 4 (nw R) 0 (nw R)]])) 3 (Fd R (MF x))) 4 (Fd R (fun _=>false)))⟩) (fun _u=>True) ?_ ?_
 .
  refine wk 6 ?_;refine asp 16 (fun hb1=>?_) fun hb1=>?_
  .
   refine act ?_;have hfin:x.fin=2:=by simpa using hb1
   have hv2:=hv hfin
   skip
   refine wk 4 ?_;refine ax 20 (JW (LN 3 R x.v (fun _=>false) hv2.1 hv2.2 hR) [3] [(3,(Fd R (fun v=>(fun _=>false) v||v==x.v.toNat)))] rfl Tryz.func250 Ay rfl rfl rfl ⟨⟨_,rfl,rfl⟩,trivial⟩ rfl C6 ⟨⟨_,rfl,rfl,rfl⟩,trivial⟩ rfl) ?_;refine an ?_;exact kW
  refine BK ?_;have hfin:¬x.fin=2:=by simpa using hb1
  refine vE ?_;exact kW
 intro _ _;refine UH ?_;refine AW.seq hr ?_;refine wk 4 ?_;refine ax 24 (Yz (r:=(.fn (.func 275) [] [.loc [.int .i64 (x.ins.length:Int)]])) (hc:=hNew) (hw:=hNone) [] [] rfl Tryz.func251 Ay rfl rfl rfl trivial rfl C6 trivial rfl (by rw[List.length_map];exact dP _)) ?_;refine an ?_;refine AW.range hr (α:=Kk x.ins.length) (S:=fun xs=>xs.map (·.1)=(List.range x.ins.length).reverse) (N:=x.ins.length) rfl rfl rfl (by show 25<57;decide) (by show 6<57;decide) A7 rfl (fun _ _=>rfl) (fun q=>.int .i64 (q.1:Int)) (fun q=>.int .i64 (q.1:Int)) (fun _ _ _=>.int _ _ _) (fun H ι w hh lb h1 h2=>S8 Ab hh lb h1 h2) (Ad (Ad (Ad BC 2 (pZ 0)) 4 (pZ 1)) 5 (pZ 2)) (fun pre=>(Al (Al (Al (Al (Al hNone 0 (rf 5 [x.cells])) 1 (rf 1 [[.ref 3 (nw R) 0 (nw R)]])) 2 (rf 1 [[.ref 4 (nw R) 0 (nw R)]])) 3 (Fd R ((tR x (pre.map (·.1)))))) 4 (Fd R ((tS x (pre.map (·.1))))))) Fc bg (fun _=>bg) (by repeat(first|exact HSub.refl _|exact HSub.none _|exact Bb _|exact A5 FJ|refine HSub.put ?_ (by first|rfl|exact congrArg (fun p=>some (Fd R p)) (io x).symm|exact congrArg (fun p=>some (Fd R p)) (il x).symm)|refine Ba ?_ FJ|refine Bm ?_ A7)) ?_ ?_
 .
  intro l pre q hlt;obtain⟨t,ht⟩:=Ag q.2;have hin:=hT t (List.mem_of_getElem? ht);refine AGoR.block ?_;refine AGoR.seq ?_;refine AGoR.seq ?_;refine AGoR.region rfl ?_;refine wk 3 ?_;refine aq 29 (F6 Am (AG ht)) ?_;refine wk 1 ?_;refine ax 31 (CR Tryz.func204 (Z8 _)) ?_;refine wk 2 ?_;refine AGoR.seq ?_;refine AGoR.region rfl ?_;refine wk 3 ?_;refine AGoR.join (γ:=Unit) (fun _u=>⟨57,(Ad (Ad (Ad (Ad (Ad BC 2 (pZ 0)) 4 (pZ 1)) 5 (pZ 2)) 25 (iN q.1)) 6 (iN q.1)),(Al (Al (Al (Al (Al hNone 0 (rf 5 [x.cells])) 1 (rf 1 [[.ref 3 (nw R) 0 (nw R)]])) 2 (rf 1 [[.ref 4 (nw R) 0 (nw R)]])) 3 (Fd R (TW t (tR x (pre.map (·.1)))))) 4 (Fd R (KT t (tS x (pre.map (·.1))))))⟩) (fun _u=>True) ?_ ?_
  .
   refine AGoR.split 33 rfl (fun hb2=>?_) (fun hb2=>?_)
   .
    refine AGoR.cond_true true rfl rfl ?_;have hsp:0<=t.sets:=by simpa using hb2
    have hs1:t.sets<R:=by have:=hin.1 (IT (by simpa using hb2));rw[bA (IT (by simpa using hb2))];omega
    refine AGoR.seq ?_;refine AGoR.region rfl ?_;refine wk 2 ?_;refine ax 36 (JW (bD 3 R t.sets (tR x (pre.map (·.1))) hsp hs1 hR) [3] [(3,(Fd R (fun v=>(tR x (pre.map (·.1))) v&& !(v==t.sets.toNat))))] rfl Tryz.func252 Ay rfl rfl rfl ⟨⟨_,rfl,rfl⟩,trivial⟩ rfl C6 ⟨⟨_,rfl,rfl,rfl⟩,trivial⟩ rfl) ?_;refine an ?_;refine AGoR.region rfl ?_;refine wk 2 ?_;refine ax 39 (JW (LN 4 R t.sets (tS x (pre.map (·.1))) hsp hs1 hR) [4] [(4,(Fd R (fun v=>(tS x (pre.map (·.1))) v||v==t.sets.toNat)))] rfl Tryz.func250 Ay rfl rfl rfl ⟨⟨_,rfl,rfl⟩,trivial⟩ rfl C6 ⟨⟨_,rfl,rfl,rfl⟩,trivial⟩ rfl) ?_;refine an ?_;exact k8
   refine AGoR.cond_false false rfl rfl ?_;have hsp:¬0<=t.sets:=by simpa using hb2
   refine AGoR.skip ?_;exact k8
  intro _ _;refine AGoR.seq ?_;refine AGoR.region rfl ?_;refine wk 3 ?_;refine aq 43 (F6 Am (AG ht)) ?_;refine wk 1 ?_;refine ax 45 (CR Tryz.func206 (Z7 _)) ?_;refine wk 3 ?_;refine AGoR.block ?_;refine AGoR.loopI (γ:=Nat) (fun k=>⟨57,(Ad (Ad (Ad (Ad (Ad (Ad (Ad (Ad BC 2 (pZ 0)) 4 (pZ 1)) 5 (pZ 2)) 25 (iN q.1)) 6 (iN q.1)) 45 (Bt t.uses)) 46 (iN t.uses.length)) 47 (iN k)),(Al (Al (Al (Al (Al hNone 0 (rf 5 [x.cells])) 1 (rf 1 [[.ref 3 (nw R) 0 (nw R)]])) 2 (rf 1 [[.ref 4 (nw R) 0 (nw R)]])) 3 (Fd R (Fs (t.uses.take k) (TW t (tR x (pre.map (·.1))))))) 4 (Fd R (KT t (tS x (pre.map (·.1))))))⟩) (fun k=>True) (fun k=>t.uses.length-k) 0 (Sub.mk' (by repeat(first|exact ESub.new _|refine ESub.put ?_ (by first|rfl|exact congrArg (fun(n:Nat)=>some (AV.int .i64 (n:Int))) Az|exact congrArg (fun n:Nat=>some (AV.int .i64 (n:Int))) Az))) (by repeat(first|exact HSub.refl _|exact HSub.none _|exact Bb _|exact A5 FJ|refine HSub.put ?_ (by first|rfl|exact Cf (fun v=>by rw[List.take_zero];exact WG v))|refine Ba ?_ FJ|refine Bm ?_ A7))) trivial ?_
  intro k _;refine AGoR.seq ?_;refine AGoR.region rfl ?_;refine wk 2 ?_;refine AGoR.seq ?_;refine AGoR.split 48 rfl (fun hb3=>?_) (fun hb3=>?_)
  .
   refine AGoR.cond_true true rfl rfl ?_;have hkl:k<t.uses.length:=by have h:=hb3;simp[Bt]at h;exact h
   obtain⟨u,hu⟩:=Ag hkl;have hub:=hin.2 u (List.mem_of_getElem? hu);refine AGoR.skip ?_;refine AGoR.seq ?_;refine AGoR.block ?_;refine AGoR.seq ?_;refine AGoR.region rfl ?_;refine aq 49 (F6 Am (AG hu)) ?_;refine wk 3 ?_;refine AGoR.region rfl ?_;refine wk 2 ?_;refine ax 53 (JW (LN 3 R u (Fs (t.uses.take k) (TW t (tR x (pre.map (·.1))))) hub.1 hub.2 hR) [3] [(3,(Fd R (fun v=>(Fs (t.uses.take k) (TW t (tR x (pre.map (·.1))))) v||v==u.toNat)))] rfl Tryz.func250 Ay rfl rfl rfl ⟨⟨_,rfl,rfl⟩,trivial⟩ rfl C6 ⟨⟨_,rfl,rfl,rfl⟩,trivial⟩ rfl) ?_;refine an ?_;refine AGoR.region rfl ?_;refine aq 54 (Bw rfl rfl hkl (by have:=PV t;simp only[maxLen];omega)) ?_;refine wk 2 ?_;exact⟨k+1,Sub.mk' Fc (by repeat(first|exact HSub.refl _|exact HSub.none _|exact Bb _|exact A5 FJ|refine HSub.put ?_ (by first|rfl|exact Cf (Tn hu hub.1))|refine Ba ?_ FJ|refine Bm ?_ A7)),trivial,by omega⟩
  refine AGoR.cond_false false rfl rfl ?_;have hge:t.uses.length<=k:=by have h:=hb3;simp[Bt]at h;omega
  refine AGoR.exit ?_;show HSub _ _;exact(by repeat(first|exact HSub.refl _|exact HSub.none _|exact Bb _|exact A5 FJ|refine HSub.put ?_ (by first|rfl|exact Cf (fun v=>by rw[List.map_append,List.take_of_length_le hge];exact(congrFun (bq ht) v).symm)|exact Cf (fun v=>by rw[List.map_append];exact(congrFun (bp ht) v).symm))|refine Ba ?_ FJ|refine Bm ?_ A7))
 intro xs hS;dsimp only;rw[hS];refine AD.ghost hr (.freezeCell 1 0 0 3 rfl rfl rfl rfl (Cn _ _).symm A7) ?_;refine AD.ghost hr (.freezeCell 2 0 0 4 rfl rfl rfl rfl (Cn _ _).symm A7) ?_;rw[NM,NM];refine eu Am yH hr (by intro i o ho;rcases i with _|_|_|_|i<;>first|(cases ho;rfl)|(simp at ho)) bg ?_;refine wk 5 ?_;refine⟨bg,[.lst false _,.lst false _],⟨⟨_,_,_,_,rfl,rfl,.ptr _ _ _ _ _ _ _ _ rfl rfl rfl,rfl⟩,⟨_,_,_,_,rfl,rfl,.ptr _ _ _ _ _ _ _ _ rfl rfl rfl,rfl⟩,trivial⟩,?_,HSub.none _⟩;rw[show Dw R (T1 x)=_ from(Ia (ip x)).symm,show Dw R (fun v=>Ga v x.ins)=_ from(Ia (im x)).symm];rfl
end Go.Proofs.YtijlphdockhgjaaGreatDoor.Sv
namespace Go.Proofs.YtijlphdockhgjaaGreatDoor.Sv
open Go
theorem Rel.lstF{H:Aq}{ι:AL}{es:List (List AV)}{v:Value}(h:Rel H ι (.lst true es) v):Rel H ι (.lst false es) v:=by
 rcases h.lst_inv with⟨rfl,ad,cap,rfl,h1,h2,h3,h4⟩|⟨hne,b,off,cap,sz,c,vals,rfl,hb,hsz',hv,hr,hc1,hex,hcap,hmax⟩
 . exact .lst0 _ _ _ _ Fu h2 h3 h4
 . exact .lst ι false es b off cap sz c vals hne hb hsz' hv hr hc1 Fu hcap hmax
theorem APure.lstT{P:Program}{f:FuncId}{es:List (List AV)}{tl:List AV}{n:AV}{R:AV->Prop}(h:APure P f [.agg (.lst false es::tl),n] R):APure P f [.agg (.lst true es::tl),n] R:=fun H w vs ha hk=>h H w vs ⟨ha.1,fun j x v h1 h2=>by
 match j,h1 with
 |0,h1=>
  cases h1
  obtain⟨us,rfl,hl,hr⟩:=(ha.2 0 _ v rfl h2).agg_inv;refine .agg _ _ _ hl fun i y u e1 e2=>?_
  match i,e1 with
  |0,e1=>cases e1;exact(hr 0 _ u rfl e2).lstF
  |i+1,e1=>exact hr (i+1) y u e1 e2
 |j+1,h1=>exact ha.2 (j+1) x v h1 h2⟩ hk
def jA(R:Int)(t:Tac):Bool:=(!setsOp t.op||(decide (0<=t.d)&&decide (t.d<R)))&&t.uses.all fun u=>decide (0<=u)&&decide (u<R)
theorem V5{R:Int}{t:Tac}(h:jA R t=true):t.inR R:=by
 unfold jA at h;simp only[Bool.and_eq_true,Bool.or_eq_true,Bool.not_eq_true',List.all_eq_true,decide_eq_true_eq]at h;refine⟨fun hs=>?_,fun u hu=>h.2 u hu⟩;rcases h.1 with h1|h1
 . rw[h1]at hs;cases hs
 . exact h1
def R8(x:Block)(R:Nat):AV:=.tup [.lst false (Dw R (T1 x)),.lst false (Dw R (fun v=>Ga v x.ins))]
def OI(x:Block)(R:Nat):Bool:=decide (R<=100000)&&(decide (x.ins.length<=100000)&&(x.ins.all (jA R)&&(!(x.fin==2)||(decide (0<=x.v)&&decide (x.v<R)))))
theorem Xy(x:Block)(R:Nat)(h:OI x R=true):APure Tryz.prog 208 [.agg x.cells,.int .i64 (R:Int)] (fun r=>r=R8 x R):=by
 unfold OI at h;simp only[Bool.and_eq_true,Bool.or_eq_true,Bool.not_eq_true',List.all_eq_true,decide_eq_true_eq]at h;refine FF rfl (Xx x R h.1 h.2.1 (fun t ht=>V5 (h.2.2.1 t ht)) fun h2=>?_);rcases h.2.2.2 with h3|h3
 . rw[h2]at h3;cases h3
 . exact h3
theorem JJ(x:Block)(R:Nat){a:List AV}{v:AV}(h:OI x R=true)(ha:a=[.agg x.cells,.int .i64 (R:Int)])(hv:R8 x R=v):APure Tryz.prog 208 a (fun r=>r=v):=by
 subst ha;subst hv;exact Xy x R h
theorem Lp(x:Block)(R:Nat){a:List AV}{v:AV}{es:List (List AV)}{tl:List AV}(h:OI x R=true)(he:x.cells=.lst false es::tl)(ha:a=[.agg (.lst true es::tl),.int .i64 (R:Int)])(hv:R8 x R=v):APure Tryz.prog 208 a (fun r=>r=v):=by
 subst ha;subst hv;have:=Xy x R h;rw[he]at this;exact this.lstT
def WE:Block:=⟨[⟨4,0,0,0,0,0,0,0⟩,⟨9,0,0,0,0,0,0,0⟩],3,0,0,0⟩
theorem Vz:APure Tryz.prog 208 a_touch11 (fun r=>r=v_touch11):=Lp WE 2 Ay rfl rfl Ay
theorem VX{l:List Kn}(h:A2 Tryz.prog l):A2 Tryz.prog (⟨208,a_touch11,v_touch11⟩::l):=Cr Ay rfl Vz h
def WF:Block:=⟨[⟨4,0,0,0,0,2,0,0⟩,⟨5,0,0,0,0,1,0,0⟩,⟨10,0,0,0,0,0,0,0⟩,⟨4,0,0,0,0,3,0,0⟩,⟨5,0,0,0,0,0,0,0⟩,⟨8,0,0,0,0,0,0,0⟩,⟨5,0,0,0,0,2,0,0⟩],1,0,1,0⟩
theorem VA:APure Tryz.prog 208 a_touch10 (fun r=>r=v_touch10):=Lp WF 2 Ay rfl rfl Ay
theorem VY{l:List Kn}(h:A2 Tryz.prog l):A2 Tryz.prog (⟨208,a_touch10,v_touch10⟩::l):=Cr Ay rfl VA h
def ah:Block:=⟨[⟨4,0,0,0,0,2,0,0⟩,⟨1,1,0,0,0,0,0,256⟩,⟨3,0,0,1,14,0,0,0⟩],2,0,2,3⟩
theorem Ya:APure Tryz.prog 208 a_touch9 (fun r=>r=v_touch9):=Lp ah 2 Ay rfl rfl Ay
theorem Y6{l:List Kn}(h:A2 Tryz.prog l):A2 Tryz.prog (⟨208,a_touch9,v_touch9⟩::l):=Cr Ay rfl Ya h
def ai:Block:=⟨[⟨8,0,0,0,0,0,0,0⟩,⟨5,0,0,0,0,2,0,0⟩],1,0,1,0⟩
theorem Yb:APure Tryz.prog 208 a_touch8 (fun r=>r=v_touch8):=Lp ai 2 Ay rfl rfl Ay
theorem Y7{l:List Kn}(h:A2 Tryz.prog l):A2 Tryz.prog (⟨208,a_touch8,v_touch8⟩::l):=Cr Ay rfl Yb h
def aj:Block:=⟨[⟨4,0,0,0,0,0,0,0⟩,⟨4,1,0,0,0,1,0,0⟩,⟨3,0,0,1,4,0,0,0⟩,⟨5,0,0,0,0,3,0,0⟩],3,0,0,0⟩
theorem Yc:APure Tryz.prog 208 a_touch7 (fun r=>r=v_touch7):=Lp aj 2 Ay rfl rfl Ay
theorem Y8{l:List Kn}(h:A2 Tryz.prog l):A2 Tryz.prog (⟨208,a_touch7,v_touch7⟩::l):=Cr Ay rfl Yc h
def ap:Block:=⟨[⟨4,0,0,0,0,0,0,0⟩,⟨9,0,0,0,0,0,0,0⟩],3,0,0,0⟩
theorem Yd:APure Tryz.prog 208 a_touch6 (fun r=>r=v_touch6):=JJ ap 2 Ay rfl Ay
theorem Y9{l:List Kn}(h:A2 Tryz.prog l):A2 Tryz.prog (⟨208,a_touch6,v_touch6⟩::l):=Cr Ay rfl Yd h
def au:Block:=⟨[⟨4,0,0,0,0,2,0,0⟩,⟨5,0,0,0,0,1,0,0⟩,⟨10,0,0,0,0,0,0,0⟩,⟨4,0,0,0,0,3,0,0⟩,⟨5,0,0,0,0,0,0,0⟩,⟨8,0,0,0,0,0,0,0⟩,⟨5,0,0,0,0,2,0,0⟩],1,0,1,0⟩
theorem Ye:APure Tryz.prog 208 a_touch5 (fun r=>r=v_touch5):=JJ au 2 Ay rfl Ay
theorem Za{l:List Kn}(h:A2 Tryz.prog l):A2 Tryz.prog (⟨208,a_touch5,v_touch5⟩::l):=Cr Ay rfl Ye h
def aw:Block:=⟨[⟨4,0,0,0,0,2,0,0⟩,⟨1,1,0,0,0,0,0,256⟩,⟨3,0,0,1,14,0,0,0⟩],2,0,2,3⟩
theorem Yf:APure Tryz.prog 208 a_touch4 (fun r=>r=v_touch4):=JJ aw 2 Ay rfl Ay
theorem Zb{l:List Kn}(h:A2 Tryz.prog l):A2 Tryz.prog (⟨208,a_touch4,v_touch4⟩::l):=Cr Ay rfl Yf h
def ay:Block:=⟨[⟨8,0,0,0,0,0,0,0⟩,⟨5,0,0,0,0,2,0,0⟩],1,0,1,0⟩
theorem Yg:APure Tryz.prog 208 a_touch3 (fun r=>r=v_touch3):=JJ ay 2 Ay rfl Ay
theorem Zc{l:List Kn}(h:A2 Tryz.prog l):A2 Tryz.prog (⟨208,a_touch3,v_touch3⟩::l):=Cr Ay rfl Yg h
def az:Block:=⟨[⟨1,0,0,0,0,0,0,0⟩,⟨5,0,0,0,0,3,0,0⟩],3,0,0,0⟩
theorem Yh:APure Tryz.prog 208 a_touch2 (fun r=>r=v_touch2):=JJ az 2 Ay rfl Ay
theorem Zd{l:List Kn}(h:A2 Tryz.prog l):A2 Tryz.prog (⟨208,a_touch2,v_touch2⟩::l):=Cr Ay rfl Yh h
def aA:Block:=⟨[⟨4,0,0,0,0,0,0,0⟩,⟨4,1,0,0,0,1,0,0⟩,⟨3,0,0,1,4,0,0,0⟩,⟨5,0,0,0,0,3,0,0⟩],3,0,0,0⟩
theorem Yi:APure Tryz.prog 208 a_touch1 (fun r=>r=v_touch1):=JJ aA 2 Ay rfl Ay
theorem Ze{l:List Kn}(h:A2 Tryz.prog l):A2 Tryz.prog (⟨208,a_touch1,v_touch1⟩::l):=Cr Ay rfl Yi h
theorem cg:APure Tryz.prog 112 a_opt_1 (fun r=>r=v_opt_1):=Bz (l:=[]) AY 12 4000 Ay
theorem c8{l:List Kn}(h:A2 Tryz.prog l):A2 Tryz.prog (⟨112,a_opt_1,v_opt_1⟩::l):=Cr Ay rfl cg h
theorem cd:APure Tryz.prog 112 a_opt_2 (fun r=>r=v_opt_2):=Bz (l:=[]) AY 12 4000 Ay
theorem cZ{l:List Kn}(h:A2 Tryz.prog l):A2 Tryz.prog (⟨112,a_opt_2,v_opt_2⟩::l):=Cr Ay rfl cd h
theorem ca:APure Tryz.prog 112 a_opt_3 (fun r=>r=v_opt_3):=Bz (l:=[⟨208,a_touch1,v_touch1⟩,⟨208,a_touch2,v_touch2⟩]) (Ze (Zd AY)) 12 4000 Ay
theorem cY{l:List Kn}(h:A2 Tryz.prog l):A2 Tryz.prog (⟨112,a_opt_3,v_opt_3⟩::l):=Cr Ay rfl ca h
theorem bZ:APure Tryz.prog 112 a_opt_4 (fun r=>r=v_opt_4):=Bz (l:=[]) AY 12 4000 Ay
theorem cX{l:List Kn}(h:A2 Tryz.prog l):A2 Tryz.prog (⟨112,a_opt_4,v_opt_4⟩::l):=Cr Ay rfl bZ h
theorem bY:APure Tryz.prog 112 a_opt_5 (fun r=>r=v_opt_5):=Bz (l:=[]) AY 12 4000 Ay
theorem cW{l:List Kn}(h:A2 Tryz.prog l):A2 Tryz.prog (⟨112,a_opt_5,v_opt_5⟩::l):=Cr Ay rfl bY h
theorem bX:APure Tryz.prog 112 a_opt_6 (fun r=>r=v_opt_6):=Bz (l:=[]) AY 12 4000 Ay
theorem cV{l:List Kn}(h:A2 Tryz.prog l):A2 Tryz.prog (⟨112,a_opt_6,v_opt_6⟩::l):=Cr Ay rfl bX h
theorem bW:APure Tryz.prog 112 a_opt_7 (fun r=>r=v_opt_7):=Bz (l:=[⟨208,a_touch3,v_touch3⟩,⟨208,a_touch4,v_touch4⟩,⟨208,a_touch5,v_touch5⟩,⟨208,a_touch6,v_touch6⟩]) (Zc (Zb (Za (Y9 AY)))) 12 4000 Ay
theorem cU{l:List Kn}(h:A2 Tryz.prog l):A2 Tryz.prog (⟨112,a_opt_7,v_opt_7⟩::l):=Cr Ay rfl bW h
theorem bV:APure Tryz.prog 112 a_opt_8 (fun r=>r=v_opt_8):=Bz (l:=[]) AY 12 4000 Ay
theorem cS{l:List Kn}(h:A2 Tryz.prog l):A2 Tryz.prog (⟨112,a_opt_8,v_opt_8⟩::l):=Cr Ay rfl bV h
theorem ud:APure Tryz.prog 67 a_opt (fun r=>r=v_opt):=Bz (l:=[⟨112,a_opt_1,v_opt_1⟩,⟨112,a_opt_2,v_opt_2⟩,⟨112,a_opt_3,v_opt_3⟩,⟨112,a_opt_4,v_opt_4⟩,⟨112,a_opt_5,v_opt_5⟩,⟨112,a_opt_6,v_opt_6⟩,⟨112,a_opt_7,v_opt_7⟩,⟨112,a_opt_8,v_opt_8⟩]) (c8 (cZ (cY (cX (cW (cV (cU (cS AY)))))))) 12 4000 Ay
theorem uF{l:List Kn}(h:A2 Tryz.prog l):A2 Tryz.prog (⟨67,a_opt,v_opt⟩::l):=Cr Ay rfl ud h
theorem cn:APure Tryz.prog 70 a_live1 (fun r=>r=v_live1):=Bz (l:=[⟨208,a_touch7,v_touch7⟩]) (Y8 AY) 12 4000 Ay
theorem dc{l:List Kn}(h:A2 Tryz.prog l):A2 Tryz.prog (⟨70,a_live1,v_live1⟩::l):=Cr Ay rfl cn h
theorem cm:APure Tryz.prog 70 a_live2 (fun r=>r=v_live2):=Bz (l:=[⟨208,a_touch8,v_touch8⟩,⟨208,a_touch9,v_touch9⟩,⟨208,a_touch10,v_touch10⟩,⟨208,a_touch11,v_touch11⟩]) (Y7 (Y6 (VY (VX AY)))) 12 4000 Ay
theorem db{l:List Kn}(h:A2 Tryz.prog l):A2 Tryz.prog (⟨70,a_live2,v_live2⟩::l):=Cr Ay rfl cm h
theorem Yo:APure Tryz.prog 69 a_alloc1 (fun r=>r=v_alloc1):=Bz (l:=[]) AY 12 4000 Ay
theorem Zl{l:List Kn}(h:A2 Tryz.prog l):A2 Tryz.prog (⟨69,a_alloc1,v_alloc1⟩::l):=Cr Ay rfl Yo h
theorem Yn:APure Tryz.prog 69 a_alloc2 (fun r=>r=v_alloc2):=Bz (l:=[]) AY 12 4000 Ay
theorem Zk{l:List Kn}(h:A2 Tryz.prog l):A2 Tryz.prog (⟨69,a_alloc2,v_alloc2⟩::l):=Cr Ay rfl Yn h
theorem cq:APure Tryz.prog 15 a_exec1 (fun r=>r=v_exec1):=Bz (l:=[⟨40,a_start1,v_start1⟩,⟨39,a_go1,v_go1⟩]) (Zi (uH AY)) 12 4000 Ay
theorem dg{l:List Kn}(h:A2 Tryz.prog l):A2 Tryz.prog (⟨15,a_exec1,v_exec1⟩::l):=Cr Ay rfl cq h
theorem cp:APure Tryz.prog 15 a_exec2 (fun r=>r=v_exec2):=Bz (l:=[⟨40,a_start2,v_start2⟩,⟨39,a_go2,v_go2⟩]) (Zh (uG AY)) 12 4000 Ay
theorem de{l:List Kn}(h:A2 Tryz.prog l):A2 Tryz.prog (⟨15,a_exec2,v_exec2⟩::l):=Cr Ay rfl cp h
theorem cu:APure Tryz.prog 4 d7 (fun r=>r=bl):=Bz (l:=[⟨11,a_src,v_src⟩,⟨12,a_image,v_image⟩,⟨60,a_sound,v_sound⟩,⟨26,a_core,v_core⟩,⟨68,a_build,v_build⟩,⟨67,a_opt,v_opt⟩,⟨70,a_live1,v_live1⟩,⟨70,a_live2,v_live2⟩,⟨69,a_alloc1,v_alloc1⟩,⟨69,a_alloc2,v_alloc2⟩,⟨14,a_mean,v_mean⟩,⟨16,a_steps1,v_steps1⟩,⟨16,a_steps2,v_steps2⟩,⟨15,a_exec1,v_exec1⟩,⟨15,a_exec2,v_exec2⟩]) (uE (dd (cR (Zj (dh (uF (dc (db (Zl (Zk (jn (Zg (Zf (dg (de AY))))))))))))))) 12 4000 Ay
theorem dG(k:Int):Pu Tryz.prog 45 [.int .i64 k] (.tup [.val (Qw k),.bool (EB k)]):=by
 refine APure.of_body (n:=28) Am Tryz.func45 rfl rfl ?_;refine wk 9 ?_;refine ax 4 (I7 Am 0) ?_;refine wk 13 ?_;refine asp 8 (fun hb1=>?_) fun hb1=>?_
 .
  refine act ?_;have hk1:k=1:=by simpa using hb1
  subst hk1;refine wk 4 ?_;refine aq 12 (I0 Am rfl rfl rfl rfl ED) ?_;exact Ty
 refine BK ?_;have hn1:k≠1:=by simpa using hb1
 refine wk 5 ?_;refine asp 13 (fun hb2=>?_) fun hb2=>?_
 .
  refine act ?_;have hk2:k=2:=by simpa using hb2
  subst hk2;refine wk 4 ?_;refine aq 17 (I0 Am rfl rfl rfl rfl ED) ?_;exact Ty
 refine BK ?_;have hn2:k≠2:=by simpa using hb2
 refine wk 5 ?_;refine asp 18 (fun hb3=>?_) fun hb3=>?_
 .
  refine act ?_;have hk3:k=3:=by simpa using hb3
  subst hk3;refine wk 4 ?_;refine aq 22 (I0 Am rfl rfl rfl rfl ED) ?_;exact Ty
 refine BK ?_;have hn3:k≠3:=by simpa using hb3
 refine wk 5 ?_;refine asp 23 (fun hb4=>?_) fun hb4=>?_
 .
  refine act ?_;have hk4:k=4:=by simpa using hb4
  subst hk4;refine wk 4 ?_;refine aq 27 (I0 Am rfl rfl rfl rfl ED) ?_;exact Ty
 refine BK ?_;have hn4:k≠4:=by simpa using hb4
 refine wk 7 ?_;refine⟨[_,_],⟨rfl,rfl,trivial⟩,?_,rfl⟩;rw[X9 hn1 hn2 hn3 hn4,cQ hn1 hn2 hn3 hn4];rfl
theorem J9(k:Int)(v:Value)(f:BFunc)(p:OPass)(hV:Pu Tryz.prog 300 [.agg f.cells,.agg p.f.cells,.agg p.cert.cells] (.bool (Cg f p.f p.cert))):Pu Tryz.prog 298 [.agg [.int .i64 k,.val v],.agg f.cells,.agg p.cells] (.bool (p.paths.isEmpty&&Cg f p.f p.cert)):=by
 refine APure.of_body (n:=19) Am Tryz.func298 rfl rfl ?_;refine Gy ?_;refine ax 3 (Dn 2 0) ?_;refine ax 4 (Dn 2 1) ?_;refine ax 5 (Dn 5 2) ?_;refine wk 9 ?_;refine BH 11 (fun hb1=>?_) fun hb1=>?_
 .
  refine wk 5 ?_;refine ax 17 (CR Tryz.func300 (hV)) ?_;refine wk 3 ?_;exact fj
 refine wk 9 ?_;exact fj
theorem VZ(k:Int)(f:BFunc)(p:OPass)(hT:Pu Tryz.prog 314 [.agg f.cells,.agg p.f.cells,AS p.paths] (.bool (CE f p.f p.paths))):Pu Tryz.prog 312 [.agg [.int .i64 k],.agg f.cells,.agg p.cells] (.bool (p.cert.same.isEmpty&&CE f p.f p.paths)):=by
 refine APure.of_body (n:=20) Am Tryz.func312 rfl rfl ?_;refine Gy ?_;refine ax 3 (Dn 1 0) ?_;refine ax 4 (Dn 2 1) ?_;refine ax 5 (Dn 5 2) ?_;refine wk 10 ?_;refine BH 12 (fun hb1=>?_) fun hb1=>?_
 .
  refine wk 5 ?_;refine ax 18 (CR Tryz.func314 (hT)) ?_;refine wk 3 ?_;exact fo
 refine wk 9 ?_;exact fo
theorem SV{p:OPass}{f:BFunc}(hk:EB p.kind=true)(hV:Pu Tryz.prog 300 [.agg f.cells,.agg p.f.cells,.agg p.cert.cells] (.bool (Cg f p.f p.cert)))(hT:Pu Tryz.prog 314 [.agg f.cells,.agg p.f.cells,AS p.paths] (.bool (CE f p.f p.paths))):HP p f:=by
 unfold HP;rw[Zo hk];rcases Mi hk with h|h|h|h<;>rw[h]
 . exact J9 1 _ f p hV
 . exact J9 2 _ f p hV
 . exact J9 3 _ f p hV
 . exact VZ 4 f p hT
theorem ac(words f regs blocks:Int)(t:Tac)(hw:0<=words)(hw2:words<=1048576):APure Tryz.prog 83 [(.agg [.int .i64 words,.int .i64 f,.int .i64 regs,.int .i64 blocks]),.agg t.cells] (fun q=>q=.bool (t.rest2 f words)):=by
 refine APure.of_body (n:=115) Am Tryz.func83 rfl rfl ?_;refine Gy ?_;refine ax 2 (Dn 4 0) ?_;refine ax 3 (Dn 8 1) ?_;refine wk 4 ?_;refine AGo.join (γ:=Unit) (fun _u=>⟨115,(Ad (Ad (Ad BC 2 (pZ 0)) 3 (pZ 1)) 23 (.bool ((t.op !=1&&t.n !=0)||(t.op !=3&&t.k !=0)))),(Al (Al (AU 2) 0 (rf 4 [[.int .i64 words,.int .i64 f,.int .i64 regs,.int .i64 blocks]])) 1 (rf 8 [t.cells]))⟩) (fun _u=>True) ?_ ?_
 .
  refine wk 5 ?_;refine BH 9 (fun hb1=>?_) fun hb1=>?_
  .
   refine wk 5 ?_;refine BH 14 (fun hb2=>?_) fun hb2=>?_
   .
    refine wk 10 ?_;exact aR
   refine wk 4 ?_;refine BH 18 (fun hb3=>?_) fun hb3=>?_
   .
    refine wk 6 ?_;exact aR
   refine wk 6 ?_;exact aR
  refine wk 9 ?_;refine BH 18 (fun hb4=>?_) fun hb4=>?_
  .
   refine wk 6 ?_;exact aR
  refine wk 6 ?_;exact aR
 intro _u _;refine asp 23 (fun hb5=>?_) fun hb5=>?_
 .
  refine wk 5 ?_;exact HQ
 refine BK ?_;have hq1:=hb5;refine wk 2 ?_;refine AGo.join (γ:=Unit) (fun _u=>⟨115,(Ad (Ad (Ad BC 2 (pZ 0)) 3 (pZ 1)) 5 (.bool (Dd t.op))),(Al (Al (AU 2) 0 (rf 4 [[.int .i64 words,.int .i64 f,.int .i64 regs,.int .i64 blocks]])) 1 (rf 8 [t.cells]))⟩) (fun _u=>True) ?_ ?_
 .
  refine wk 5 ?_;refine BH 27 (fun hb6=>?_) fun hb6=>?_
  .
   refine wk 6 ?_;exact aR
  refine wk 6 ?_;exact aR
 intro _u _;refine wk 2 ?_;refine AGo.join (γ:=Unit) (fun _u=>⟨115,(Ad (Ad (Ad BC 2 (pZ 0)) 3 (pZ 1)) 38 (.bool (!Dd t.op&&t.size !=0))),(Al (Al (AU 2) 0 (rf 4 [[.int .i64 words,.int .i64 f,.int .i64 regs,.int .i64 blocks]])) 1 (rf 8 [t.cells]))⟩) (fun _u=>True) ?_ ?_
 .
  refine wk 4 ?_;refine BH 34 (fun hb7=>?_) fun hb7=>?_
  .
   refine wk 5 ?_;exact aR
  refine wk 5 ?_;exact aR
 intro _u _;refine asp 38 (fun hb8=>?_) fun hb8=>?_
 .
  refine wk 5 ?_;exact HQ
 refine BK ?_;have hq2:=hb8;refine wk 14 ?_;refine asp 41 (fun hb9=>?_) fun hb9=>?_
 .
  refine wk 10 ?_;exact HQ
 refine wk 6 ?_;refine asp 41 (fun hb10=>?_) fun hb10=>?_
 .
  refine wk 10 ?_;exact HQ
 refine wk 6 ?_;refine asp 41 (fun hb11=>?_) fun hb11=>?_
 .
  refine wk 10 ?_;exact HQ
 refine wk 5 ?_;refine asp 41 (fun hb12=>?_) fun hb12=>?_
 .
  refine wk 8 ?_;exact HQ
 refine wk 6 ?_;refine asp 49 (fun hb13=>?_) fun hb13=>?_
 .
  refine wk 7 ?_;refine BH 54 (fun hb14=>?_) fun hb14=>?_
  .
   refine wk 5 ?_;refine BH 59 (fun hb15=>?_) fun hb15=>?_
   .
    refine wk 6 ?_;exact HQ
   refine wk 6 ?_;exact HQ
  refine wk 11 ?_;exact HQ
 refine wk 7 ?_;refine asp 64 (fun hb16=>?_) fun hb16=>?_
 .
  refine wk 9 ?_;refine BH 70 (fun hb17=>?_) fun hb17=>?_
  .
   refine wk 8 ?_;exact HQ
  refine wk 8 ?_;exact HQ
 refine wk 5 ?_;refine asp 64 (fun hb18=>?_) fun hb18=>?_
 .
  refine wk 7 ?_;refine BH 70 (fun hb19=>?_) fun hb19=>?_
  .
   refine wk 8 ?_;exact HQ
  refine wk 8 ?_;exact HQ
 refine wk 7 ?_;refine asp 77 (fun hb20=>?_) fun hb20=>?_
 .
  refine wk 9 ?_;refine BH 83 (fun hb21=>?_) fun hb21=>?_
  .
   refine wk 5 ?_;refine BH 88 (fun hb22=>?_) fun hb22=>?_
   .
    refine wk 5 ?_;refine BH 93 (fun hb23=>?_) fun hb23=>?_
    .
     refine wk 11 ?_;exact ew
    refine wk 11 ?_;exact ew
   refine wk 16 ?_;exact ew
  refine wk 21 ?_;exact ew
 refine wk 5 ?_;refine asp 77 (fun hb24=>?_) fun hb24=>?_
 .
  refine wk 7 ?_;refine BH 83 (fun hb25=>?_) fun hb25=>?_
  .
   refine wk 5 ?_;refine BH 88 (fun hb26=>?_) fun hb26=>?_
   .
    refine wk 5 ?_;refine BH 93 (fun hb27=>?_) fun hb27=>?_
    .
     refine wk 11 ?_;exact ew
    refine wk 11 ?_;exact ew
   refine wk 16 ?_;exact ew
  refine wk 21 ?_;exact ew
 refine wk 6 ?_;refine asp 103 (fun hb28=>?_) fun hb28=>?_
 .
  refine wk 7 ?_;refine BH 108 (fun hb29=>?_) fun hb29=>?_
  .
   refine wk 8 ?_;exact HQ
  refine wk 8 ?_;exact HQ
 refine wk 6 ?_;exact HQ
theorem dU(words f regs blocks:Int)(t:Tac)(hw:0<=words)(hw2:words<=1048576):APure Tryz.prog 44 [(.agg [.int .i64 words,.int .i64 f,.int .i64 regs,.int .i64 blocks]),.agg t.cells] (fun q=>q=.bool (t.fits f regs words)):=by
 rw[<-V4];refine APure.of_body (n:=58) Am Tryz.func44 rfl rfl ?_;refine Gy ?_;refine ax 2 (Dn 4 0) ?_;refine ax 3 (Dn 8 1) ?_;refine wk 7 ?_;refine ax 7 (CR Tryz.func81 (MP _)) ?_;refine an ?_;refine AGo.join (γ:=Unit) (fun _u=>⟨58,(Ad (Ad BC 2 (pZ 0)) 3 (pZ 1)),(Al (Al (AU 2) 0 (rf 4 [[.int .i64 words,.int .i64 f,.int .i64 regs,.int .i64 blocks]])) 1 (rf 8 [t.cells]))⟩) (fun _u=>(bif setsOp t.op then AX t.d regs else t.d==0)=true) ?_ ?_
 .
  refine asp 7 (fun hb1=>?_) fun hb1=>?_
  .
   refine wk 6 ?_;refine ax 11 (CR Tryz.func80 (Jv _ _ _ _ _)) ?_;refine wk 2 ?_;refine asp 12 (fun hb2=>?_) fun hb2=>?_
   .
    refine wk 5 ?_;exact PG
   exact kO
  refine wk 7 ?_;refine asp 15 (fun hb3=>?_) fun hb3=>?_
  .
   refine wk 5 ?_;exact PG
  exact kO
 intro _u hq1;refine wk 5 ?_;refine ax 18 (CR Tryz.func82 (Oo _)) ?_;refine an ?_;refine AGo.join (γ:=Unit) (fun _u=>⟨58,(Ad (Ad BC 2 (pZ 0)) 3 (pZ 1)),(Al (Al (AU 2) 0 (rf 4 [[.int .i64 words,.int .i64 f,.int .i64 regs,.int .i64 blocks]])) 1 (rf 8 [t.cells]))⟩) (fun _u=>(bif use1 t.op then AX t.a regs&&t.b==0 else bif use2 t.op then AX t.a regs&&AX t.b regs else t.a==0&&t.b==0)=true) ?_ ?_
 .
  refine wk 6 ?_;refine asp 19 (fun hb4=>?_) fun hb4=>?_
  .
   refine act ?_;have hrd:C8 t.op=0:=by simpa using hb4
   have hu:use1 t.op=false/\use2 t.op=false:=iU hrd;refine wk 6 ?_;refine BH 24 (fun hb5=>?_) fun hb5=>?_
   .
    refine wk 10 ?_;exact PG
   refine wk 5 ?_;refine asp 28 (fun hb6=>?_) fun hb6=>?_
   .
    refine wk 5 ?_;exact PG
   exact aU
  refine wk 6 ?_;refine asp 29 (fun hb7=>?_) fun hb7=>?_
  .
   refine act ?_;have hrd:C8 t.op=1:=by simpa using hb7
   have hu:use1 t.op=true:=iT hrd;refine wk 5 ?_;refine ax 34 (CR Tryz.func80 (Jv _ _ _ _ _)) ?_;refine wk 2 ?_;refine BH 36 (fun hb8=>?_) fun hb8=>?_
   .
    refine wk 10 ?_;exact PG
   refine wk 5 ?_;refine asp 40 (fun hb9=>?_) fun hb9=>?_
   .
    refine wk 5 ?_;exact PG
   exact aU
  refine wk 6 ?_;refine asp 41 (fun hb10=>?_) fun hb10=>?_
  .
   refine act ?_;have hrd:C8 t.op=2:=by simpa using hb10
   have hu:use1 t.op=false/\use2 t.op=true:=iS hrd;refine wk 5 ?_;refine ax 46 (CR Tryz.func80 (Jv _ _ _ _ _)) ?_;refine wk 2 ?_;refine BH 48 (fun hb11=>?_) fun hb11=>?_
   .
    refine wk 12 ?_;exact PG
   refine wk 3 ?_;refine ax 52 (CR Tryz.func80 (Jv _ _ _ _ _)) ?_;refine wk 3 ?_;refine asp 54 (fun hb12=>?_) fun hb12=>?_
   .
    refine wk 5 ?_;exact PG
   exact aU
  exact aU
 intro _u hq2;refine wk 4 ?_;refine ax 57 (CR Tryz.func83 (ac _ _ _ _ _ BD BD)) ?_;refine wk 2 ?_;refine Cj ⟨[_],⟨rfl,trivial⟩,?_,rfl⟩;refine bc ?_;simp[Tac.ins2,hq1,hq2]
theorem Kb(b:Blocks):Pu Tryz.prog 18 [.agg b.cells] (.bool b.right):=by
 refine APure.of_body (n:=80) Am Tryz.func18 rfl rfl ?_;refine ve ?_;refine JE 0 rfl (fun H ι v=>Ql) (fun hfit=>?_);refine j7 ?_;refine ax 1 (Dn 2 0) ?_;refine wk 9 ?_;refine BH 13 (fun hb1=>?_) fun hb1=>?_
 .
  refine wk 16 ?_;exact gO
 refine wk 5 ?_;refine BH 18 (fun hb2=>?_) fun hb2=>?_
 .
  refine wk 11 ?_;exact gO
 refine wk 6 ?_;refine asp 23 (fun hb3=>?_) fun hb3=>?_
 .
  refine wk 5 ?_;exact gO
 refine BK ?_;have h0:0<=b.words/\b.words<=1048576/\b.funcs.length≠0:=by simp only[decide_eq_false_iff_not,decide_eq_true_eq,List.length_map]at*;omega
 refine wk 10 ?_;refine AF (γ:=Nat) 1 (fun k=>⟨80,(Ad (Ad (Ad (Ad BC 1 (pZ 0)) 25 (AT b.funcs)) 26 (iN b.funcs.length)) 27 (iN k)),(Al (AU 1) 0 (rf 2 [b.cells]))⟩) (fun k=>(b.funcs.zipIdx.take k).all (fun p=>p.1.one (p.2:Int) b.words)=true) (fun k=>b.funcs.length-k) 0 (Sub.mk' DP FH) rfl (fun _=>CJ) ?_;intro k hk;refine wk 5 ?_;refine asp 28 (fun hb4=>?_) fun hb4=>?_
 .
  refine act ?_;have hkl:k<b.funcs.length:=by simpa using hb4
  obtain⟨f,hf⟩:=Ag hkl;refine wk 6 ?_;refine aq 30 Iz ?_;refine wk 1 ?_;refine ax 4 (I7 Am 1) ?_;refine wk 5 ?_;refine JE 31 rfl (fun H ι v=>NO) (fun hfit2=>?_);refine wk 5 ?_;refine BH 35 (fun hb5=>?_) fun hb5=>?_
  .
   refine wk 16 ?_;exact gT
  refine wk 5 ?_;refine BH 40 (fun hb6=>?_) fun hb6=>?_
  .
   refine wk 11 ?_;exact gT
  refine wk 6 ?_;refine asp 45 (fun hb7=>?_) fun hb7=>?_
  .
   refine wk 5 ?_;exact gT
  refine BK ?_;have hf0:0<=f.regs/\f.regs<=4000/\f.blocks.length≠0:=by simp only[decide_eq_false_iff_not,decide_eq_true_eq,List.length_map]at*;omega
  refine wk 12 ?_;refine ax 5 (I7 Am 2) ?_;refine wk 10 ?_;refine AF (γ:=Nat) 3 (fun j=>⟨80,(Ad (Ad (Ad (Ad (Ad (Ad (Ad (Ad (Ad BC 1 (pZ 0)) 25 (AT b.funcs)) 26 (iN b.funcs.length)) 27 (iN k)) 4 (pZ 1)) 5 (pZ 2)) 56 (Cc f.blocks)) 57 (iN f.blocks.length)) 58 (iN j)),(Al (Al (Al (AU 3) 0 (rf 2 [b.cells])) 1 (rf 2 [f.cells])) 2 (rf 4 [[.int .i64 b.words,.int .i64 (k:Int),.int .i64 f.regs,.int .i64 (f.blocks.length:Int)]]))⟩) (fun j=>(f.blocks.take j).all (fun x=>x.ok f.blocks.length f.regs (k:Int) b.words)=true) (fun j=>f.blocks.length-j) 0 (Sub.mk' DP (by repeat(first|exact HSub.refl _|exact HSub.none _|exact Bb _|exact A5 FJ|refine HSub.put ?_ (by first|rfl|exact congrArg (fun(n:Nat)=>some (rf 4 [[.int .i64 b.words,.int .i64 (k:Int),.int .i64 f.regs,.int .i64 (n:Int)]])) (List.length_map ..))|refine Ba ?_ FJ|refine Bm ?_ A7))) rfl (fun _=>Ak (CJ) rfl) ?_
  intro j hj;refine wk 5 ?_;refine asp 59 (fun hb8=>?_) fun hb8=>?_
  .
   refine act ?_;have hjl:j<f.blocks.length:=by simpa using hb8
   obtain⟨x,hx⟩:=Ag hjl;refine wk 5 ?_;refine aq 60 Iz ?_;refine wk 1 ?_;refine ax 7 (I7 Am 3) ?_;refine wk 7 ?_;refine ax 64 (CR Tryz.func43 (dX _ _ _ _ x)) ?_;refine wk 2 ?_;refine asp 65 (fun hb9=>?_) fun hb9=>?_
   .
    refine act ?_;have hends:x.ends f.blocks.length f.regs=false:=by simpa using hb9
    refine wk 4 ?_;refine Cj ⟨[_],⟨rfl,trivial⟩,?_,rfl⟩;refine bc ?_;rw[FM h0.1 h0.2.1 h0.2.2,BJ (Bl hf) (by show f.one _ _=false;rw[HG hf0.1 hf0.2.1 hf0.2.2,BJ hx (by simp[Block.ok,hends])])]
   refine BK ?_;have hends:x.ends f.blocks.length f.regs=true:=by simpa using hb9
   refine wk 9 ?_;refine AF (γ:=Nat) 4 (fun i=>⟨80,(Ad (Ad (Ad (Ad (Ad (Ad (Ad (Ad (Ad (Ad (Ad (Ad (Ad BC 1 (pZ 0)) 25 (AT b.funcs)) 26 (iN b.funcs.length)) 27 (iN k)) 4 (pZ 1)) 5 (pZ 2)) 56 (Cc f.blocks)) 57 (iN f.blocks.length)) 58 (iN j)) 7 (pZ 3)) 67 (Eu x.ins)) 68 (iN x.ins.length)) 69 (iN i)),(Al (Al (Al (Al (AU 4) 0 (rf 2 [b.cells])) 1 (rf 2 [f.cells])) 2 (rf 4 [[.int .i64 b.words,.int .i64 (k:Int),.int .i64 f.regs,.int .i64 (f.blocks.length:Int)]])) 3 (rf 5 [x.cells]))⟩) (fun i=>(x.ins.take i).all (fun t=>t.fits (k:Int) f.regs b.words)=true) (fun i=>x.ins.length-i) 0 (Sub.mk' DP FH) rfl (fun _=>Ak (Ak (CJ) rfl) rfl) ?_;intro i hi;refine wk 5 ?_;refine asp 70 (fun hb10=>?_) fun hb10=>?_
   .
    refine act ?_;have hil:i<x.ins.length:=by simpa using hb10
    obtain⟨u,hu⟩:=Ag hil;refine wk 5 ?_;refine aq 71 Iz ?_;refine wk 1 ?_;refine ax 9 (I7 Am 4) ?_;refine wk 6 ?_;refine ax 75 (CR Tryz.func44 (dU _ _ _ _ u h0.1 h0.2.1)) ?_;refine wk 2 ?_;refine asp 76 (fun hb11=>?_) fun hb11=>?_
    .
     refine act ?_;have hbw:=hb11;refine wk 4 ?_;refine Cj ⟨[_],⟨rfl,trivial⟩,?_,rfl⟩;refine bc ?_;rw[FM h0.1 h0.2.1 h0.2.2,BJ (Bl hf) (by show f.one _ _=false;rw[HG hf0.1 hf0.2.1 hf0.2.2,BJ hx (by simp only[Block.ok,BJ (p:=fun t=>Tac.fits t (k:Int) f.regs b.words) hu (by simpa using hbw),Bool.and_false])])]
    refine BK ?_;have hbw:=hb11;refine wk 2 ?_;refine aq 77 (Bw rfl rfl hil (hfit2.2 x (List.mem_of_getElem? hx))) ?_;refine wk 2 ?_;exact⟨i+1,Drop.mk' DO KQ,BS hu hi (by simpa using hbw),by omega⟩
   refine BK ?_;have hins:=Cd hi (by simpa using hb10);refine wk 2 ?_;refine aq 78 (Bw rfl rfl hjl hfit2.1) ?_;refine wk 2 ?_;exact⟨j+1,Drop.mk' DO KQ,BS hx hj (by simp[Block.ok,hends,hins]),by omega⟩
  refine BK ?_;have hall:=Cd hj (by simpa using hb8);refine wk 2 ?_;refine aq 79 (Bw rfl rfl hkl hfit.1) ?_;refine wk 2 ?_;exact⟨k+1,Drop.mk' DO KQ,BS (Bl hf) hk (by show f.one _ _=true;rw[HG hf0.1 hf0.2.1 hf0.2.2,hall]),by omega⟩
 refine BK ?_;have hall:=Cd hk (by rw[List.length_zipIdx];simpa using hb4);exact eL
theorem Td(a b:Blocks)(ls:List (List OPass))(ha:a.funcs.length<=1048576)(hP:a.right=true->b.right=true->∀f∈a.funcs,∀g∈b.funcs,∀l∈ls,Pu Tryz.prog 19 [.agg f.cells,.agg g.cells,I6 l] (.bool (Bd f g l))):Pu Tryz.prog 8 [.agg a.cells,.agg b.cells,Mf ls] (.bool (EA a b ls)):=by
 refine APure.of_body (n:=60) Am Tryz.func8 rfl rfl ?_;refine Gy ?_;refine ax 3 (Dn 2 0) ?_;refine ax 4 (Dn 2 1) ?_;refine wk 6 ?_;refine ax 10 (CR Tryz.func18 (Kb _)) ?_;refine wk 2 ?_;refine BH 12 (fun hb1=>?_) fun hb1=>?_
 .
  refine wk 17 ?_;exact W5
 refine wk 1 ?_;refine ax 14 (CR Tryz.func18 (Kb _)) ?_;refine wk 3 ?_;refine BH 17 (fun hb2=>?_) fun hb2=>?_
 .
  refine wk 12 ?_;exact W5
 refine wk 7 ?_;refine asp 23 (fun hb3=>?_) fun hb3=>?_
 .
  refine wk 5 ?_;exact W5
 refine BK ?_;have hr1:a.right=true:=by simpa using hb1
 have hr2:b.right=true:=by simpa using hb2
 have hw:a.words=b.words:=by have h:=hb3;simp at h;omega
 refine wk 12 ?_;refine BH 31 (fun hb4=>?_) fun hb4=>?_
 .
  refine wk 13 ?_;refine Cj ⟨[_],⟨rfl,trivial⟩,?_,rfl⟩;refine bc ?_;simp_all[EA];try omega
 refine wk 8 ?_;refine asp 38 (fun hb5=>?_) fun hb5=>?_
 .
  refine wk 5 ?_;refine Cj ⟨[_],⟨rfl,trivial⟩,?_,rfl⟩;refine bc ?_;simp_all[EA];try omega
 refine BK ?_;have hn1:a.funcs.length=b.funcs.length:=by have h:=hb4;simp at h;omega
 have hn2:ls.length=a.funcs.length:=by have h:=hb5;simp at h;omega
 refine wk 10 ?_;refine AF (γ:=Nat) 2 (fun k=>⟨60,(Ad (Ad (Ad (Ad (Ad (Ad BC 2 (Mf ls)) 3 (pZ 0)) 4 (pZ 1)) 40 (AT a.funcs)) 41 (iN a.funcs.length)) 42 (iN k)),(Al (Al (AU 2) 0 (rf 2 [a.cells])) 1 (rf 2 [b.cells]))⟩) (fun k=>Ul a.funcs b.funcs ls k) (fun k=>a.funcs.length-k) 0 (Sub.mk' DP FH) (fun i h=>absurd h (Nat.not_lt_zero i)) (fun _=>CJ) ?_;intro k hF;refine wk 5 ?_;refine asp 43 (fun hb6=>?_) fun hb6=>?_
 .
  refine act ?_;have hkl:k<a.funcs.length:=by have h:=hb6;simp at h;omega
  obtain⟨f,hf⟩:=Ag hkl;obtain⟨g,hg⟩:=Ag (l:=b.funcs) (k:=k) Ab;obtain⟨l,hl⟩:=Ag (l:=ls) (k:=k) Ab;refine wk 6 ?_;refine aq 45 (F6 Am (AG hf)) ?_;refine wk 1 ?_;refine ax 8 (I7 Am 2) ?_;refine wk 9 ?_;refine dq 51 (F6 Am (AG hg)) ?_;refine wk 3 ?_;refine dq 55 (F6 Am (AG hl)) ?_;refine wk 1 ?_;refine dx 57 (CR Tryz.func19 (hP hr1 hr2 f (List.mem_of_getElem? hf) g (List.mem_of_getElem? hg) l (List.mem_of_getElem? hl))) ?_;refine dq 58 (IZ rfl rfl) ?_;refine wk 1 ?_;refine asp 58 (fun hb7=>?_) fun hb7=>?_
  .
   refine act ?_;have hno:Bd f g l=false:=by simpa using hb7
   refine wk 4 ?_;refine Cj ⟨[_],⟨rfl,trivial⟩,?_,rfl⟩;refine bc ?_;simp[EA,QP hf hg hl hno]
  refine BK ?_;have hyes:Bd f g l=true:=by simpa using hb7
  refine wk 2 ?_;refine aq 59 (Bw rfl rfl hkl GM) ?_;refine wk 2 ?_;exact⟨k+1,Drop.mk' DO KQ,(SJ hF hf hg hl hyes),by omega⟩
 refine BK ?_;have hge:a.funcs.length<=k:=by have h:=hb6;simp at h;omega
 refine wk 5 ?_;refine Cj ⟨[_],⟨rfl,trivial⟩,?_,rfl⟩;refine bc ?_;exact(VD hr1 hr2 hw hn1 hn2 (VM hF hge)).symm
theorem OL(x y:Block)(hx:x.ins.length<=1000000000000000):Pu Tryz.prog 87 [.agg x.cells,.agg y.cells] (.bool (decide (x=y))):=by
 refine APure.of_body (n:=58) Am Tryz.func87 rfl rfl ?_;refine Gy ?_;refine ax 2 (Dn 5 0) ?_;refine ax 3 (Dn 5 1) ?_;refine wk 11 ?_;refine BH 12 (fun hb1=>?_) fun hb1=>?_
 .
  refine wk 35 ?_;exact RG
 refine wk 7 ?_;refine BH 19 (fun hb2=>?_) fun hb2=>?_
 .
  refine wk 28 ?_;exact RG
 refine wk 7 ?_;refine BH 26 (fun hb3=>?_) fun hb3=>?_
 .
  refine wk 21 ?_;exact RG
 refine wk 7 ?_;refine BH 33 (fun hb4=>?_) fun hb4=>?_
 .
  refine wk 14 ?_;exact RG
 refine wk 9 ?_;refine asp 41 (fun hb5=>?_) fun hb5=>?_
 .
  refine wk 5 ?_;exact RG
 refine BK ?_;have h0:x.fin=y.fin/\x.v=y.v/\x.to=y.to/\x.els=y.els/\x.ins.length=y.ins.length:=by simp_all<;>omega
 refine wk 10 ?_;refine AF (γ:=Nat) 2 (fun i=>⟨58,(Ad (Ad (Ad (Ad (Ad BC 2 (pZ 0)) 3 (pZ 1)) 43 (Eu x.ins)) 44 (iN x.ins.length)) 45 (iN i)),(Al (Al (AU 2) 0 (rf 5 [x.cells])) 1 (rf 5 [y.cells]))⟩) (fun i=>x.ins.take i=y.ins.take i) (fun i=>x.ins.length-i) 0 (Sub.mk' DP FH) rfl (fun _=>CJ) ?_;intro i ht;refine wk 5 ?_;refine asp 46 (fun hb6=>?_) fun hb6=>?_
 .
  refine act ?_;have hil:i<x.ins.length:=by simpa using hb6
  obtain⟨u,hu⟩:=Ag hil;obtain⟨v,hv⟩:=Ag (l:=y.ins) (k:=i) Ab;refine wk 6 ?_;refine aq 48 Iz ?_;refine wk 1 ?_;refine ax 6 (I7 Am 2) ?_;refine wk 9 ?_;refine dq 54 Iz ?_;refine wk 1 ?_;refine dq 56 (DX Am true rfl rfl rfl Ay rfl rfl rfl rfl (Tac.eqCells u v)) ?_;refine wk 1 ?_;refine asp 56 (fun hb7=>?_) fun hb7=>?_
  .
   refine act ?_;have huv:u≠v:=by simpa using hb7
   refine wk 4 ?_;refine Cj ⟨[_],⟨rfl,trivial⟩,?_,rfl⟩;show AV.bool false=_;rw[decide_eq_false (by rintro rfl;rw[hu]at hv;cases hv;exact huv rfl)]
  refine BK ?_;have huv:u=v:=by simpa using hb7
  refine wk 2 ?_;refine aq 57 (Bw rfl rfl hil GM) ?_;refine wk 2 ?_;exact⟨i+1,Drop.mk' DO KQ,(by rw[AR hu,AR hv,ht,huv]),by omega⟩
 refine BK ?_;have hge:x.ins.length<=i:=by simpa using hb6
 refine wk 5 ?_;refine Cj ⟨[_],⟨rfl,trivial⟩,?_,rfl⟩;show AV.bool true=_;rw[decide_eq_true (Ts h0.1 h0.2.1 h0.2.2.1 h0.2.2.2.1 (GS ht hge (h0.2.2.2.2▸hge)))]
theorem Z9(a b:Blocks)(hl0:a.funcs.length<=1000000000000000)(hl1:∀f∈a.funcs,f.blocks.length<=1000000000000000/\∀x∈f.blocks,x.ins.length<=1000000000000000):Pu Tryz.prog 46 [.agg a.cells,.agg b.cells] (.bool (decide (a=b))):=by
 refine APure.of_body (n:=69) Am Tryz.func46 rfl rfl ?_;refine Gy ?_;refine ax 2 (Dn 2 0) ?_;refine ax 3 (Dn 2 1) ?_;refine wk 11 ?_;refine BH 15 (fun hb1=>?_) fun hb1=>?_
 .
  refine wk 14 ?_;exact RG
 refine wk 9 ?_;refine asp 23 (fun hb2=>?_) fun hb2=>?_
 .
  refine wk 5 ?_;exact RG
 refine BK ?_;have h0:a.words=b.words/\a.funcs.length=b.funcs.length:=by simp_all<;>omega
 refine wk 10 ?_;refine AF (γ:=Nat) 2 (fun i=>⟨69,(Ad (Ad (Ad (Ad (Ad BC 2 (pZ 0)) 3 (pZ 1)) 25 (AT a.funcs)) 26 (iN a.funcs.length)) 27 (iN i)),(Al (Al (AU 2) 0 (rf 2 [a.cells])) 1 (rf 2 [b.cells]))⟩) (fun i=>a.funcs.take i=b.funcs.take i) (fun i=>a.funcs.length-i) 0 (Sub.mk' DP FH) rfl (fun _=>CJ) ?_;intro i ht;refine wk 5 ?_;refine asp 28 (fun hb3=>?_) fun hb3=>?_
 .
  refine act ?_;have hil:i<a.funcs.length:=by simpa using hb3
  obtain⟨f,hf⟩:=Ag hil;obtain⟨g,hg⟩:=Ag (l:=b.funcs) (k:=i) Ab;obtain⟨hl2,hl3⟩:=hl1 f (List.mem_of_getElem? hf);refine wk 6 ?_;refine aq 30 (F6 Am (AG hf)) ?_;refine wk 1 ?_;refine ax 6 (I7 Am 2) ?_;refine wk 8 ?_;refine aq 35 (F6 Am (AG hg)) ?_;refine wk 1 ?_;refine ax 7 (I7 Am 3) ?_;refine wk 11 ?_;refine BH 42 (fun hb4=>?_) fun hb4=>?_
  .
   refine wk 14 ?_;exact fq
  refine wk 9 ?_;refine asp 50 (fun hb5=>?_) fun hb5=>?_
  .
   refine wk 5 ?_;exact fq
  refine BK ?_;have h1:f.regs=g.regs/\f.blocks.length=g.blocks.length:=by simp_all<;>omega
  refine wk 9 ?_;refine AF (γ:=Nat) 4 (fun j=>⟨69,(Ad (Ad (Ad (Ad (Ad (Ad (Ad (Ad (Ad (Ad BC 2 (pZ 0)) 3 (pZ 1)) 25 (AT a.funcs)) 26 (iN a.funcs.length)) 27 (iN i)) 6 (pZ 2)) 7 (pZ 3)) 52 (Cc f.blocks)) 53 (iN f.blocks.length)) 54 (iN j)),(Al (Al (Al (Al (AU 4) 0 (rf 2 [a.cells])) 1 (rf 2 [b.cells])) 2 (rf 2 [f.cells])) 3 (rf 2 [g.cells]))⟩) (fun j=>f.blocks.take j=g.blocks.take j) (fun j=>f.blocks.length-j) 0 (Sub.mk' DP FH) rfl (fun _=>Ak (Ak (CJ) rfl) rfl) ?_;intro j hs;refine wk 5 ?_;refine asp 55 (fun hb6=>?_) fun hb6=>?_
  .
   refine act ?_;have hjl:j<f.blocks.length:=by simpa using hb6
   obtain⟨x,hx⟩:=Ag hjl;obtain⟨y,hy⟩:=Ag (l:=g.blocks) (k:=j) Ab;refine wk 6 ?_;refine aq 57 (F6 Am (AG hx)) ?_;refine wk 1 ?_;refine ax 9 (I7 Am 4) ?_;refine wk 9 ?_;refine dq 63 (F6 Am (AG hy)) ?_;refine wk 1 ?_;refine dx 65 (CR Tryz.func87 (OL x y (by have:=hl3 x (List.mem_of_getElem? hx);omega))) ?_;refine dq 66 (IZ rfl rfl) ?_;refine wk 1 ?_;refine asp 66 (fun hb7=>?_) fun hb7=>?_
   .
    refine act ?_;have hxy:x≠y:=by simpa using hb7
    refine wk 4 ?_;refine Cj ⟨[_],⟨rfl,trivial⟩,?_,rfl⟩;show AV.bool false=_;rw[decide_eq_false (by rintro rfl;rw[hf]at hg;cases hg;rw[hx]at hy;cases hy;exact hxy rfl)]
   refine BK ?_;have hxy:x=y:=by simpa using hb7
   refine wk 2 ?_;refine aq 67 (Bw rfl rfl hjl GM) ?_;refine wk 2 ?_;exact⟨j+1,Drop.mk' DO KQ,(by rw[AR hx,AR hy,hs,hxy]),by omega⟩
  refine BK ?_;have hge2:f.blocks.length<=j:=by simpa using hb6
  have hfg:f=g:=BFunc.ext' h1.1 (GS hs hge2 (h1.2▸hge2));refine wk 2 ?_;refine aq 68 (Bw rfl rfl hil GM) ?_;refine wk 2 ?_;exact⟨i+1,Drop.mk' DO KQ,(by rw[AR hf,AR hg,ht,hfg]),by omega⟩
 refine BK ?_;have hge:a.funcs.length<=i:=by simpa using hb3
 refine wk 5 ?_;refine Cj ⟨[_],⟨rfl,trivial⟩,?_,rfl⟩;show AV.bool true=_;rw[decide_eq_true (Blocks.ext' h0.1 (GS ht hge (h0.2▸hge)))]
theorem SN(f g:BFunc)(l:List OPass)(hl:l.length<=1048576)(I:BFunc->Prop)(hI0:I f)(hIb:∀f,I f->f.Lim)(hH:∀p∈l,I p.f/\∀f,I f->EB p.kind=true->HP p f):Pu Tryz.prog 19 [.agg f.cells,.agg g.cells,I6 l] (.bool (Bd f g l)):=by
 refine APure.of_body (n:=42) Am Tryz.func19 rfl rfl ?_;refine Gy ?_;refine ax 3 (Dn 2 0) ?_;refine ax 4 (Dn 2 1) ?_;refine wk 10 ?_;refine AF (γ:=Nat) 2 (fun k=>⟨42,(Ad (Ad (Ad (Ad (Ad BC 3 (pZ 0)) 4 (pZ 1)) 11 (I6 l)) 12 (iN l.length)) 13 (iN k)),(Al (Al (AU 2) 0 (rf 2 [(KO f (l.take k)).cells])) 1 (rf 2 [g.cells]))⟩) (fun k=>I (KO f (l.take k))/\Bd f (KO f (l.take k)) (l.take k)=true) (fun k=>l.length-k) 0 (Sub.mk' DP FH) ⟨hI0,decide_eq_true rfl⟩ (fun _=>CJ) ?_;intro k hF;refine wk 5 ?_;refine asp 14 (fun hb1=>?_) fun hb1=>?_
 .
  refine act ?_;have hkl:k<l.length:=by have h:=hb1;simp at h;omega
  obtain⟨p,hp⟩:=Ag hkl;have hpm:=List.mem_of_getElem? hp;refine wk 5 ?_;refine aq 15 (F6 Am (AG hp)) ?_;refine wk 1 ?_;refine ax 8 (I7 Am 2) ?_;refine wk 6 ?_;refine ax 20 (CR Tryz.func45 (dG _)) ?_;refine wk 12 ?_;refine BH 25 (fun hb2=>?_) fun hb2=>?_
  .
   refine wk 8 ?_;have hno:p.holds (KO f (l.take k))=false:=by
    first
    |(simpa using hb2;done)
    |(exact Mn (by simpa using hb2))
   exact fa
  have hkd:EB p.kind=true:=by simpa using hb2
  refine wk 3 ?_;refine ax 29 (cA hkd rfl rfl rfl ((hH p hpm).2 _ hF.1 hkd)) ?_;refine wk 3 ?_;refine asp 31 (fun hb3=>?_) fun hb3=>?_
  .
   refine act ?_;have hno:p.holds (KO f (l.take k))=false:=by
    first
    |(simpa using hb3;done)
    |(exact Mn (by simpa using hb2))
   exact fa
  refine BK ?_;have hyes:p.holds (KO f (l.take k))=true:=by simpa using hb3
  refine wk 7 ?_;refine aq 34 (Bw rfl rfl hkl GM) ?_;refine wk 2 ?_;exact⟨k+1,Drop.mk' DO (by repeat(first|exact HDrop.none _ _|exact HDrop.tail _ _|refine HDrop.put ?_ (by first|rfl|exact congrArg (fun x=>some (rf 2 [BFunc.cells x])) (MQ f hp).symm) rfl As)),⟨by rw[MQ f hp];exact(hH p hpm).1,QO hp hF.2 hyes⟩,by omega⟩
 refine BK ?_;have hge:l.length<=k:=by have h:=hb1;simp at h;omega
 have hE:I (KO f l)/\Bd f (KO f l) l=true:=by have h:=hF;rwa[List.take_of_length_le hge]at h
 refine wk 2 ?_;rw[List.take_of_length_le hge];refine wk 2 ?_;refine ax 36 Iy ?_;refine wk 2 ?_;refine ax 39 Iy ?_;refine wk 1 ?_;refine ax 41 (CR Tryz.func46 (Z9 ⟨0,[KO f l]⟩ ⟨0,[g]⟩ Az (fun x hx=>by simp only[List.mem_singleton]at hx;subst hx;exact(hIb _ hE.1).big))) ?_;refine wk 2 ?_;refine Cj ⟨[_],⟨rfl,trivial⟩,?_,rfl⟩;refine bc ?_;rw[SL hE.2]
 simp
theorem cF(f:BFunc)(hn:f.blocks.length<=100000):Pu Tryz.prog 207 [.agg f.cells] (AS f.nexts):=by
 refine APure.of_body (n:=40) Am Tryz.func207 rfl rfl ?_;refine Gy ?_;refine ax 1 (Dn 2 0) ?_;refine wk 7 ?_;refine ax 9 (B7 Am (n:=f.blocks.length) (m:=f.blocks.length) 1 true (hby:=(by show 24*f.blocks.length<=_;omega))) ?_;refine wk 4 ?_;refine AGo.ghost (Nj 1 (es':=List.replicate f.blocks.length [.lst false []]) rfl Az (UZ _)) ?_;refine wk 7 ?_;refine AF (γ:=Nat) 2 (fun k=>⟨40,(Ad (Ad (Ad (Ad BC 3 (.ref 1 f.blocks.length 0 f.blocks.length)) 11 (Cc f.blocks)) 12 (iN f.blocks.length)) 13 (iN k)),(Al (Al (AU 2) 0 (rf 2 [f.cells])) 1 (rt 1 (((f.nexts.take (k)).map G6)++List.replicate (f.blocks.length-(k)) [.lst false []])))⟩) (fun k=>k<=f.blocks.length) (fun k=>f.blocks.length-k) 0 (Sub.mk' DP (by repeat(first|exact HSub.none _|exact Bb _|exact A5 A7|refine HSub.put ?_ (by rfl)|refine Ba ?_ A7))) (Nat.zero_le _) (fun _=>CJ) ?_;intro k hk;refine wk 5 ?_;refine asp 14 (fun hb1=>?_) fun hb1=>?_
 . -- True
   refine act ?_;have hkl:k<f.blocks.length:=by simpa using hb1
   obtain⟨x,hx⟩:=Ag hkl;have hnx:=NX hx;refine wk 6 ?_;refine aq 16 Iz ?_;refine wk 1 ?_;refine ax 5 (I7 Am 2) ?_;refine wk 14 ?_;refine asp 20 (fun hb2=>?_) fun hb2=>?_
   . -- True
     refine wk 6 ?_;refine ax 26 Iy ?_;refine aq 27 (An Am rfl rfl rfl rfl rfl rfl rfl (E6 (BU f) (Nat.le_of_lt hkl)) rfl (Int.natCast_nonneg _) Ab) ?_;exact ky
   . -- False
     refine wk 6 ?_;refine asp 28 (fun hb3=>?_) fun hb3=>?_
     . -- True
       refine wk 8 ?_;refine ax 36 Iy ?_;refine aq 37 (An Am rfl rfl rfl rfl rfl rfl rfl (E6 (BU f) (Nat.le_of_lt hkl)) rfl (Int.natCast_nonneg _) Ab) ?_;exact ky
     . -- False
       refine wk 3 ?_;exact ll
 . -- False
   refine BK ?_;have hge:f.blocks.length<=k:=by simpa using hb1
   refine wk 2 ?_;refine AGo.ghost (.freeze 3 1 rfl rfl (E6 (BU f) hk)) ?_;refine wk 4 ?_;refine Cj ⟨[_],⟨rfl,trivial⟩,?_,rfl⟩;show AV.lst false _=AV.lst false _;rw[Rb (BU f) hge];rfl
theorem NG(f:BFunc)(hn:f.blocks.length<=100000)(hi:∀x∈f.blocks,x.ins.length<=100000):Pu Tryz.prog 303 [.agg f.cells] (.bool f.stands):=by
 refine APure.of_body (n:=65) Am Tryz.func303 rfl rfl ?_;refine Gy ?_;refine ax 1 (Dn 2 0) ?_;refine wk 9 ?_;refine dx 14 (B7 Am (n:=f.blocks.length) (m:=f.blocks.length) 1 true (hby:=(by show 56*f.blocks.length<=_;omega))) ?_;refine wk 1 ?_;refine dx 3 (I7 Am 2) ?_;refine wk 11 ?_;refine AF (γ:=Nat) 3 (fun k=>⟨65,(Ad (Ad (Ad (Ad (Ad BC 1 (pZ 0)) 3 (pZ 2)) 17 (Cc f.blocks)) 18 (iN f.blocks.length)) 19 (iN k)),(Al (Al (Al (AU 3) 0 (rf 2 [f.cells])) 1 (rt 5 ((((f.blocks.map Block.bare).take (k)).map Block.cells)++List.replicate (f.blocks.length-(k)) [.nil,.int .i64 0,.int .i64 0,.int .i64 0,.int .i64 0]))) 2 (rf 2 [[.int .i64 f.regs,.ref 1 f.blocks.length 0 f.blocks.length]]))⟩) (fun k=>k<=f.blocks.length/\(f.blocks.take k).all (fun x=>x.ins.all Tac.callOk)=true) (fun k=>f.blocks.length-k) 0 (Sub.mk' DP FH) ⟨Nat.zero_le _,rfl⟩ (fun _=>Ak (CJ) rfl) ?_
 intro k ⟨hk,hall⟩;refine wk 5 ?_;refine asp 20 (fun hb1=>?_) fun hb1=>?_
 .
  refine act ?_;have hkl:k<f.blocks.length:=by simpa using hb1
  obtain⟨x,hx⟩:=Ag hkl;have hxm:=List.mem_of_getElem? hx;refine wk 6 ?_;refine aq 22 (F6 Am (AG hx)) ?_;refine wk 1 ?_;refine ax 5 (I7 Am 3) ?_;refine wk 8 ?_;refine ax 27 (B7 Am (n:=0) (m:=x.ins.length) 4 true rfl rfl rfl (rfl) Az rfl rfl rfl rfl rfl (Nat.zero_lt_succ _) rfl (Nat.zero_le _) (by have:=hi x hxm;show 64*x.ins.length<=_;omega) (by have:=hi x hxm;simp only[maxLen];omega)) ?_;refine wk 11 ?_;refine AF (γ:=Nat) 5 (fun j=>⟨65,(Ad (Ad (Ad (Ad (Ad (Ad (Ad (Ad (Ad (Ad (Ad BC 1 (pZ 0)) 3 (pZ 2)) 17 (Cc f.blocks)) 18 (iN f.blocks.length)) 19 (iN k)) 4 (iN k)) 5 (pZ 3)) 6 (.ref 4 (DH (x.ins.take j)).length 0 (DH (x.ins.take j)).length)) 29 (Eu x.ins)) 30 (iN x.ins.length)) 31 (iN j)),(Al (Al (Al (Al (Al (AU 5) 0 (rf 2 [f.cells])) 1 (rt 5 ((((f.blocks.map Block.bare).take (k)).map Block.cells)++List.replicate (f.blocks.length-(k)) [.nil,.int .i64 0,.int .i64 0,.int .i64 0,.int .i64 0]))) 2 (rf 2 [[.int .i64 f.regs,.ref 1 f.blocks.length 0 f.blocks.length]])) 3 (rf 5 [x.cells])) 4 (rt 8 ((DH (x.ins.take j)).map Tac.cells)))⟩) (fun j=>j<=x.ins.length/\(x.ins.take j).all Tac.callOk=true) (fun j=>x.ins.length-j) 0 (Sub.mk' DP FH) ⟨Nat.zero_le _,rfl⟩ (fun _=>Ak (Ak (Ak (CJ) rfl) rfl) rfl) ?_
  intro j ⟨hj,hja⟩;refine wk 5 ?_;refine asp 32 (fun hb2=>?_) fun hb2=>?_
  .
   refine act ?_;have hjl:j<x.ins.length:=by have h:=hb2;simp only[List.length_map,decide_eq_true_eq]at h;omega
   obtain⟨t,ht⟩:=Ag hjl;refine wk 5 ?_;refine aq 33 (F6 Am (AG ht)) ?_;refine wk 1 ?_;refine ax 8 (I7 Am 5) ?_;refine wk 5 ?_
   skip
   refine wk 4 ?_;refine asp 37 (fun hb3=>?_) fun hb3=>?_
   .
    refine act ?_;have h10:(t.op !=10)=true:=hb3;have hnc:=SB ht h10;have hok:=WB h10;refine wk 4 ?_;refine ax 40 Iy ?_;refine ax 41 (G8 Am (n:=(DH (x.ins.take j)).length) (m:=1) rfl rfl rfl rfl rfl rfl rfl rfl rfl M3 rfl rfl (Nat.zero_lt_succ _) (.lst _ _) (by intro cs h;simp[AK]at h;subst h;rfl) (fun _ cs h=>by simp[AK]at h;subst h;rfl) rfl (by have h1:=Kv x.ins j;have h2:=hi x hxm;simp[AK];omega) (by have h1:=Kv x.ins j;have h2:=hi x hxm;simp[AK];simp only[maxLen];omega)) ?_;refine wk 4 ?_;exact lh
   refine BK ?_;have h10:(t.op !=10)=false:=hb3;have hnc:=VG ht h10;refine wk 7 ?_;refine BH 45 (fun hb4=>?_) fun hb4=>?_
   .
    refine wk 8 ?_;have hbad:=hb4;exact fP
   have hb0:=hb4;refine wk 4 ?_;refine aq 50 (DX Am true rfl rfl rfl Ay rfl rfl rfl rfl rfl) ?_;refine wk 2 ?_;refine asp 51 (fun hb5=>?_) fun hb5=>?_
   .
    refine act ?_;have hbad:=hb5;exact fP
   refine BK ?_;have hgood:=hb5;refine wk 2 ?_;exact lh
  refine BK ?_;have hjge:x.ins.length<=j:=by have h:=hb2;simp only[List.length_map,decide_eq_false_iff_not]at h;omega
  refine wk 2 ?_;refine AGo.ghost (.freezeAll0 6 4 rfl rfl M3) ?_;rw[List.take_of_length_le hjge];refine wk 10 ?_;refine aq 59 (An Am rfl rfl rfl rfl rfl rfl rfl (E6 (by simp:(f.blocks.map Block.bare).length=f.blocks.length) (Nat.le_of_lt hkl)) rfl (Int.natCast_nonneg _) Ab) ?_;refine AOps.w rfl rfl (Be Am rfl rfl rfl rfl rfl rfl (E6 (by simp:(f.blocks.map Block.bare).length=f.blocks.length) (Nat.le_of_lt hkl)) (Ra (by simp:(f.blocks.map Block.bare).length=f.blocks.length) hkl) rfl A7 rfl US) ?_;refine wk 2 ?_;refine aq 60 (Bw rfl rfl hkl (show f.blocks.length<=maxLen by simp only[maxLen];omega)) ?_;refine wk 2 ?_;exact⟨k+1,Drop.mk' DO (by repeat(first|exact HDrop.none _ _|exact HDrop.tail _ _|refine HDrop.put ?_ (by first|rfl|exact congrArg (fun es=>some (rt 5 es)) (My (f:=Block.cells) (x:=x.bare) (by simp:(f.blocks.map Block.bare).length=f.blocks.length) (ag hx))) rfl As)),⟨hkl,BS hx hall (Cd hja hjge)⟩,by omega⟩
 refine BK ?_;have hge:f.blocks.length<=k:=by simpa using hb1
 refine wk 2 ?_;refine AGo.ghost (.freezeCell 2 0 1 1 rfl rfl rfl rfl (E6 (by simp:(f.blocks.map Block.bare).length=f.blocks.length) hk) A7) ?_;rw[Rb (by simp:(f.blocks.map Block.bare).length=f.blocks.length) hge];refine wk 2 ?_;refine ax 62 Iy ?_;refine wk 1 ?_;refine ax 64 (CR Tryz.func18 (Kb (Blocks.mk 1048576 [f.bare]))) ?_;refine wk 2 ?_;refine Cj ⟨[_],⟨rfl,trivial⟩,?_,rfl⟩;refine bc ?_;exact(Sg (Cd hall hge)).symm
theorem dN(E1 E2:List (List Int))(h1:∀x∈E1,x.length=6)(h2:∀x∈E2,x.length=6)(hl:E1.length<=100000):Ca Tryz.prog 305 [CY 10 ((E1).map (Ao .i64)),CY 11 ((E2).map (Ao .i64))] (Al (Al hNew 10 (Dv 6 ((E1).map (Ao .i64)))) 11 (Dv 6 ((E2).map (Ao .i64)))) (.bool (decide (E1=E2))) (Al (Al hNone 10 (Dv 6 ((E1).map (Ao .i64)))) 11 (Dv 6 ((E2).map (Ao .i64)))):=by
 refine ACall.of_body (n:=26) Am Tryz.func305 rfl rfl ?_;refine wk 8 ?_;refine aq 7 W9 ?_;refine am 8 ?_;refine aq 9 W9 ?_;refine wk 2 ?_;refine asp 10 (fun hb1=>?_) fun hb1=>?_
 .
  refine act ?_;have hne:E1.length≠E2.length:=by have h:=hb1;simp only[List.length_map,bne_iff_ne,ne_eq,Int.natCast_inj]at h;exact h
  refine wk 5 ?_;refine⟨[_],⟨rfl,trivial⟩,?_,HSub.put (HSub.put (HSub.none _) rfl) rfl⟩;refine bc ?_;exact(decide_eq_false (fun e=>hne (by rw[e]))).symm
 refine BK ?_;have hel:E1.length=E2.length:=by have h:=hb1;simp only[List.length_map,bne_eq_false_iff_eq,Int.natCast_inj]at h;exact h
 refine wk 5 ?_;refine aq 12 W9 ?_;refine wk 3 ?_;refine AF (γ:=Nat) 12 (fun k=>⟨26,(Ad (Ad (Ad (Ad BC 0 (CY 10 ((E1).map (Ao .i64)))) 1 (CY 11 ((E2).map (Ao .i64)))) 12 (.int .i64 (((E1).map (Ao .i64)).length:Int))) 13 (iN k)),(Al (Al (AU 12) 10 (Dv 6 ((E1).map (Ao .i64)))) 11 (Dv 6 ((E2).map (Ao .i64))))⟩) (fun k=>k<=E1.length/\E1.take k=E2.take k) (fun k=>E1.length-k) 0 (Sub.mk' Fc FH) ⟨Nat.zero_le _,rfl⟩ (fun _=>CJ) ?_;intro k ⟨hk,htk⟩;refine wk 5 ?_;refine asp 14 (fun hb2=>?_) fun hb2=>?_
 .
  refine act ?_;have hkl:k<E1.length:=by have h:=hb2;simp only[List.length_map,decide_eq_true_eq]at h;omega
  obtain⟨x,hx⟩:=Ag hkl;obtain⟨y,hy⟩:=Ag (l:=E2) (k:=k) Ab;refine wk 12 ?_;refine dq 18 (LP Am (h0:=(Int.natCast_nonneg _)) (hn:=Xb)) ?_;refine dq 19 (Aw Am rfl rfl rfl (i5 rfl (Uz hx)) (QM rfl (by rw[h1 _ (List.mem_of_getElem? hx)]))) ?_;refine wk 2 ?_;refine dq 22 (LP Am (h0:=(Int.natCast_nonneg _)) (hn:=Xb)) ?_;refine dq 23 (Aw Am rfl rfl rfl (i5 rfl (Uz hy)) (QM rfl (by rw[h2 _ (List.mem_of_getElem? hy)]))) ?_;refine dq 24 (LQ Am (K:=.i64) (l1:=x) (l2:=y) true rfl rfl rfl Ay rfl rfl rfl rfl (by rw[h1 _ (List.mem_of_getElem? hx)]) (by rw[h2 _ (List.mem_of_getElem? hy)]) Ay) ?_;refine wk 1 ?_;refine asp 24 (fun hb3=>?_) fun hb3=>?_
  .
   refine act ?_;have hxy:¬x=y:=by have h:=hb3;simpa using h
   refine wk 5 ?_;refine⟨[_],⟨rfl,trivial⟩,?_,HSub.put (HSub.put (HSub.none _) rfl) rfl⟩;refine bc ?_;exact(decide_eq_false (fun e=>by subst e;rw[hx]at hy;exact hxy (Option.some.inj hy))).symm
  refine BK ?_;have hxy:x=y:=by have h:=hb3;simpa using h
  subst hxy;refine wk 2 ?_;refine aq 25 (Bw rfl rfl hkl GM) ?_;refine wk 2 ?_;exact⟨k+1,Drop.mk' DO KQ,⟨hkl,OJ htk hx hy⟩,by omega⟩
 refine BK ?_;have hge:E1.length<=k:=by have h:=hb2;simp only[List.length_map,decide_eq_false_iff_not]at h;omega
 refine wk 6 ?_;refine⟨[_],⟨rfl,trivial⟩,?_,HSub.put (HSub.put (HSub.none _) rfl) rfl⟩;refine bc ?_;exact(decide_eq_true (GS htk hge Ab)).symm
theorem FR(first:Int)(K:List (List Int))(hf:0<=first/\first<=100000)(h4:∀k∈K,k.length=4)(hK:K.length<=100000)(a b c d:Int):Ca Tryz.prog 306 [.ptr 4 1 0 0,.agg [.int .i64 a,.int .i64 b,.int .i64 c,.int .i64 d]] (Al (Al (Al hNew 3 (.map (BI .i64 (B5 first (K))))) 4 (rf 3 [[.int .i64 first,.map 3,CY 9 ((K).map (Ao .i64))]])) 9 (Dv 4 ((K).map (Ao .i64)))) (.int .i64 (Ck first K [a,b,c,d]).1) (Al (Al (Al hNone 3 (.map (BI .i64 (B5 first ((Ck first K [a,b,c,d]).2))))) 4 (rf 3 [[.int .i64 first,.map 3,CY 9 (((Ck first K [a,b,c,d]).2).map (Ao .i64))]])) 9 (Dv 4 (((Ck first K [a,b,c,d]).2).map (Ao .i64)))):=by
 refine ACall.of_body (n:=45) Am Tryz.func306 rfl rfl ?_;refine Gy ?_;refine ax 3 (Dn 4 12) ?_;refine wk 9 ?_;refine dq 13 (Ks Am (z:=[a,b,c,d]) (m:=B5 first K) (n:=4) (zv:=.int .i64 0) rfl rfl rfl rfl rfl rfl rfl rfl rfl rfl Ay rfl (Nt h4) Ay rfl) ?_;refine wk 12 ?_;refine asp 17 (fun hb1=>?_) fun hb1=>?_
 .
  refine act ?_;have hn:kidx [a,b,c,d] K=none:=lE (hb1);refine wk 10 ?_;refine dq 26 W9 ?_;refine dq 27 (BB (r:=.int .i64 (first+(K.length:Int))) rfl rfl rfl (by rw[List.length_map];exact j8 Ab Ab rfl)) ?_;refine wk 10 ?_;refine DOps.w rfl rfl (I9 Am (z:=[a,b,c,d]) (m:=B5 first K) (n:=4) rfl rfl rfl rfl rfl rfl rfl rfl rfl rfl rfl rfl rfl Ay rfl (Nt h4)) ?_;refine wk 8 ?_;refine dx 40 Iy ?_;refine dx 41 (Ih Am (b:=9) (es:=((K).map (Ao .i64))) rfl rfl rfl rfl rfl rfl rfl rfl rfl rfl rfl (Nat.zero_lt_succ _) (Pw h4) (MR _) rfl rfl (by rw[List.length_map];show _*32<=_;omega) aY) ?_;refine wk 2 ?_;refine DOps.w rfl rfl (I8 Am rfl rfl rfl rfl rfl rfl rfl rfl rfl (JO _ _) A7 (JP _ _) ED) ?_;exact kU
 refine BK ?_;obtain⟨i,hi⟩:∃i,kidx [a,b,c,d] K=some i:=lD (hb1)
 exact kU
theorem Ol(op a b:Int)(hb:0<=b):Pu Tryz.prog 88 [.int .i64 op,.int .u32 a,.int .u32 b] (fS (F8 op a b)):=by
 refine APure.of_body (n:=18) Am Tryz.func88 rfl rfl ?_;refine wk 11 ?_;refine asp 9 (fun hb1=>?_) fun hb1=>?_
 .
  refine wk 7 ?_;exact W6
 refine BK ?_;have hb0:¬b=0:=by simpa using hb1
 refine wk 7 ?_;refine asp 11 (fun hb2=>?_) fun hb2=>?_
 .
  refine wk 5 ?_;refine aq 14 (BB (r:=.int .u32 (IntKind.u32.wrap (a.tdiv b))) rfl rfl rfl (by simp[AM,Bf,isShift,hb0])) ?_;refine wk 4 ?_;exact W6
 refine wk 6 ?_;refine aq 17 (BB (r:=.int .u32 (a.tmod b)) rfl rfl rfl (by simp[AM,Bf,isShift,hb0])) ?_;refine wk 4 ?_;exact W6
theorem Qb(op a b:Int)(hb:0<=b):Pu Tryz.prog 89 [.int .i64 op,.int .u32 a,.int .u32 b] (.int .u32 (OB op a b)):=by
 refine APure.of_body (n:=19) Am Tryz.func89 rfl rfl ?_;refine wk 12 ?_;refine asp 7 (fun hb1=>?_) fun hb1=>?_
 .
  refine wk 5 ?_;exact gJ
 refine wk 7 ?_;refine asp 10 (fun hb2=>?_) fun hb2=>?_
 .
  refine wk 5 ?_;refine aq 15 (BB (r:=.int .u32 (IntKind.u32.wrap (a*2^(min b.toNat IntKind.u32.bits)))) rfl rfl rfl lp) ?_;refine wk 2 ?_;exact gJ
 refine wk 6 ?_;refine aq 18 (BB (r:=.int .u32 (a.fdiv (2^(min b.toNat IntKind.u32.bits)))) rfl rfl rfl lp) ?_;refine wk 2 ?_;exact gJ
theorem MJ(op a b:Int)(hb:0<=b):Pu Tryz.prog 90 [.int .i64 op,.int .u32 a,.int .u32 b] (.int .u32 (IE op a b)):=by
 refine APure.of_body (n:=23) Am Tryz.func90 rfl rfl ?_;refine wk 16 ?_;refine BH 10 (fun hb1=>?_) fun hb1=>?_
 .
  refine wk 6 ?_;refine asp 7 (fun hb2=>?_) fun hb2=>?_
  .
   refine wk 7 ?_;exact RF
  refine wk 7 ?_;refine BH 18 (fun hb3=>?_) fun hb3=>?_
  .
   refine wk 6 ?_;refine asp 15 (fun hb4=>?_) fun hb4=>?_
   .
    refine wk 7 ?_;exact RF
   refine wk 7 ?_;exact RF
  refine wk 13 ?_;exact RF
 refine wk 13 ?_;refine BH 18 (fun hb5=>?_) fun hb5=>?_
 .
  refine wk 6 ?_;refine asp 15 (fun hb6=>?_) fun hb6=>?_
  .
   refine wk 7 ?_;exact RF
  refine wk 7 ?_;exact RF
 refine wk 13 ?_;exact RF
theorem Rs(op a b:Int)(hb:0<=b):Pu Tryz.prog 47 [.int .i64 op,.int .u32 a,.int .u32 b] (fS (B1 op a b)):=by
 refine APure.of_body (n:=62) Am Tryz.func47 rfl rfl ?_;refine wk 16 ?_;refine asp 9 (fun hb1=>?_) fun hb1=>?_
 .
  refine wk 10 ?_;exact JF
 refine wk 6 ?_;refine asp 14 (fun hb2=>?_) fun hb2=>?_
 .
  refine wk 10 ?_;exact JF
 refine wk 6 ?_;refine asp 19 (fun hb3=>?_) fun hb3=>?_
 .
  refine wk 10 ?_;exact JF
 refine wk 7 ?_;refine asp 24 (fun hb4=>?_) fun hb4=>?_
 .
  refine wk 8 ?_;refine ax 30 (CR Tryz.func88 (Ol _ _ _ hb)) ?_;refine wk 6 ?_;exact JF
 refine wk 5 ?_;refine asp 24 (fun hb5=>?_) fun hb5=>?_
 .
  refine wk 6 ?_;refine ax 30 (CR Tryz.func88 (Ol _ _ _ hb)) ?_;refine wk 6 ?_;exact JF
 refine wk 6 ?_;refine asp 33 (fun hb6=>?_) fun hb6=>?_
 .
  refine wk 10 ?_;exact JF
 refine wk 6 ?_;refine asp 38 (fun hb7=>?_) fun hb7=>?_
 .
  refine wk 10 ?_;exact JF
 refine wk 6 ?_;refine asp 43 (fun hb8=>?_) fun hb8=>?_
 .
  refine wk 10 ?_;exact JF
 refine wk 7 ?_;refine asp 48 (fun hb9=>?_) fun hb9=>?_
 .
  refine wk 8 ?_;refine ax 54 (CR Tryz.func89 (Qb _ _ _ hb)) ?_;refine wk 4 ?_;exact JF
 refine wk 5 ?_;refine asp 48 (fun hb10=>?_) fun hb10=>?_
 .
  refine wk 6 ?_;refine ax 54 (CR Tryz.func89 (Qb _ _ _ hb)) ?_;refine wk 4 ?_;exact JF
 refine wk 7 ?_;refine asp 55 (fun hb11=>?_) fun hb11=>?_
 .
  refine wk 8 ?_;refine ax 61 (CR Tryz.func90 (MJ _ _ _ hb)) ?_;refine wk 4 ?_;exact JF
 refine wk 5 ?_;refine asp 55 (fun hb12=>?_) fun hb12=>?_
 .
  refine wk 6 ?_;refine ax 61 (CR Tryz.func90 (MJ _ _ _ hb)) ?_;refine wk 4 ?_;exact JF
 refine wk 8 ?_;exact JF
theorem Hl(first:Int)(K:List (List Int))(hf:0<=first/\first<=100000)(h4:∀k∈K,k.length=4)(hK:K.length<=100000)(n:Int)(hn:0<=n/\n<first+K.length):Ca Tryz.prog 310 [.ptr 4 1 0 0,.int .i64 n] (Al (Al (Al hNew 3 (.map (BI .i64 (B5 first (K))))) 4 (rf 3 [[.int .i64 first,.map 3,CY 9 ((K).map (Ao .i64))]])) 9 (Dv 4 ((K).map (Ao .i64)))) (.tup [.int .u32 (AZ first K n).1,.bool (AZ first K n).2]) (Al (Al (Al hNone 3 (.map (BI .i64 (B5 first (K))))) 4 (rf 3 [[.int .i64 first,.map 3,CY 9 ((K).map (Ao .i64))]])) 9 (Dv 4 ((K).map (Ao .i64)))):=by
 refine ACall.of_body (n:=31) Am Tryz.func310 rfl rfl ?_;refine wk 15 ?_;refine asp 12 (fun hb1=>?_) fun hb1=>?_
 .
  refine act ?_;have hlo:=hb1;exact fL
 refine BK ?_;obtain⟨hi1,hi2,a,b,c,d,hg,hv⟩:=vK h4 hn hb1;refine wk 12 ?_;refine dq 22 (BB (r:=.int .i64 (n-first)) rfl rfl rfl (tP Ab Ab rfl)) ?_;refine dq 23 (LP Am (h0:=hi1) (hn:=hi2)) ?_;refine dq 24 (Aw Am rfl rfl rfl (i5 rfl hg) rfl) ?_;refine dx 6 (I7 Am 12) ?_;refine wk 4 ?_;refine dq 25 (G3 Am rfl rfl rfl rfl rfl rfl A7 A7 rfl) ?_;refine wk 2 ?_;refine dq 28 (G3 Am rfl rfl rfl rfl rfl rfl A7 A7 rfl) ?_;exact fL
theorem R5(first:Int)(K:List (List Int))(hf:0<=first/\first<=100000)(h4:∀k∈K,k.length=4)(hK:K.length<=100000)(op a b:Int)(ha:0<=a/\a<first+K.length)(hb:0<=b/\b<first+K.length):Ca Tryz.prog 311 [.ptr 4 1 0 0,.int .i64 op,.int .i64 a,.int .i64 b] (Al (Al (Al hNew 3 (.map (BI .i64 (B5 first (K))))) 4 (rf 3 [[.int .i64 first,.map 3,CY 9 ((K).map (Ao .i64))]])) 9 (Dv 4 ((K).map (Ao .i64)))) (.int .i64 (Bs first K op a b).1) (Al (Al (Al hNone 3 (.map (BI .i64 (B5 first ((Bs first K op a b).2))))) 4 (rf 3 [[.int .i64 first,.map 3,CY 9 (((Bs first K op a b).2).map (Ao .i64))]])) 9 (Dv 4 (((Bs first K op a b).2).map (Ao .i64)))):=by
 refine ACall.of_body (n:=51) Am Tryz.func311 rfl rfl ?_;refine wk 8 ?_;refine ax 18 (JW (Hl first K hf h4 hK a ha) [9,4,3] [(3,(.map (BI .i64 (B5 first (K))))),(4,(rf 3 [[.int .i64 first,.map 3,CY 9 ((K).map (Ao .i64))]])),(9,(Dv 4 ((K).map (Ao .i64))))] rfl Tryz.func310 Ay rfl rfl rfl ⟨⟨_,rfl,As⟩,⟨_,rfl,As⟩,⟨_,rfl,As⟩,trivial⟩ rfl C6 ⟨⟨_,rfl,rfl,As⟩,⟨_,rfl,rfl,As⟩,⟨_,rfl,rfl,As⟩,trivial⟩ rfl) ?_;refine wk 10 ?_;refine ax 24 (JW (Hl first K hf h4 hK b hb) [9,4,3] [(3,(.map (BI .i64 (B5 first (K))))),(4,(rf 3 [[.int .i64 first,.map 3,CY 9 ((K).map (Ao .i64))]])),(9,(Dv 4 ((K).map (Ao .i64))))] rfl Tryz.func310 Ay rfl rfl rfl ⟨⟨_,rfl,As⟩,⟨_,rfl,As⟩,⟨_,rfl,As⟩,trivial⟩ rfl C6 ⟨⟨_,rfl,rfl,As⟩,⟨_,rfl,rfl,As⟩,⟨_,rfl,rfl,As⟩,trivial⟩ rfl) ?_;refine wk 11 ?_;refine BH 28 (fun hb1=>?_) fun hb1=>?_
 .
  refine wk 3 ?_;refine asp 30 (fun hb2=>?_) fun hb2=>?_
  .
   refine wk 6 ?_;refine ax 35 (CR Tryz.func47 (Rs op _ _ (Lm first K b).1)) ?_;refine wk 11 ?_;refine asp 39 (fun hb3=>?_) fun hb3=>?_
   .
    refine wk 5 ?_;refine aq 42 (Dc Am rfl rfl rfl rfl rfl (r:=(B1 op (AZ first K a).1 (AZ first K b).1).1) (by have h:=Hv (op:=op) (Lm first K a) (Lm first K b);obtain⟨h1,h2⟩:=h;exact B4 Ab Ab)) ?_;refine aq 43 RP ?_;refine ax 44 (JW (FR first K hf h4 hK 1 (B1 op (AZ first K a).1 (AZ first K b).1).1 0 0) [9,4,3] [(3,(.map (BI .i64 (B5 first ((Ck first K [1,(B1 op (AZ first K a).1 (AZ first K b).1).1,0,0]).2))))),(4,(rf 3 [[.int .i64 first,.map 3,CY 9 (((Ck first K [1,(B1 op (AZ first K a).1 (AZ first K b).1).1,0,0]).2).map (Ao .i64))]])),(9,(Dv 4 (((Ck first K [1,(B1 op (AZ first K a).1 (AZ first K b).1).1,0,0]).2).map (Ao .i64))))] rfl Tryz.func306 Ay rfl rfl rfl ⟨⟨_,rfl,As⟩,⟨_,rfl,As⟩,⟨_,rfl,As⟩,trivial⟩ rfl C6 ⟨⟨_,rfl,rfl,As⟩,⟨_,rfl,rfl,As⟩,⟨_,rfl,rfl,As⟩,trivial⟩ rfl) ?_;refine wk 3 ?_
    first
    |(refine⟨[_],⟨rfl,trivial⟩,?_,?_⟩<;>rw[PR BD BD BD]<;>first|rfl|exact HSub.put (HSub.put (HSub.put (HSub.none _) rfl) rfl) rfl)
   refine wk 8 ?_;exact vF
  refine wk 8 ?_;exact vF
 refine wk 11 ?_;exact vF
theorem Dq(first:Int)(R m:Nat)(w:VW)(h:VOk first R m w)(hm:m<=90000)(t:Tac)(a b:Int):∀jp jv jo:Nat,aF jp jv jo->Ca Tryz.prog 308 [.ptr jp 1 0 0,.agg t.cells,.int .i64 a,.int .i64 b] (vH jp jv jo first hNew w) (.tup []) (vH jp jv jo first hNone ((w.hap t a b))):=by
 refine vv ?_ ?_;all_goals
  intro jp jv jo;have hP:aF jp jv jo:=by first|exact .a|exact .b
  have hel:=h.el;refine ACall.of_body (n:=26) Am Tryz.func308 rfl rfl ?_;refine Gy ?_;refine ax 5 (Dn 8 12) ?_;refine wk 15 ?_;refine dq 21 RP ?_;refine dx 22 Iy ?_;refine dx 23 (Ih Am (b:=jo) (es:=((w.effs).map (Ao .i64))) rfl rfl rfl rfl rfl rfl rfl rfl rfl rfl rfl (Nat.zero_lt_succ _) (Pw h.e6) (MR _) rfl rfl gY aY) ?_;refine wk 2 ?_;refine DOps.w rfl rfl (I8 Am rfl rfl rfl rfl rfl rfl rfl rfl rfl (JO _ _) A7 (JP _ _) ED) ?_;refine wk 1 ?_;refine⟨[],trivial,rfl,?_⟩;exact HSub.put (HSub.put (HSub.put (HSub.put (HSub.put (HSub.put (HSub.none _) rfl) rfl) rfl) (by show _=some (rf 4 [[.ptr 4 1 0 0,DR jv (A8 (w.vals)),CY jo ((w.effs++[_]).map (Ao .i64)),.int .i64 w.time]]);rw[List.map_append];rfl)) rfl) (by show _=some (Dv 6 ((w.effs++[_]).map (Ao .i64)));rw[List.map_append];rfl)
theorem Km(first:Int)(R m:Nat)(w:VW)(h:VOk first R m w)(hm:m<=90000):∀jp jv jo:Nat,aF jp jv jo->Ca Tryz.prog 309 [.ptr jp 1 0 0] (vH jp jv jo first hNew w) (.int .i64 (GN first w).1) (Al (Al (Al (Al (Al (Al hNone 3 (.map (BI .i64 (B5 first ((GN first w).2))))) 4 (rf 3 [[.int .i64 first,.map 3,CY 9 (((GN first w).2).map (Ao .i64))]])) 9 (Dv 4 (((GN first w).2).map (Ao .i64)))) jp (rf 4 [[.ptr 4 1 0 0,DR jv (A8 ((w).vals)),CY jo (((w).effs).map (Ao .i64)),.int .i64 ((w).time)]])) jv (Fe (A8 ((w).vals)))) jo (Dv 6 (((w).effs).map (Ao .i64)))):=by
 refine vv ?_ ?_;all_goals
  intro jp jv jo;have hP:aF jp jv jo:=by first|exact .a|exact .b
  have hkl:=h.kl;refine ACall.of_body (n:=14) Am Tryz.func309 rfl rfl ?_;refine wk 14 ?_;refine dq 11 W9 ?_;refine dq 12 RP ?_;refine dx 13 (JW ((by rw[List.length_map];exact FR first w.K h.f h.k4 Ab 4 (w.effs.length:Int) 0 0)) [9,4,3] [(3,(.map (BI .i64 (B5 first ((GN first w).2))))),(4,(rf 3 [[.int .i64 first,.map 3,CY 9 (((GN first w).2).map (Ao .i64))]])),(9,(Dv 4 (((GN first w).2).map (Ao .i64))))] rfl Tryz.func306 Ay rfl rfl rfl ⟨⟨_,rfl,As⟩,⟨_,rfl,As⟩,⟨_,rfl,As⟩,trivial⟩ rfl C6 ⟨⟨_,rfl,rfl,As⟩,⟨_,rfl,rfl,As⟩,⟨_,rfl,rfl,As⟩,trivial⟩ rfl) ?_;refine wk 3 ?_;refine⟨[_],⟨rfl,trivial⟩,rfl,?_⟩;exact RD
theorem j4(first:Int)(w:VW)(t:Tac):w.bin first t=⟨(Bs first w.K t.k (Ah w.vals t.a) (Ah w.vals t.b)).2,Bi w.vals t.d (Bs first w.K t.k (Ah w.vals t.a) (Ah w.vals t.b)).1,(w.div first t).effs,w.time⟩:=by
 cases hr:vrisky first w t with
 |true=>rw[dV hr];simp only[VW.div,hr,cond_true]
 |false=>rw[jZ hr];simp only[VW.div,hr,cond_false]
theorem Tg(first:Int)(R m:Nat)(w:VW)(h:VOk first R m w)(hm:m<=90000)(t:Tac)(hd:0<=t.d/\t.d<R)(ha:0<=t.a/\t.a<R)(hb:0<=t.b/\t.b<R):∀jp jv jo:Nat,aF jp jv jo->Ca Tryz.prog 307 [.ptr jp 1 0 0,.agg t.cells] (vH jp jv jo first hNew w) (.tup []) (vH jp jv jo first hNone ((w.bin first t))):=by
 refine vv ?_ ?_;all_goals
  intro jp jv jo;have hP:aF jp jv jo:=by first|exact .a|exact .b
  have hel:=h.el;have hkl:=h.kl;have hxd:=h.at hd;have hxa:=h.at ha;have hxb:=h.at hb;refine ACall.of_body (n:=77) Am Tryz.func307 rfl rfl ?_;refine Gy ?_;refine ax 3 (Dn 8 12) ?_;refine wk 9 ?_;refine dq 14 (Bh Am rfl rfl rfl rfl rfl rfl rfl rfl hxa.1 hxa.2.2.1) ?_;refine dq 15 (Aw Am rfl rfl rfl (I4 rfl (B6 ⟨hxa.1,hxa.2.1⟩)) rfl) ?_;refine wk 6 ?_;refine dq 22 (Bh Am rfl rfl rfl rfl rfl rfl rfl rfl hxb.1 hxb.2.2.1) ?_;refine dq 23 (Aw Am rfl rfl rfl (I4 rfl (B6 ⟨hxb.1,hxb.2.1⟩)) rfl) ?_;refine wk 5 ?_;refine AGo.join (γ:=Unit) (fun _u=>⟨77,(Ad (Ad (Ad (Ad (Ad BC 0 (pZ jp)) 3 (pZ 12)) 4 (.int .i64 (Ah w.vals t.a))) 5 (.int .i64 (Ah w.vals t.b))) 31 (.bool (t.k==7||t.k==8))),(vH jp jv jo first (Al (AU 13) 12 (rf 8 [t.cells])) w)⟩) (fun _u=>True) ?_ ?_
  .
   refine wk 5 ?_;refine BH 27 (fun hb1=>?_) fun hb1=>?_
   .
    exact kY
   exact kY
  intro _u _;refine AGo.join (γ:=Unit) (fun _u=>⟨77,(Ad (Ad (Ad (Ad BC 0 (pZ jp)) 3 (pZ 12)) 4 (.int .i64 (Ah w.vals t.a))) 5 (.int .i64 (Ah w.vals t.b))),(Al (Al (Al (Al (Al (Al (Al (AU 13) 12 (rf 8 [t.cells])) 3 (.map (BI .i64 (B5 first (w.K))))) 4 (rf 3 [[.int .i64 first,.map 3,CY 9 ((w.K).map (Ao .i64))]])) 9 (Dv 4 ((w.K).map (Ao .i64)))) jp (rf 4 [[.ptr 4 1 0 0,DR jv (A8 ((w).vals)),CY jo (((w.div first t).effs).map (Ao .i64)),.int .i64 (w.time)]])) jv (Fe (A8 ((w).vals)))) jo (Dv 6 (((w.div first t).effs).map (Ao .i64))))⟩) (fun _u=>True) ?_ ?_
  .
   refine asp 31 (fun hb2=>?_) fun hb2=>?_
   .
    refine wk 8 ?_;refine ax 38 (JW (Hl first w.K h.f h.k4 Ab (Ah w.vals t.b) hxb.2.2.2) [9,4,3] [(3,(.map (BI .i64 (B5 first (w.K))))),(4,(rf 3 [[.int .i64 first,.map 3,CY 9 ((w.K).map (Ao .i64))]])),(9,(Dv 4 ((w.K).map (Ao .i64))))] rfl Tryz.func310 Ay rfl rfl rfl ⟨⟨_,rfl,As⟩,⟨_,rfl,As⟩,⟨_,rfl,As⟩,trivial⟩ rfl C6 ⟨⟨_,rfl,rfl,As⟩,⟨_,rfl,rfl,As⟩,⟨_,rfl,rfl,As⟩,trivial⟩ rfl) ?_;refine wk 11 ?_;refine BH 43 (fun hb3=>?_) fun hb3=>?_
    .
     refine wk 15 ?_;exact lg
    refine wk 4 ?_;refine asp 46 (fun hb4=>?_) fun hb4=>?_
    .
     refine wk 11 ?_;exact lg
    refine wk 2 ?_;exact gW
   refine wk 2 ?_;exact gW
  intro _u _;refine wk 15 ?_;refine dx 75 (JW (R5 first w.K h.f h.k4 Ab t.k (Ah w.vals t.a) (Ah w.vals t.b) hxa.2.2.2 hxb.2.2.2) [9,4,3] [(3,(.map (BI .i64 (B5 first ((Bs first w.K t.k (Ah w.vals t.a) (Ah w.vals t.b)).2))))),(4,(rf 3 [[.int .i64 first,.map 3,CY 9 (((Bs first w.K t.k (Ah w.vals t.a) (Ah w.vals t.b)).2).map (Ao .i64))]])),(9,(Dv 4 (((Bs first w.K t.k (Ah w.vals t.a) (Ah w.vals t.b)).2).map (Ao .i64))))] rfl Tryz.func311 Ay rfl rfl rfl ⟨⟨_,rfl,As⟩,⟨_,rfl,As⟩,⟨_,rfl,As⟩,trivial⟩ rfl C6 ⟨⟨_,rfl,rfl,As⟩,⟨_,rfl,rfl,As⟩,⟨_,rfl,rfl,As⟩,trivial⟩ rfl) ?_;refine dq 76 (Bh Am rfl rfl rfl rfl rfl rfl rfl rfl hxd.1 hxd.2.2.1) ?_;refine DOps.w rfl rfl (DG Am rfl rfl rfl rfl rfl rfl rfl UR (Dz _) rfl rfl rfl) ?_;refine wk 1 ?_;refine⟨[],trivial,rfl,?_⟩;rw[j4];exact HSub.put (HSub.put (HSub.put (HSub.put (HSub.put (HSub.put (HSub.none _) rfl) rfl) rfl) (by show _=some (rf 4 [[.ptr 4 1 0 0,DR jv (A8 (Bi w.vals t.d _)),CY jo ((w.div first t).effs.map (Ao .i64)),.int .i64 w.time]]);rw[II];rfl)) bf) rfl
theorem Nr(first:Int)(R m:Nat)(w:VW)(h:VOk first R m w)(hm:m<=80000)(t:Tac)(ht:Pz t R):∀jp jv jo:Nat,aF jp jv jo->Ca Tryz.prog 304 [.ptr jp 1 0 0,.agg t.cells] (vH jp jv jo first hNew w) (.tup []) (vH jp jv jo first hNone ((w.step first t))):=by
 refine vv ?_ ?_;all_goals
  intro jp jv jo;have hP:aF jp jv jo:=by first|exact .a|exact .b
  have hel:=h.el;have hkl:=h.kl;have htl:=h.tl;refine ACall.of_body (n:=148) Am Tryz.func304 rfl rfl ?_;refine Gy ?_;refine ax 3 (Dn 8 12) ?_;refine wk 20 ?_;refine asp 11 (fun hb1=>?_) fun hb1=>?_
  .
   refine act ?_;have ho:t.op=1:=by simpa using hb1
   have hxd:=h.at (ht.d CH);refine wk 10 ?_;refine dq 22 (Dc Am rfl rfl rfl rfl rfl (r:=t.n) (by obtain⟨h1,h2⟩:=ht.n;exact B4 Ab Ab)) ?_;refine dq 23 RP ?_;refine dx 24 (JW (FR first w.K h.f h.k4 Ab (1) (t.n) (0) (0)) [9,4,3] [(3,(.map (BI .i64 (B5 first ((Ck first w.K [1,t.n,0,0]).2))))),(4,(rf 3 [[.int .i64 first,.map 3,CY 9 (((Ck first w.K [1,t.n,0,0]).2).map (Ao .i64))]])),(9,(Dv 4 (((Ck first w.K [1,t.n,0,0]).2).map (Ao .i64))))] rfl Tryz.func306 Ay rfl rfl rfl ⟨⟨_,rfl,As⟩,⟨_,rfl,As⟩,⟨_,rfl,As⟩,trivial⟩ rfl C6 ⟨⟨_,rfl,rfl,As⟩,⟨_,rfl,rfl,As⟩,⟨_,rfl,rfl,As⟩,trivial⟩ rfl) ?_;refine dq 25 (Bh Am rfl rfl rfl rfl rfl rfl rfl rfl hxd.1 hxd.2.2.1) ?_;refine DOps.w rfl rfl (DG Am rfl rfl rfl rfl rfl rfl rfl UR (Dz _) rfl rfl rfl) ?_;refine wk 1 ?_;refine⟨[],trivial,rfl,?_⟩;rw[Xr ho];exact gU
  refine wk 6 ?_;refine asp 26 (fun hb2=>?_) fun hb2=>?_
  .
   refine act ?_;have ho:t.op=2:=by simpa using hb2
   have hxd:=h.at (ht.d CH);have hxa:=h.at (ht.a (.inl CH));refine wk 7 ?_;refine dq 34 (Bh Am rfl rfl rfl rfl rfl rfl rfl rfl hxa.1 hxa.2.2.1) ?_;refine dq 35 (Aw Am rfl rfl rfl (I4 rfl (B6 ⟨hxa.1,hxa.2.1⟩)) rfl) ?_;refine dq 36 (Bh Am rfl rfl rfl rfl rfl rfl rfl rfl hxd.1 hxd.2.2.1) ?_;refine DOps.w rfl rfl (DG Am rfl rfl rfl rfl rfl rfl rfl UR (Dz _) rfl rfl rfl) ?_;refine wk 1 ?_;refine⟨[],trivial,rfl,?_⟩;rw[Xq ho];exact gU
  refine wk 6 ?_;refine asp 37 (fun hb3=>?_) fun hb3=>?_
  .
   refine act ?_;have ho:t.op=3:=by simpa using hb3
   refine wk 3 ?_;refine ax 41 (JW (Tg first R m w h Ab t (ht.d CH) (ht.a (.inr CH)) (ht.b CH) jp jv jo hP) [jo,jv,jp,9,4,3] [(3,(.map (BI .i64 (B5 first (((w.bin first t)).K))))),(4,(rf 3 [[.int .i64 first,.map 3,CY 9 ((((w.bin first t)).K).map (Ao .i64))]])),(9,(Dv 4 ((((w.bin first t)).K).map (Ao .i64)))),(jp,(rf 4 [[.ptr 4 1 0 0,DR jv (A8 (((w.bin first t)).vals)),CY jo ((((w.bin first t)).effs).map (Ao .i64)),.int .i64 (((w.bin first t)).time)]])),(jv,(Fe (A8 (((w.bin first t)).vals)))),(jo,(Dv 6 ((((w.bin first t)).effs).map (Ao .i64))))] rfl Tryz.func307 Ay rfl rfl rfl ⟨⟨_,rfl,As⟩,⟨_,rfl,As⟩,⟨_,rfl,As⟩,⟨_,rfl,As⟩,⟨_,rfl,As⟩,⟨_,rfl,As⟩,trivial⟩ rfl C6 ⟨⟨_,rfl,rfl,As⟩,⟨_,rfl,rfl,As⟩,⟨_,rfl,rfl,As⟩,⟨_,rfl,rfl,As⟩,⟨_,rfl,rfl,As⟩,⟨_,rfl,rfl,As⟩,trivial⟩ rfl) ?_;refine an ?_;refine⟨[],trivial,rfl,?_⟩;rw[Xp ho];exact RD
  refine wk 6 ?_;refine asp 42 (fun hb4=>?_) fun hb4=>?_
  .
   refine act ?_;have ho:t.op=4:=by simpa using hb4
   have hxd:=h.at (ht.d CH);refine wk 14 ?_;refine dq 57 RP ?_;refine dx 58 (JW (FR first w.K h.f h.k4 Ab (3) (t.base) (w.time) (0)) [9,4,3] [(3,(.map (BI .i64 (B5 first ((Ck first w.K [3,t.base,w.time,0]).2))))),(4,(rf 3 [[.int .i64 first,.map 3,CY 9 (((Ck first w.K [3,t.base,w.time,0]).2).map (Ao .i64))]])),(9,(Dv 4 (((Ck first w.K [3,t.base,w.time,0]).2).map (Ao .i64))))] rfl Tryz.func306 Ay rfl rfl rfl ⟨⟨_,rfl,As⟩,⟨_,rfl,As⟩,⟨_,rfl,As⟩,trivial⟩ rfl C6 ⟨⟨_,rfl,rfl,As⟩,⟨_,rfl,rfl,As⟩,⟨_,rfl,rfl,As⟩,trivial⟩ rfl) ?_;refine dq 59 (Bh Am rfl rfl rfl rfl rfl rfl rfl rfl hxd.1 hxd.2.2.1) ?_;refine DOps.w rfl rfl (DG Am rfl rfl rfl rfl rfl rfl rfl UR (Dz _) rfl rfl rfl) ?_;refine wk 1 ?_;refine⟨[],trivial,rfl,?_⟩;rw[Xo ho];exact gU
  refine wk 6 ?_;refine asp 60 (fun hb5=>?_) fun hb5=>?_
  .
   refine act ?_;have ho:t.op=5:=by simpa using hb5
   have hxa:=h.at (ht.a (.inl CH));refine wk 7 ?_;refine dq 67 (Bh Am rfl rfl rfl rfl rfl rfl rfl rfl hxa.1 hxa.2.2.1) ?_;refine dq 68 (Aw Am rfl rfl rfl (I4 rfl (B6 ⟨hxa.1,hxa.2.1⟩)) rfl) ?_;refine dx 69 (JW (Dq first R m w h Ab t (Ah w.vals t.a) 0 jp jv jo hP) [jo,jv,jp,9,4,3] [(3,(.map (BI .i64 (B5 first (((w.hap t (Ah w.vals t.a) 0)).K))))),(4,(rf 3 [[.int .i64 first,.map 3,CY 9 ((((w.hap t (Ah w.vals t.a) 0)).K).map (Ao .i64))]])),(9,(Dv 4 ((((w.hap t (Ah w.vals t.a) 0)).K).map (Ao .i64)))),(jp,(rf 4 [[.ptr 4 1 0 0,DR jv (A8 (((w.hap t (Ah w.vals t.a) 0)).vals)),CY jo ((((w.hap t (Ah w.vals t.a) 0)).effs).map (Ao .i64)),.int .i64 (((w.hap t (Ah w.vals t.a) 0)).time)]])),(jv,(Fe (A8 (((w.hap t (Ah w.vals t.a) 0)).vals)))),(jo,(Dv 6 ((((w.hap t (Ah w.vals t.a) 0)).effs).map (Ao .i64))))] rfl Tryz.func308 Ay rfl rfl rfl ⟨⟨_,rfl,As⟩,⟨_,rfl,As⟩,⟨_,rfl,As⟩,⟨_,rfl,As⟩,⟨_,rfl,As⟩,⟨_,rfl,As⟩,trivial⟩ rfl C6 ⟨⟨_,rfl,rfl,As⟩,⟨_,rfl,rfl,As⟩,⟨_,rfl,rfl,As⟩,⟨_,rfl,rfl,As⟩,⟨_,rfl,rfl,As⟩,⟨_,rfl,rfl,As⟩,trivial⟩ rfl) ?_
   refine wk 6 ?_;refine aq 74 (BB (r:=.int .i64 (w.time+1)) rfl rfl rfl (by exact XA (x:=w.time) Ab)) ?_;refine wk 4 ?_;refine⟨[],trivial,rfl,?_⟩;rw[Xn ho];exact RD
  refine wk 6 ?_;refine asp 77 (fun hb6=>?_) fun hb6=>?_
  .
   refine act ?_;have ho:t.op=6:=by simpa using hb6
   have hxd:=h.at (ht.d CH);have hxa:=h.at (ht.a (.inl CH));refine wk 7 ?_;refine dq 84 (Bh Am rfl rfl rfl rfl rfl rfl rfl rfl hxa.1 hxa.2.2.1) ?_;refine dq 85 (Aw Am rfl rfl rfl (I4 rfl (B6 ⟨hxa.1,hxa.2.1⟩)) rfl) ?_;refine dx 86 (JW (Dq first R m w h Ab t (Ah w.vals t.a) 0 jp jv jo hP) [jo,jv,jp,9,4,3] [(3,(.map (BI .i64 (B5 first (((w.hap t (Ah w.vals t.a) 0)).K))))),(4,(rf 3 [[.int .i64 first,.map 3,CY 9 ((((w.hap t (Ah w.vals t.a) 0)).K).map (Ao .i64))]])),(9,(Dv 4 ((((w.hap t (Ah w.vals t.a) 0)).K).map (Ao .i64)))),(jp,(rf 4 [[.ptr 4 1 0 0,DR jv (A8 (((w.hap t (Ah w.vals t.a) 0)).vals)),CY jo ((((w.hap t (Ah w.vals t.a) 0)).effs).map (Ao .i64)),.int .i64 (((w.hap t (Ah w.vals t.a) 0)).time)]])),(jv,(Fe (A8 (((w.hap t (Ah w.vals t.a) 0)).vals)))),(jo,(Dv 6 ((((w.hap t (Ah w.vals t.a) 0)).effs).map (Ao .i64))))] rfl Tryz.func308 Ay rfl rfl rfl ⟨⟨_,rfl,As⟩,⟨_,rfl,As⟩,⟨_,rfl,As⟩,⟨_,rfl,As⟩,⟨_,rfl,As⟩,⟨_,rfl,As⟩,trivial⟩ rfl C6 ⟨⟨_,rfl,rfl,As⟩,⟨_,rfl,rfl,As⟩,⟨_,rfl,rfl,As⟩,⟨_,rfl,rfl,As⟩,⟨_,rfl,rfl,As⟩,⟨_,rfl,rfl,As⟩,trivial⟩ rfl) ?_
   refine wk 6 ?_;refine dx 91 (JW (Km first R (m+1) (w.hap t (Ah w.vals t.a) 0) (h.eff rfl) Ab jp jv jo hP) [jo,jv,jp,9,4,3] [(3,(.map (BI .i64 (B5 first ((GN first (w.hap t (Ah w.vals t.a) 0)).2))))),(4,(rf 3 [[.int .i64 first,.map 3,CY 9 (((GN first (w.hap t (Ah w.vals t.a) 0)).2).map (Ao .i64))]])),(9,(Dv 4 (((GN first (w.hap t (Ah w.vals t.a) 0)).2).map (Ao .i64)))),(jp,(rf 4 [[.ptr 4 1 0 0,DR jv (A8 (((w.hap t (Ah w.vals t.a) 0)).vals)),CY jo ((((w.hap t (Ah w.vals t.a) 0)).effs).map (Ao .i64)),.int .i64 (((w.hap t (Ah w.vals t.a) 0)).time)]])),(jv,(Fe (A8 (((w.hap t (Ah w.vals t.a) 0)).vals)))),(jo,(Dv 6 ((((w.hap t (Ah w.vals t.a) 0)).effs).map (Ao .i64))))] rfl Tryz.func309 Ay rfl rfl rfl ⟨⟨_,rfl,As⟩,⟨_,rfl,As⟩,⟨_,rfl,As⟩,⟨_,rfl,As⟩,⟨_,rfl,As⟩,⟨_,rfl,As⟩,trivial⟩ rfl C6 ⟨⟨_,rfl,rfl,As⟩,⟨_,rfl,rfl,As⟩,⟨_,rfl,rfl,As⟩,⟨_,rfl,rfl,As⟩,⟨_,rfl,rfl,As⟩,⟨_,rfl,rfl,As⟩,trivial⟩ rfl) ?_
   refine dq 92 (Bh Am rfl rfl rfl rfl rfl rfl rfl rfl hxd.1 hxd.2.2.1) ?_;refine DOps.w rfl rfl (DG Am rfl rfl rfl rfl rfl rfl rfl UR (Dz _) rfl rfl rfl) ?_;refine wk 1 ?_;refine⟨[],trivial,rfl,?_⟩;rw[Xm ho];exact HSub.put (HSub.put (HSub.put (HSub.put (HSub.put (HSub.put (HSub.none _) rfl) rfl) rfl) (by show _=some (rf 4 [[.ptr 4 1 0 0,DR jv (A8 (Bi w.vals t.d _)),CY jo ((w.hap t (Ah w.vals t.a) 0).effs.map (Ao .i64)),.int .i64 w.time]]);rw[II];rfl)) bf) rfl
  refine wk 6 ?_;refine asp 93 (fun hb7=>?_) fun hb7=>?_
  .
   refine act ?_;have ho:t.op=7:=by simpa using hb7
   have hxa:=h.at (ht.a (.inr CH));have hxb:=h.at (ht.b CH);refine wk 7 ?_;refine dq 100 (Bh Am rfl rfl rfl rfl rfl rfl rfl rfl hxa.1 hxa.2.2.1) ?_;refine dq 101 (Aw Am rfl rfl rfl (I4 rfl (B6 ⟨hxa.1,hxa.2.1⟩)) rfl) ?_;refine wk 3 ?_;refine dq 105 (Bh Am rfl rfl rfl rfl rfl rfl rfl rfl hxb.1 hxb.2.2.1) ?_;refine dq 106 (Aw Am rfl rfl rfl (I4 rfl (B6 ⟨hxb.1,hxb.2.1⟩)) rfl) ?_;refine dx 107 (JW (Dq first R m w h Ab t (Ah w.vals t.a) (Ah w.vals t.b) jp jv jo hP) [jo,jv,jp,9,4,3] [(3,(.map (BI .i64 (B5 first (((w.hap t (Ah w.vals t.a) (Ah w.vals t.b))).K))))),(4,(rf 3 [[.int .i64 first,.map 3,CY 9 ((((w.hap t (Ah w.vals t.a) (Ah w.vals t.b))).K).map (Ao .i64))]])),(9,(Dv 4 ((((w.hap t (Ah w.vals t.a) (Ah w.vals t.b))).K).map (Ao .i64)))),(jp,(rf 4 [[.ptr 4 1 0 0,DR jv (A8 (((w.hap t (Ah w.vals t.a) (Ah w.vals t.b))).vals)),CY jo ((((w.hap t (Ah w.vals t.a) (Ah w.vals t.b))).effs).map (Ao .i64)),.int .i64 (((w.hap t (Ah w.vals t.a) (Ah w.vals t.b))).time)]])),(jv,(Fe (A8 (((w.hap t (Ah w.vals t.a) (Ah w.vals t.b))).vals)))),(jo,(Dv 6 ((((w.hap t (Ah w.vals t.a) (Ah w.vals t.b))).effs).map (Ao .i64))))] rfl Tryz.func308 Ay rfl rfl rfl ⟨⟨_,rfl,As⟩,⟨_,rfl,As⟩,⟨_,rfl,As⟩,⟨_,rfl,As⟩,⟨_,rfl,As⟩,⟨_,rfl,As⟩,trivial⟩ rfl C6 ⟨⟨_,rfl,rfl,As⟩,⟨_,rfl,rfl,As⟩,⟨_,rfl,rfl,As⟩,⟨_,rfl,rfl,As⟩,⟨_,rfl,rfl,As⟩,⟨_,rfl,rfl,As⟩,trivial⟩ rfl) ?_
   refine wk 6 ?_;refine aq 112 (BB (r:=.int .i64 (w.time+1)) rfl rfl rfl (by exact XA (x:=w.time) Ab)) ?_;refine wk 4 ?_;refine⟨[],trivial,rfl,?_⟩;rw[Xl ho];exact RD
  refine wk 6 ?_;refine asp 115 (fun hb8=>?_) fun hb8=>?_
  .
   refine act ?_;have ho:t.op=8:=by simpa using hb8
   have hxd:=h.at (ht.d CH);refine wk 4 ?_;refine ax 119 (JW (Dq first R m w h Ab t 0 0 jp jv jo hP) [jo,jv,jp,9,4,3] [(3,(.map (BI .i64 (B5 first (((w.hap t 0 0)).K))))),(4,(rf 3 [[.int .i64 first,.map 3,CY 9 ((((w.hap t 0 0)).K).map (Ao .i64))]])),(9,(Dv 4 ((((w.hap t 0 0)).K).map (Ao .i64)))),(jp,(rf 4 [[.ptr 4 1 0 0,DR jv (A8 (((w.hap t 0 0)).vals)),CY jo ((((w.hap t 0 0)).effs).map (Ao .i64)),.int .i64 (((w.hap t 0 0)).time)]])),(jv,(Fe (A8 (((w.hap t 0 0)).vals)))),(jo,(Dv 6 ((((w.hap t 0 0)).effs).map (Ao .i64))))] rfl Tryz.func308 Ay rfl rfl rfl ⟨⟨_,rfl,As⟩,⟨_,rfl,As⟩,⟨_,rfl,As⟩,⟨_,rfl,As⟩,⟨_,rfl,As⟩,⟨_,rfl,As⟩,trivial⟩ rfl C6 ⟨⟨_,rfl,rfl,As⟩,⟨_,rfl,rfl,As⟩,⟨_,rfl,rfl,As⟩,⟨_,rfl,rfl,As⟩,⟨_,rfl,rfl,As⟩,⟨_,rfl,rfl,As⟩,trivial⟩ rfl) ?_;refine wk 6 ?_;refine dx 124 (JW (Km first R (m+1) (w.hap t 0 0) (h.eff rfl) Ab jp jv jo hP) [jo,jv,jp,9,4,3] [(3,(.map (BI .i64 (B5 first ((GN first (w.hap t 0 0)).2))))),(4,(rf 3 [[.int .i64 first,.map 3,CY 9 (((GN first (w.hap t 0 0)).2).map (Ao .i64))]])),(9,(Dv 4 (((GN first (w.hap t 0 0)).2).map (Ao .i64)))),(jp,(rf 4 [[.ptr 4 1 0 0,DR jv (A8 (((w.hap t 0 0)).vals)),CY jo ((((w.hap t 0 0)).effs).map (Ao .i64)),.int .i64 (((w.hap t 0 0)).time)]])),(jv,(Fe (A8 (((w.hap t 0 0)).vals)))),(jo,(Dv 6 ((((w.hap t 0 0)).effs).map (Ao .i64))))] rfl Tryz.func309 Ay rfl rfl rfl ⟨⟨_,rfl,As⟩,⟨_,rfl,As⟩,⟨_,rfl,As⟩,⟨_,rfl,As⟩,⟨_,rfl,As⟩,⟨_,rfl,As⟩,trivial⟩ rfl C6 ⟨⟨_,rfl,rfl,As⟩,⟨_,rfl,rfl,As⟩,⟨_,rfl,rfl,As⟩,⟨_,rfl,rfl,As⟩,⟨_,rfl,rfl,As⟩,⟨_,rfl,rfl,As⟩,trivial⟩ rfl) ?_
   refine dq 125 (Bh Am rfl rfl rfl rfl rfl rfl rfl rfl hxd.1 hxd.2.2.1) ?_;refine DOps.w rfl rfl (DG Am rfl rfl rfl rfl rfl rfl rfl UR (Dz _) rfl rfl rfl) ?_;refine wk 1 ?_;refine⟨[],trivial,rfl,?_⟩;rw[Xk ho];exact HSub.put (HSub.put (HSub.put (HSub.put (HSub.put (HSub.put (HSub.none _) rfl) rfl) rfl) (by show _=some (rf 4 [[.ptr 4 1 0 0,DR jv (A8 (Bi w.vals t.d _)),CY jo ((w.hap t 0 0).effs.map (Ao .i64)),.int .i64 w.time]]);rw[II];rfl)) bf) rfl
  refine wk 6 ?_;refine asp 126 (fun hb9=>?_) fun hb9=>?_
  .
   refine act ?_;have ho:t.op=9:=by simpa using hb9
   have hxa:=h.at (ht.a (.inl CH));refine wk 6 ?_;refine dq 133 (Bh Am rfl rfl rfl rfl rfl rfl rfl rfl hxa.1 hxa.2.2.1) ?_;refine dq 134 (Aw Am rfl rfl rfl (I4 rfl (B6 ⟨hxa.1,hxa.2.1⟩)) rfl) ?_;refine dx 135 (JW (Dq first R m w h Ab t (Ah w.vals t.a) 0 jp jv jo hP) [jo,jv,jp,9,4,3] [(3,(.map (BI .i64 (B5 first (((w.hap t (Ah w.vals t.a) 0)).K))))),(4,(rf 3 [[.int .i64 first,.map 3,CY 9 ((((w.hap t (Ah w.vals t.a) 0)).K).map (Ao .i64))]])),(9,(Dv 4 ((((w.hap t (Ah w.vals t.a) 0)).K).map (Ao .i64)))),(jp,(rf 4 [[.ptr 4 1 0 0,DR jv (A8 (((w.hap t (Ah w.vals t.a) 0)).vals)),CY jo ((((w.hap t (Ah w.vals t.a) 0)).effs).map (Ao .i64)),.int .i64 (((w.hap t (Ah w.vals t.a) 0)).time)]])),(jv,(Fe (A8 (((w.hap t (Ah w.vals t.a) 0)).vals)))),(jo,(Dv 6 ((((w.hap t (Ah w.vals t.a) 0)).effs).map (Ao .i64))))] rfl Tryz.func308 Ay rfl rfl rfl ⟨⟨_,rfl,As⟩,⟨_,rfl,As⟩,⟨_,rfl,As⟩,⟨_,rfl,As⟩,⟨_,rfl,As⟩,⟨_,rfl,As⟩,trivial⟩ rfl C6 ⟨⟨_,rfl,rfl,As⟩,⟨_,rfl,rfl,As⟩,⟨_,rfl,rfl,As⟩,⟨_,rfl,rfl,As⟩,⟨_,rfl,rfl,As⟩,⟨_,rfl,rfl,As⟩,trivial⟩ rfl) ?_
   refine wk 1 ?_;refine⟨[],trivial,rfl,?_⟩;rw[Xj ho];exact RD
  refine wk 6 ?_;refine asp 136 (fun hb10=>?_) fun hb10=>?_
  .
   refine act ?_;have ho:t.op=10:=by simpa using hb10
   refine wk 4 ?_;refine ax 140 (JW (Dq first R m w h Ab t 0 0 jp jv jo hP) [jo,jv,jp,9,4,3] [(3,(.map (BI .i64 (B5 first (((w.hap t 0 0)).K))))),(4,(rf 3 [[.int .i64 first,.map 3,CY 9 ((((w.hap t 0 0)).K).map (Ao .i64))]])),(9,(Dv 4 ((((w.hap t 0 0)).K).map (Ao .i64)))),(jp,(rf 4 [[.ptr 4 1 0 0,DR jv (A8 (((w.hap t 0 0)).vals)),CY jo ((((w.hap t 0 0)).effs).map (Ao .i64)),.int .i64 (((w.hap t 0 0)).time)]])),(jv,(Fe (A8 (((w.hap t 0 0)).vals)))),(jo,(Dv 6 ((((w.hap t 0 0)).effs).map (Ao .i64))))] rfl Tryz.func308 Ay rfl rfl rfl ⟨⟨_,rfl,As⟩,⟨_,rfl,As⟩,⟨_,rfl,As⟩,⟨_,rfl,As⟩,⟨_,rfl,As⟩,⟨_,rfl,As⟩,trivial⟩ rfl C6 ⟨⟨_,rfl,rfl,As⟩,⟨_,rfl,rfl,As⟩,⟨_,rfl,rfl,As⟩,⟨_,rfl,rfl,As⟩,⟨_,rfl,rfl,As⟩,⟨_,rfl,rfl,As⟩,trivial⟩ rfl) ?_;refine wk 6 ?_;refine aq 145 (BB (r:=.int .i64 (w.time+1)) rfl rfl rfl (by exact XA (x:=w.time) Ab)) ?_;refine wk 4 ?_;refine⟨[],trivial,rfl,?_⟩
   rw[TF ho];exact RD
  refine wk 2 ?_;refine⟨[],trivial,rfl,?_⟩;rw[ic hb1 hb2 hb3 hb4 hb5 hb6 hb7 hb8 hb9 hb10];exact RD
theorem Xs(old new:Block)(R:Nat)(c:Cert)(i:Int)(next:List Int)(hR:R<=40000)(hc:∀r∈c.same,r.length=R)(hi:0<=i/\i<c.same.length)(hnx:∀k∈next,0<=k/\k<c.same.length)(hv:old.fin=2->(0<=old.v/\old.v<R)/\(0<=new.v/\new.v<R))(ho:∀t∈old.ins,Pz t R)(hn:∀t∈new.ins,Pz t R)(hlo:old.ins.length<=10000)(hln:new.ins.length<=10000)(hnl:next.length<=100000):Pu Tryz.prog 302 [.agg old.cells,.agg new.cells,.int .i64 (R:Int),.agg c.cells,.int .i64 i,Bt next] (.bool (EU R old new c i next)):=by
 obtain⟨row,hrow⟩:=Ag (l:=c.same) (k:=i.toNat) Ab;have hat:c.at' i=row:=by unfold Cert.at';rw[hrow];rfl
 have hrl:=hc row (List.mem_of_getElem? hrow);have hoa0:=Ll (fU hR) ho;have hoa:VOk ((2*R:Nat):Int) R (0+2*old.ins.length) (BA R old):=hoa0;have hob:VOk ((2*R:Nat):Int) R (0+2*old.ins.length+2*new.ins.length) (Cl R old new (c.at' i)):=Ll (fT hoa _) hn;refine APure.of_body (n:=146) Am Tryz.func302 rfl rfl ?_;refine Gy ?_;refine ax 6 (Dn 5 0) ?_;refine ax 7 (Dn 5 1) ?_;refine ax 9 (Dn 1 2) ?_;refine wk 5 ?_;refine aq 26 (BB (r:=.int .i64 ((2*R:Nat):Int)) rfl rfl rfl (xP Ab Ab Ab)) ?_;refine ax 27 (Sz .i64 3 rfl rfl) ?_;refine aq 28 (X0 Am (z0:=.int .i64 0) (z1:=.map none) (x:=.int .i64 ((2*R:Nat):Int)) (y:=.map 3) rfl rfl rfl rfl rfl rfl rfl rfl rfl Ay rfl rfl) ?_;refine ax 29 (Dn 3 4) ?_;refine wk 6 ?_;refine ax 32 (Ja Am (n:=R) 5 rfl rfl rfl rfl rfl rfl rfl rfl rfl rfl rfl rfl (by show 8*R<=_;omega) GM) ?_;refine aq 33 (I3 Am (ps:=[(0,.ptr 4 1 0 0),(1,DR 5 (List.replicate R [.int .i64 0]))]) (r:=[.ptr 4 1 0 0,DR 5 (List.replicate R [.int .i64 0]),.nil,.int .i64 0]) rfl rfl rfl rfl rfl A7 (by simp only[DF,Hw];rfl) rfl (by simp only[CB,Hw];rfl)) ?_
 refine ax 14 (I7 Am 6) ?_;refine AOps.w rfl rfl (Be Am rfl rfl rfl rfl rfl rfl rfl rfl rfl A7 (by simp only[AV.cells,List.all_cons,List.all_nil,NA];rfl) ED) ?_;refine wk 2 ?_;refine AGo.ghost (.weakRowF 4 (es':=[[.int .i64 ((2*R:Nat):Int),.map 3,.lst true []]]) rfl rfl bj) ?_;refine AGo.ghost (.weakRowF 6 (es':=[[.ptr 4 1 0 0,DR 5 (List.replicate R [.int .i64 0]),.lst true [],.int .i64 0]]) rfl rfl TB) ?_;refine wk 3 ?_;refine ax 36 (Ja Am (n:=R) 7 rfl rfl rfl rfl rfl rfl rfl rfl rfl rfl rfl rfl (by show 8*R<=_;omega) GM) ?_;refine aq 37 (I3 Am (ps:=[(0,.ptr 4 1 0 0),(1,DR 7 (List.replicate R [.int .i64 0]))]) (r:=[.ptr 4 1 0 0,DR 7 (List.replicate R [.int .i64 0]),.nil,.int .i64 0]) rfl rfl rfl rfl rfl A7 (by simp only[DF,Hw];rfl) rfl (by simp only[CB,Hw];rfl)) ?_;refine ax 15 (I7 Am 8) ?_;refine AOps.w rfl rfl (Be Am rfl rfl rfl rfl rfl rfl rfl rfl rfl A7 (by simp only[AV.cells,List.all_cons,List.all_nil,NA];rfl) ED) ?_;refine wk 3 ?_;refine AGo.ghost (.weakRowF 8 (es':=[[.ptr 4 1 0 0,DR 7 (List.replicate R [.int .i64 0]),.lst true [],.int .i64 0]]) rfl rfl TB) ?_;refine wk 5 ?_;refine AF (γ:=Nat) 12 (fun k=>⟨146,(Ad (Ad (Ad (Ad (Ad (Ad (Ad (Ad (Ad (Ad BC 2 (.int .i64 (R:Int))) 4 (.int .i64 i)) 5 (Bt next)) 6 (pZ 0)) 7 (pZ 1)) 9 (pZ 2)) 14 (pZ 6)) 15 (pZ 8)) 38 (iN R)) 39 (iN k)),(Al (Al (Al (Al (Al (Al (P4 (Al (Al (Al (AU 12) 0 (rf 5 [old.cells])) 1 (rf 5 [new.cells])) 2 (rf 1 [c.cells])) ((2*R:Nat):Int) ([])) 6 (rf 4 [[.ptr 4 1 0 0,DR 5 (A8 (B0 R k (fun v:Nat=>(v:Int)))),CY 10 (([]).map (Ao .i64)),.int .i64 (0)]])) 5 (Fe (A8 (B0 R k (fun v:Nat=>(v:Int)))))) 10 (Dv 6 (([]).map (Ao .i64)))) 8 (rf 4 [[.ptr 4 1 0 0,DR 7 (A8 (B0 R k (CO R (c.at' i)))),CY 11 (([]).map (Ao .i64)),.int .i64 (0)]])) 7 (Fe (A8 (B0 R k (CO R (c.at' i)))))) 11 (Dv 6 (([]).map (Ao .i64))))⟩) (fun k=>k<=R) (fun k=>R-k) 0 (Sub.mk' Fc (by repeat(first|exact HSub.refl _|exact HSub.none _|exact Bb _|exact A5 FJ|refine HSub.put ?_ (by first|rfl|exact jO _|exact jM _ _ _ _)|refine Ba ?_ FJ|refine Bm ?_ A7))) (Nat.zero_le _) (fun _=>Ak (Ak (Ak (Ak (Ak (Ak (Ak (Ak (Ak (Ak (CJ) rfl) rfl) rfl) rfl) rfl) rfl) rfl) rfl) rfl) rfl) ?_
 intro k hk;refine wk 5 ?_;refine asp 40 (fun hb1=>?_) fun hb1=>?_
 .
  refine act ?_;have hkl:k<R:=by have h:=hb1;simp only[decide_eq_true_eq]at h;omega
  obtain⟨bit,hbit⟩:=Ag (l:=row) (k:=k) Ab;refine wk 18 ?_;refine aq 50 (Bh Am rfl rfl rfl rfl rfl rfl rfl rfl (Int.natCast_nonneg _) (by rw[CM,(Ds (fun v:Nat=>(v:Int)) (Nat.le_of_lt hkl))];omega)) ?_;refine AOps.w rfl rfl (DG Am rfl rfl rfl rfl rfl rfl rfl (by rw[CM,(Ds (fun v:Nat=>(v:Int)) (Nat.le_of_lt hkl)),Int.toNat_natCast];exact hkl) (Dz _) rfl rfl rfl) ?_;refine aq 51 (Bh Am rfl rfl rfl rfl rfl rfl rfl rfl (Int.natCast_nonneg _) (by rw[CM,(Ds (CO R (c.at' i)) (Nat.le_of_lt hkl))];omega)) ?_;refine AOps.w rfl rfl (DG Am rfl rfl rfl rfl rfl rfl rfl (by rw[CM,(Ds (CO R (c.at' i)) (Nat.le_of_lt hkl)),Int.toNat_natCast];exact hkl) (Dz _) rfl rfl rfl) ?_;refine wk 6 ?_;refine aq 55 (AJ Am rfl rfl rfl rfl rfl rfl hi.1 (by rw[List.getElem?_map,hrow];rfl) rfl) ?_;refine wk 2 ?_;refine aq 58 (AJ Am rfl rfl rfl rfl rfl rfl (Int.natCast_nonneg _) (AG hbit) rfl) ?_
  refine wk 3 ?_;refine asp 60 (fun hb2=>?_) fun hb2=>?_
  .
   refine act ?_;have hbf:bit=false:=by simpa using hb2
   subst hbf;refine wk 6 ?_;refine aq 66 (BB (r:=.int .i64 ((R+k:Nat):Int)) rfl rfl rfl (j8 Ab Ab Ab)) ?_;refine aq 67 (Vt Am rfl rfl rfl rfl rfl rfl rfl rfl (by rw[List.length_set]) (Int.natCast_nonneg _) (by rw[List.length_set,CM,(Ds (CO R (c.at' i)) (Nat.le_of_lt hkl))];omega)) ?_;refine AOps.w rfl rfl (DG Am rfl rfl rfl rfl rfl rfl rfl (by rw[List.length_set,CM,(Ds (CO R (c.at' i)) (Nat.le_of_lt hkl)),Int.toNat_natCast];exact hkl) (by intro cs hc;rcases List.mem_or_eq_of_mem_set hc with hc|rfl;exact Dz _ _ hc;rfl) rfl rfl rfl) ?_;exact lc
  refine BK ?_;have hbf:bit=true:=by simpa using hb2
  subst hbf;exact lc
 refine BK ?_;obtain rfl:R=k:=by have h:=hb1;simp only[decide_eq_false_iff_not]at h;omega
 refine wk 10 ?_;refine AF (γ:=Nat) 12 (fun k=>⟨146,(Ad (Ad (Ad (Ad (Ad (Ad (Ad (Ad (Ad (Ad (Ad BC 2 (.int .i64 (R:Int))) 4 (.int .i64 i)) 5 (Bt next)) 6 (pZ 0)) 7 (pZ 1)) 9 (pZ 2)) 14 (pZ 6)) 15 (pZ 8)) 70 (Eu old.ins)) 71 (iN old.ins.length)) 72 (iN k)),(Al (Al (Al (KR 6 5 10 (P4 (Al (Al (Al (AU 12) 0 (rf 5 [old.cells])) 1 (rf 5 [new.cells])) 2 (rf 1 [c.cells])) ((2*R:Nat):Int) (((BQ ((2*R:Nat):Int) (old.ins.take (k)) ⟨[],GP R,[],0⟩)).K)) ((BQ ((2*R:Nat):Int) (old.ins.take (k)) ⟨[],GP R,[],0⟩))) 8 (rf 4 [[.ptr 4 1 0 0,DR 7 (A8 (F1 R (c.at' i))),CY 11 (([]).map (Ao .i64)),.int .i64 (0)]])) 7 (Fe (A8 (F1 R (c.at' i))))) 11 (Dv 6 (([]).map (Ao .i64))))⟩) (fun k=>k<=old.ins.length) (fun k=>old.ins.length-k) 0 (Sub.mk' DP (by repeat(first|exact HSub.refl _|exact HSub.none _|exact Bb _|exact A5 FJ|refine HSub.put ?_ (by first|rfl|exact uL|exact uK _|exact jz _ _ _|exact jy _ _ _ _)|refine Ba ?_ FJ|refine Bm ?_ A7))) (Nat.zero_le _) (fun _=>Ak (Ak (Ak (Ak (Ak (Ak (Ak (Ak (Ak (Ak (CJ) rfl) rfl) rfl) rfl) rfl) rfl) rfl) rfl) rfl) rfl) ?_
 intro k hk;refine wk 5 ?_;refine asp 73 (fun hb3=>?_) fun hb3=>?_
 .
  refine act ?_;have hkl:k<old.ins.length:=by have h:=hb3;simp only[List.length_map,decide_eq_true_eq]at h;omega
  obtain⟨t,ht⟩:=Ag hkl;refine wk 5 ?_;refine aq 74 (F6 Am (AG ht)) ?_;refine wk 1 ?_;refine ax 18 (I7 Am 12) ?_;refine wk 4 ?_;refine ax 77 (JW (Nr ((2*R:Nat):Int) R _ (BQ ((2*R:Nat):Int) (old.ins.take (k)) ⟨[],GP R,[],0⟩) (Nu (fU hR) ho k) Ab t (ho t (List.mem_of_getElem? ht)) 6 5 10 .a) [10,5,6,9,4,3] [(3,(.map (BI .i64 (B5 ((2*R:Nat):Int) (((VW.step ((2*R:Nat):Int) (BQ ((2*R:Nat):Int) (old.ins.take (k)) ⟨[],GP R,[],0⟩) t)).K))))),(4,(rf 3 [[.int .i64 ((2*R:Nat):Int),.map 3,CY 9 ((((VW.step ((2*R:Nat):Int) (BQ ((2*R:Nat):Int) (old.ins.take (k)) ⟨[],GP R,[],0⟩) t)).K).map (Ao .i64))]])),(9,(Dv 4 ((((VW.step ((2*R:Nat):Int) (BQ ((2*R:Nat):Int) (old.ins.take (k)) ⟨[],GP R,[],0⟩) t)).K).map (Ao .i64)))),(6,(rf 4 [[.ptr 4 1 0 0,DR 5 (A8 ((VW.step ((2*R:Nat):Int) (BQ ((2*R:Nat):Int) (old.ins.take (k)) ⟨[],GP R,[],0⟩) t)).vals),CY 10 ((((VW.step ((2*R:Nat):Int) (BQ ((2*R:Nat):Int) (old.ins.take (k)) ⟨[],GP R,[],0⟩) t)).effs).map (Ao .i64)),.int .i64 (((VW.step ((2*R:Nat):Int) (BQ ((2*R:Nat):Int) (old.ins.take (k)) ⟨[],GP R,[],0⟩) t)).time)]])),(5,(Fe (A8 ((VW.step ((2*R:Nat):Int) (BQ ((2*R:Nat):Int) (old.ins.take (k)) ⟨[],GP R,[],0⟩) t)).vals))),(10,(Dv 6 ((((VW.step ((2*R:Nat):Int) (BQ ((2*R:Nat):Int) (old.ins.take (k)) ⟨[],GP R,[],0⟩) t)).effs).map (Ao .i64))))] rfl Tryz.func304 Ay rfl rfl rfl ⟨⟨_,rfl,As⟩,⟨_,rfl,As⟩,⟨_,rfl,As⟩,⟨_,rfl,As⟩,⟨_,rfl,As⟩,⟨_,rfl,As⟩,trivial⟩ rfl C6 ⟨⟨_,rfl,rfl,As⟩,⟨_,rfl,rfl,As⟩,⟨_,rfl,rfl,As⟩,⟨_,rfl,rfl,As⟩,⟨_,rfl,rfl,As⟩,⟨_,rfl,rfl,As⟩,trivial⟩ rfl) ?_
  refine wk 2 ?_;refine aq 78 (Bw rfl rfl hkl (show old.ins.length<=maxLen by simp only[maxLen];omega)) ?_;exact kT
 refine BK ?_;have hge:old.ins.length<=k:=by have h:=hb3;simp only[List.length_map,decide_eq_false_iff_not]at h;omega
 refine wk 10 ?_;refine AF (γ:=Nat) 12 (fun k=>⟨146,(Ad (Ad (Ad (Ad (Ad (Ad (Ad (Ad (Ad (Ad (Ad BC 2 (.int .i64 (R:Int))) 4 (.int .i64 i)) 5 (Bt next)) 6 (pZ 0)) 7 (pZ 1)) 9 (pZ 2)) 14 (pZ 6)) 15 (pZ 8)) 80 (Eu new.ins)) 81 (iN new.ins.length)) 82 (iN k)),(KR 6 5 10 (KR 8 7 11 (P4 (Al (Al (Al (AU 12) 0 (rf 5 [old.cells])) 1 (rf 5 [new.cells])) 2 (rf 1 [c.cells])) ((2*R:Nat):Int) (((BQ ((2*R:Nat):Int) (new.ins.take (k)) ⟨(BA R old).K,F1 R (c.at' i),[],0⟩)).K)) ((BQ ((2*R:Nat):Int) (new.ins.take (k)) ⟨(BA R old).K,F1 R (c.at' i),[],0⟩))) (BA R old))⟩) (fun k=>k<=new.ins.length) (fun k=>new.ins.length-k) 0 (Sub.mk' DP vI) (Nat.zero_le _) (fun _=>Ak (Ak (Ak (Ak (Ak (Ak (Ak (Ak (Ak (Ak (CJ) rfl) rfl) rfl) rfl) rfl) rfl) rfl) rfl) rfl) rfl) ?_;intro k hk;refine wk 5 ?_;refine asp 83 (fun hb4=>?_) fun hb4=>?_
 .
  refine act ?_;have hkl:k<new.ins.length:=by have h:=hb4;simp only[List.length_map,decide_eq_true_eq]at h;omega
  obtain⟨t,ht⟩:=Ag hkl;refine wk 5 ?_;refine aq 84 (F6 Am (AG ht)) ?_;refine wk 1 ?_;refine ax 20 (I7 Am 12) ?_;refine wk 4 ?_;refine ax 87 (JW (Nr ((2*R:Nat):Int) R _ (BQ ((2*R:Nat):Int) (new.ins.take (k)) ⟨(BA R old).K,F1 R (c.at' i),[],0⟩) (Nu (fT hoa _) hn k) Ab t (hn t (List.mem_of_getElem? ht)) 8 7 11 .b) [11,7,8,9,4,3] [(3,(.map (BI .i64 (B5 ((2*R:Nat):Int) (((VW.step ((2*R:Nat):Int) (BQ ((2*R:Nat):Int) (new.ins.take (k)) ⟨(BA R old).K,F1 R (c.at' i),[],0⟩) t)).K))))),(4,(rf 3 [[.int .i64 ((2*R:Nat):Int),.map 3,CY 9 ((((VW.step ((2*R:Nat):Int) (BQ ((2*R:Nat):Int) (new.ins.take (k)) ⟨(BA R old).K,F1 R (c.at' i),[],0⟩) t)).K).map (Ao .i64))]])),(9,(Dv 4 ((((VW.step ((2*R:Nat):Int) (BQ ((2*R:Nat):Int) (new.ins.take (k)) ⟨(BA R old).K,F1 R (c.at' i),[],0⟩) t)).K).map (Ao .i64)))),(8,(rf 4 [[.ptr 4 1 0 0,DR 7 (A8 ((VW.step ((2*R:Nat):Int) (BQ ((2*R:Nat):Int) (new.ins.take (k)) ⟨(BA R old).K,F1 R (c.at' i),[],0⟩) t)).vals),CY 11 ((((VW.step ((2*R:Nat):Int) (BQ ((2*R:Nat):Int) (new.ins.take (k)) ⟨(BA R old).K,F1 R (c.at' i),[],0⟩) t)).effs).map (Ao .i64)),.int .i64 (((VW.step ((2*R:Nat):Int) (BQ ((2*R:Nat):Int) (new.ins.take (k)) ⟨(BA R old).K,F1 R (c.at' i),[],0⟩) t)).time)]])),(7,(Fe (A8 ((VW.step ((2*R:Nat):Int) (BQ ((2*R:Nat):Int) (new.ins.take (k)) ⟨(BA R old).K,F1 R (c.at' i),[],0⟩) t)).vals))),(11,(Dv 6 ((((VW.step ((2*R:Nat):Int) (BQ ((2*R:Nat):Int) (new.ins.take (k)) ⟨(BA R old).K,F1 R (c.at' i),[],0⟩) t)).effs).map (Ao .i64))))] rfl Tryz.func304 Ay rfl rfl rfl ⟨⟨_,rfl,As⟩,⟨_,rfl,As⟩,⟨_,rfl,As⟩,⟨_,rfl,As⟩,⟨_,rfl,As⟩,⟨_,rfl,As⟩,trivial⟩ rfl C6 ⟨⟨_,rfl,rfl,As⟩,⟨_,rfl,rfl,As⟩,⟨_,rfl,rfl,As⟩,⟨_,rfl,rfl,As⟩,⟨_,rfl,rfl,As⟩,⟨_,rfl,rfl,As⟩,trivial⟩ rfl) ?_
  refine wk 2 ?_;refine aq 88 (Bw rfl rfl hkl (show new.ins.length<=maxLen by simp only[maxLen];omega)) ?_;exact kT
 refine BK ?_;have hge:new.ins.length<=k:=by have h:=hb4;simp only[List.length_map,decide_eq_false_iff_not]at h;omega
 rw[Nv hge];refine wk 8 ?_;refine ax 93 (JW (dN (BA R old).effs (Cl R old new (c.at' i)).effs hoa.e6 hob.e6 (by have:=hoa.el;omega)) [11,10] [] rfl Tryz.func305 Ay rfl rfl (by simp only[List.all_cons,List.all_nil,DV _ (show mem [11,10] 10=true from rfl),DV _ (show mem [11,10] 11=true from rfl)];rfl) ⟨⟨_,rfl,As⟩,⟨_,rfl,As⟩,trivial⟩ rfl C6 ⟨⟨_,rfl,rfl,As⟩,⟨_,rfl,rfl,As⟩,trivial⟩ rfl) ?_;refine wk 2 ?_;refine asp 94 (fun hb5=>?_) fun hb5=>?_
 .
  refine act ?_;have hef:=hb5;refine wk 4 ?_;refine Cj ⟨[_],⟨rfl,trivial⟩,?_,rfl⟩;refine bc ?_;exact(U6 (cI hef)).symm
 refine BK ?_;have hef:=hb5;refine wk 8 ?_;refine DOps.split 98 rfl (fun hb6=>?_) (fun hb6=>?_)
 .
  have hf2:old.fin=2:=by simpa using hb6
  have hxo:=hoa.at (hv hf2).1;have hxn:=hob.at (hv hf2).2;refine wk 4 ?_;refine dq 103 (Bh Am rfl rfl rfl rfl rfl rfl rfl rfl hxo.1 hxo.2.2.1) ?_;refine dq 104 (Aw Am rfl rfl rfl (I4 rfl (B6 ⟨hxo.1,hxo.2.1⟩)) rfl) ?_;refine wk 4 ?_;refine dq 109 (Bh Am rfl rfl rfl rfl rfl rfl rfl rfl hxn.1 hxn.2.2.1) ?_;refine dq 110 (Aw Am rfl rfl rfl (I4 rfl (B6 ⟨hxn.1,hxn.2.1⟩)) rfl) ?_;refine wk 3 ?_;refine asp 112 (fun hb7=>?_) fun hb7=>?_
  .
   refine act ?_;have hvf:=hb7;refine wk 4 ?_;refine Cj ⟨[_],⟨rfl,trivial⟩,?_,rfl⟩;refine bc ?_;exact(U5 hf2 (Pv hvf)).symm
  refine BK ?_;have hvf:=hb7;refine wk 9 ?_;refine AF (γ:=Nat) 12 (fun j=>⟨146,(Ad (Ad (Ad (Ad (Ad (Ad (Ad (Ad (Ad (Ad (Ad BC 2 (.int .i64 (R:Int))) 4 (.int .i64 i)) 5 (Bt next)) 6 (pZ 0)) 7 (pZ 1)) 9 (pZ 2)) 14 (pZ 6)) 15 (pZ 8)) 113 (Bt next)) 114 (iN next.length)) 115 (iN j)),(KR 6 5 10 (KR 8 7 11 (P4 (Al (Al (Al (AU 12) 0 (rf 5 [old.cells])) 1 (rf 5 [new.cells])) 2 (rf 1 [c.cells])) ((2*R:Nat):Int) (((Cl R old new (c.at' i))).K)) ((Cl R old new (c.at' i)))) (BA R old))⟩) (fun j=>j<=next.length/\(next.take j).all (fun k=>DU (BA R old) (Cl R old new (c.at' i)) (c.at' k))=true) (fun j=>next.length-j) 0 (Sub.mk' DP vI) ⟨Nat.zero_le _,rfl⟩ (fun _=>Ak (Ak (Ak (Ak (Ak (Ak (Ak (Ak (Ak (Ak (CJ) rfl) rfl) rfl) rfl) rfl) rfl) rfl) rfl) rfl) rfl) ?_;intro j ⟨hj,hall⟩;refine wk 5 ?_;refine asp 116 (fun hb8=>?_) fun hb8=>?_
  .
   refine act ?_;have hjl:j<next.length:=by have h:=hb8;simp only[List.length_map,decide_eq_true_eq]at h;omega
   obtain⟨nk,hnk⟩:=Ag hjl;have hkr:=hnx nk (List.mem_of_getElem? hnk);obtain⟨row2,hrow2⟩:=Ag (l:=c.same) (k:=nk.toNat) Ab;have hat2:c.at' nk=row2:=by unfold Cert.at';rw[hrow2];rfl
   have hrl2:=hc row2 (List.mem_of_getElem? hrow2);refine wk 5 ?_;refine aq 117 (AJ Am rfl rfl rfl rfl rfl rfl (Int.natCast_nonneg _) (AG hnk) rfl) ?_;refine wk 8 ?_;refine aq 122 (AJ Am rfl rfl rfl rfl rfl rfl hkr.1 (by rw[List.getElem?_map,hrow2];rfl) rfl) ?_;refine wk 5 ?_;refine AF (γ:=Nat) 12 (fun k=>⟨146,(Ad (Ad (Ad (Ad (Ad (Ad (Ad (Ad (Ad (Ad (Ad (Ad (Ad (Ad BC 2 (.int .i64 (R:Int))) 4 (.int .i64 i)) 5 (Bt next)) 6 (pZ 0)) 7 (pZ 1)) 9 (pZ 2)) 14 (pZ 6)) 15 (pZ 8)) 113 (Bt next)) 114 (iN next.length)) 115 (iN j)) 123 (Gw row2)) 124 (iN row2.length)) 125 (iN k)),(KR 6 5 10 (KR 8 7 11 (P4 (Al (Al (Al (AU 12) 0 (rf 5 [old.cells])) 1 (rf 5 [new.cells])) 2 (rf 1 [c.cells])) ((2*R:Nat):Int) (((Cl R old new (c.at' i))).K)) ((Cl R old new (c.at' i)))) (BA R old))⟩) (fun k=>k<=row2.length/\FK (BA R old) (Cl R old new (c.at' i)) row2 k) (fun k=>row2.length-k) 0 (Sub.mk' DP FH) ⟨Nat.zero_le _,vagree_zero⟩ (fun _=>Ak (Ak (Ak (Ak (Ak (Ak (Ak (Ak (Ak (Ak (CJ) rfl) rfl) rfl) rfl) rfl) rfl) rfl) rfl) rfl) rfl) ?_
   intro k ⟨hk,hagr⟩;refine wk 5 ?_;refine asp 126 (fun hb9=>?_) fun hb9=>?_
   .
    refine act ?_;have hkl:k<row2.length:=by have h:=hb9;simp only[List.length_map,decide_eq_true_eq]at h;omega
    obtain⟨must,hmu⟩:=Ag hkl;refine wk 6 ?_;refine aq 128 (AJ Am rfl rfl rfl rfl rfl rfl (Int.natCast_nonneg _) (AG hmu) rfl) ?_;refine wk 8 ?_;refine DOps.split 131 rfl (fun hb10=>?_) (fun hb10=>?_)
    .
     have hmt:must=true:=by simpa using hb10
     have hxv:=hoa.at (z:=(k:Int)) Ab;have hyv:=hob.at (z:=(k:Int)) Ab;refine wk 3 ?_;refine dq 135 (Bh Am rfl rfl rfl rfl rfl rfl rfl rfl hxv.1 hxv.2.2.1) ?_;refine dq 136 (Aw Am rfl rfl rfl (I4 rfl (B6 ⟨hxv.1,hxv.2.1⟩)) rfl) ?_;refine wk 3 ?_;refine dq 140 (Bh Am rfl rfl rfl rfl rfl rfl rfl rfl hyv.1 hyv.2.2.1) ?_;refine dq 141 (Aw Am rfl rfl rfl (I4 rfl (B6 ⟨hyv.1,hyv.2.1⟩)) rfl) ?_;refine wk 3 ?_;refine asp 143 (fun hb11=>?_) fun hb11=>?_
     .
      refine act ?_;have hag:=hb11;exact fH
     refine BK ?_;have hag:=hb11;exact aV
    refine wk 14 ?_;have hag:=hb10;exact aV
   refine BK ?_;have hkge:row2.length<=k:=by have h:=hb9;simp only[List.length_map,decide_eq_false_iff_not]at h;omega
   exact la
  refine BK ?_;have hjge:next.length<=j:=by have h:=hb8;simp only[List.length_map,decide_eq_false_iff_not]at h;omega
  exact kq
 refine wk 16 ?_;have hvf:=hb6;refine wk 9 ?_;refine AF (γ:=Nat) 12 (fun j=>⟨146,(Ad (Ad (Ad (Ad (Ad (Ad (Ad (Ad (Ad (Ad (Ad BC 2 (.int .i64 (R:Int))) 4 (.int .i64 i)) 5 (Bt next)) 6 (pZ 0)) 7 (pZ 1)) 9 (pZ 2)) 14 (pZ 6)) 15 (pZ 8)) 113 (Bt next)) 114 (iN next.length)) 115 (iN j)),(KR 6 5 10 (KR 8 7 11 (P4 (Al (Al (Al (AU 12) 0 (rf 5 [old.cells])) 1 (rf 5 [new.cells])) 2 (rf 1 [c.cells])) ((2*R:Nat):Int) (((Cl R old new (c.at' i))).K)) ((Cl R old new (c.at' i)))) (BA R old))⟩) (fun j=>j<=next.length/\(next.take j).all (fun k=>DU (BA R old) (Cl R old new (c.at' i)) (c.at' k))=true) (fun j=>next.length-j) 0 (Sub.mk' DP vI) ⟨Nat.zero_le _,rfl⟩ (fun _=>Ak (Ak (Ak (Ak (Ak (Ak (Ak (Ak (Ak (Ak (CJ) rfl) rfl) rfl) rfl) rfl) rfl) rfl) rfl) rfl) rfl) ?_;intro j ⟨hj,hall⟩;refine wk 5 ?_;refine asp 116 (fun hb12=>?_) fun hb12=>?_
 .
  refine act ?_;have hjl:j<next.length:=by have h:=hb12;simp only[List.length_map,decide_eq_true_eq]at h;omega
  obtain⟨nk,hnk⟩:=Ag hjl;have hkr:=hnx nk (List.mem_of_getElem? hnk);obtain⟨row2,hrow2⟩:=Ag (l:=c.same) (k:=nk.toNat) Ab;have hat2:c.at' nk=row2:=by unfold Cert.at';rw[hrow2];rfl
  have hrl2:=hc row2 (List.mem_of_getElem? hrow2);refine wk 5 ?_;refine aq 117 (AJ Am rfl rfl rfl rfl rfl rfl (Int.natCast_nonneg _) (AG hnk) rfl) ?_;refine wk 8 ?_;refine aq 122 (AJ Am rfl rfl rfl rfl rfl rfl hkr.1 (by rw[List.getElem?_map,hrow2];rfl) rfl) ?_;refine wk 5 ?_;refine AF (γ:=Nat) 12 (fun k=>⟨146,(Ad (Ad (Ad (Ad (Ad (Ad (Ad (Ad (Ad (Ad (Ad (Ad (Ad (Ad BC 2 (.int .i64 (R:Int))) 4 (.int .i64 i)) 5 (Bt next)) 6 (pZ 0)) 7 (pZ 1)) 9 (pZ 2)) 14 (pZ 6)) 15 (pZ 8)) 113 (Bt next)) 114 (iN next.length)) 115 (iN j)) 123 (Gw row2)) 124 (iN row2.length)) 125 (iN k)),(KR 6 5 10 (KR 8 7 11 (P4 (Al (Al (Al (AU 12) 0 (rf 5 [old.cells])) 1 (rf 5 [new.cells])) 2 (rf 1 [c.cells])) ((2*R:Nat):Int) (((Cl R old new (c.at' i))).K)) ((Cl R old new (c.at' i)))) (BA R old))⟩) (fun k=>k<=row2.length/\FK (BA R old) (Cl R old new (c.at' i)) row2 k) (fun k=>row2.length-k) 0 (Sub.mk' DP FH) ⟨Nat.zero_le _,vagree_zero⟩ (fun _=>Ak (Ak (Ak (Ak (Ak (Ak (Ak (Ak (Ak (Ak (CJ) rfl) rfl) rfl) rfl) rfl) rfl) rfl) rfl) rfl) rfl) ?_
  intro k ⟨hk,hagr⟩;refine wk 5 ?_;refine asp 126 (fun hb13=>?_) fun hb13=>?_
  .
   refine act ?_;have hkl:k<row2.length:=by have h:=hb13;simp only[List.length_map,decide_eq_true_eq]at h;omega
   obtain⟨must,hmu⟩:=Ag hkl;refine wk 6 ?_;refine aq 128 (AJ Am rfl rfl rfl rfl rfl rfl (Int.natCast_nonneg _) (AG hmu) rfl) ?_;refine wk 8 ?_;refine DOps.split 131 rfl (fun hb14=>?_) (fun hb14=>?_)
   .
    have hmt:must=true:=by simpa using hb14
    have hxv:=hoa.at (z:=(k:Int)) Ab;have hyv:=hob.at (z:=(k:Int)) Ab;refine wk 3 ?_;refine dq 135 (Bh Am rfl rfl rfl rfl rfl rfl rfl rfl hxv.1 hxv.2.2.1) ?_;refine dq 136 (Aw Am rfl rfl rfl (I4 rfl (B6 ⟨hxv.1,hxv.2.1⟩)) rfl) ?_;refine wk 3 ?_;refine dq 140 (Bh Am rfl rfl rfl rfl rfl rfl rfl rfl hyv.1 hyv.2.2.1) ?_;refine dq 141 (Aw Am rfl rfl rfl (I4 rfl (B6 ⟨hyv.1,hyv.2.1⟩)) rfl) ?_;refine wk 3 ?_;refine asp 143 (fun hb15=>?_) fun hb15=>?_
    .
     refine act ?_;have hag:=hb15;exact fH
    refine BK ?_;have hag:=hb15;exact aV
   refine wk 14 ?_;have hag:=hb14;exact aV
  refine BK ?_;have hkge:row2.length<=k:=by have h:=hb13;simp only[List.length_map,decide_eq_false_iff_not]at h;omega
  exact la
 refine BK ?_;have hjge:next.length<=j:=by have h:=hb12;simp only[List.length_map,decide_eq_false_iff_not]at h;omega
 exact kq
theorem Vj(old new:BFunc)(hno:old.blocks.length<=10000)(hnn:new.blocks.length<=10000)(hio:∀x∈old.blocks,x.ins.length<=10000/\QW x.ins)(hin:∀x∈new.blocks,x.ins.length<=10000/\QW x.ins):Pu Tryz.prog 301 [.agg old.cells,.agg new.cells] (.bool (vshaped old new)):=by
 refine APure.of_body (n:=65) Am Tryz.func301 rfl rfl ?_;refine Gy ?_;refine ax 2 (Dn 2 0) ?_;refine ax 3 (Dn 2 1) ?_;refine wk 11 ?_;refine BH 13 (fun hb1=>?_) fun hb1=>?_
 .
  refine wk 24 ?_;exact aT
 refine wk 9 ?_;refine BH 22 (fun hb2=>?_) fun hb2=>?_
 .
  refine wk 15 ?_;exact aT
 refine wk 1 ?_;refine ax 24 (CR Tryz.func303 (NG old Ab (fun x hx=>by have:=(hio x hx).1;omega))) ?_;refine wk 3 ?_;refine BH 27 (fun hb3=>?_) fun hb3=>?_
 .
  refine wk 10 ?_;exact aT
 refine wk 1 ?_;refine ax 29 (CR Tryz.func303 (NG new Ab (fun x hx=>by have:=(hin x hx).1;omega))) ?_;refine wk 3 ?_;refine asp 31 (fun hb4=>?_) fun hb4=>?_
 .
  refine wk 5 ?_;exact aT
 refine BK ?_;have hlen:=cO BD;refine wk 10 ?_;refine AF (γ:=Nat) 2 (fun k=>⟨65,(Ad (Ad (Ad (Ad (Ad BC 2 (pZ 0)) 3 (pZ 1)) 33 (Cc old.blocks)) 34 (iN old.blocks.length)) 35 (iN k)),(Al (Al (AU 2) 0 (rf 2 [old.cells])) 1 (rf 2 [new.cells]))⟩) (fun k=>k<=old.blocks.length/\((old.blocks.zip new.blocks).take k).all (fun p=>Di p.1 p.2)=true) (fun k=>old.blocks.length-k) 0 (Sub.mk' DP FH) ⟨Nat.zero_le _,rfl⟩ (fun _=>CJ) ?_;intro k ⟨hk,hall⟩;refine wk 5 ?_;refine asp 36 (fun hb5=>?_) fun hb5=>?_
 .
  refine act ?_;have hkl:k<old.blocks.length:=by simpa using hb5
  obtain⟨x,hx⟩:=Ag hkl;obtain⟨y,hy⟩:=Ag (l:=new.blocks) (k:=k) Ab;refine wk 6 ?_;refine aq 38 (F6 Am (AG hx)) ?_;refine wk 1 ?_;refine ax 6 (I7 Am 2) ?_;refine wk 8 ?_;refine aq 43 (F6 Am (AG hy)) ?_;refine wk 1 ?_;refine ax 7 (I7 Am 3) ?_;refine wk 10 ?_;refine BH 50 (fun hb6=>?_) fun hb6=>?_
  .
   refine wk 19 ?_;exact gS
  refine wk 7 ?_;refine BH 57 (fun hb7=>?_) fun hb7=>?_
  .
   refine wk 12 ?_;exact gS
  refine wk 7 ?_;refine asp 63 (fun hb8=>?_) fun hb8=>?_
  .
   refine wk 5 ?_;exact gS
  refine wk 3 ?_;refine aq 64 (Bw rfl rfl hkl (show old.blocks.length<=maxLen by simp only[maxLen];omega)) ?_;refine wk 2 ?_;exact⟨k+1,Drop.mk' DO KQ,⟨hkl,BS (JG hx hy) hall (bu BD BD BD)⟩,by omega⟩
 refine BK ?_;have hge:old.blocks.length<=k:=by simpa using hb5
 refine wk 5 ?_;refine Cj ⟨[_],⟨rfl,trivial⟩,?_,rfl⟩;refine bc ?_;exact(PO (Gx BD) hlen (FT BD) (FT BD) (Cd hall (by rw[List.length_zip];omega))).symm
theorem U7(old new:BFunc)(hno:old.blocks.length<=10000)(hnn:new.blocks.length<=10000)(hio:∀x∈old.blocks,x.ins.length<=10000/\QW x.ins)(hin:∀x∈new.blocks,x.ins.length<=10000/\QW x.ins)(c:Cert):Pu Tryz.prog 300 [.agg old.cells,.agg new.cells,.agg c.cells] (.bool (Cg old new c)):=by
 refine APure.of_body (n:=66) Am Tryz.func300 rfl rfl ?_;refine Gy ?_;refine ax 3 (Dn 2 0) ?_;refine ax 4 (Dn 2 1) ?_;refine ax 5 (Dn 1 2) ?_;refine wk 7 ?_;refine ax 13 (CR Tryz.func301 (Vj old new hno hnn hio hin)) ?_;refine wk 2 ?_;refine BH 15 (fun hb1=>?_) fun hb1=>?_
 .
  refine wk 14 ?_;exact fK
 refine wk 9 ?_;refine asp 23 (fun hb2=>?_) fun hb2=>?_
 .
  refine wk 5 ?_;exact fK
 refine BK ?_;have hsh:vshaped old new=true:=FT BD;have hcl:=Z0 (old:=old) (c:=c) BD;have hV:=DT hsh;have hSo:=Dl hV.so;have hSn:=Dl hV.sn;have hr0:=hSo.r0;have hr1:=hSo.r1;have hR:((old.regs.toNat:Nat):Int)=old.regs:=Int.toNat_of_nonneg hr0;refine wk 10 ?_;refine AF (γ:=Nat) 3 (fun j=>⟨66,(Ad (Ad (Ad (Ad (Ad (Ad BC 3 (pZ 0)) 4 (pZ 1)) 5 (pZ 2)) 25 (LB c.same)) 26 (iN c.same.length)) 27 (iN j)),(Al (Al (Al (AU 3) 0 (rf 2 [old.cells])) 1 (rf 2 [new.cells])) 2 (rf 1 [c.cells]))⟩) (fun j=>j<=c.same.length/\(c.same.take j).all (fun r=>decide ((r.length:Int)=old.regs))=true) (fun j=>c.same.length-j) 0 (Sub.mk' DP FH) ⟨Nat.zero_le _,rfl⟩ (fun _=>Ak (CJ) rfl) ?_;intro j ⟨hj,hall⟩;refine wk 5 ?_;refine asp 28 (fun hb3=>?_) fun hb3=>?_
 .
  refine act ?_;have hjl:j<c.same.length:=by have h:=hb3;simp only[List.length_map,decide_eq_true_eq]at h;omega
  obtain⟨r,hr⟩:=Ag hjl;refine wk 5 ?_;refine aq 29 (F6 Am (AG hr)) ?_;refine wk 11 ?_;refine asp 35 (fun hb4=>?_) fun hb4=>?_
  .
   refine act ?_;have hne:¬(r.length:Int)=old.regs:=by have h:=Pv hb4;rw[List.length_map]at h;exact h
   refine wk 4 ?_;refine Cj ⟨[_],⟨rfl,trivial⟩,?_,rfl⟩;refine bc ?_;exact(R1 hr hne).symm
  refine BK ?_;have heq:(r.length:Int)=old.regs:=by have h:=Gx hb4;rw[List.length_map]at h;exact h
  refine wk 2 ?_;refine aq 36 (Bw rfl rfl hjl (show c.same.length<=maxLen by simp only[maxLen];omega)) ?_;refine wk 2 ?_;exact⟨j+1,Drop.mk' DO KQ,⟨hjl,BS hr hall (decide_eq_true heq)⟩,by omega⟩
 refine BK ?_;have hjge:c.same.length<=j:=by have h:=hb3;simp only[List.length_map,decide_eq_false_iff_not]at h;omega
 have hall2:=Cd hall hjge;have hrl:∀r∈c.same,r.length=old.regs.toNat:=fun r hr=>by have:=List.all_eq_true.1 hall2 r hr;simp only[decide_eq_true_eq]at this;omega
 refine wk 4 ?_;refine ax 38 (CR Tryz.func207 (cF old Ab)) ?_;refine wk 11 ?_;refine AF (γ:=Nat) 3 (fun k=>⟨66,(Ad (Ad (Ad (Ad (Ad (Ad BC 3 (pZ 0)) 4 (pZ 1)) 5 (pZ 2)) 9 (AS old.nexts)) 41 (iN old.blocks.length)) 42 (iN k)),(Al (Al (Al (AU 3) 0 (rf 2 [old.cells])) 1 (rf 2 [new.cells])) 2 (rf 1 [c.cells]))⟩) (fun k=>k<=old.blocks.length/\((old.blocks.zip new.blocks).zipIdx.take k).all (fun p=>EU old.regs.toNat p.1.1 p.1.2 c (p.2:Int) p.1.1.nexts)=true) (fun k=>old.blocks.length-k) 0 (Sub.mk' DP FH) ⟨Nat.zero_le _,rfl⟩ (fun _=>Ak (CJ) rfl) ?_;intro k ⟨hk,hallb⟩;refine wk 5 ?_;refine asp 43 (fun hb5=>?_) fun hb5=>?_
 .
  refine act ?_;have hkl:k<old.blocks.length:=by simpa using hb5
  obtain⟨x,hx⟩:=Ag hkl;have hxm:=List.mem_of_getElem? hx;obtain⟨y,hy⟩:=Ag (l:=new.blocks) (k:=k) (by have:=hV.len;omega);have hym:=List.mem_of_getElem? hy;have hsb:=hV.b k x y hx hy;have hnx:∀q∈x.nexts,0<=q/\q<c.same.length:=fun q hq=>by rw[hcl];exact hSo.next x hxm q hq
  have hvv:x.fin=2->(0<=x.v/\x.v<(old.regs.toNat:Int))/\(0<=y.v/\y.v<(old.regs.toNat:Int)):=fun hf=>by rw[hR];refine⟨hSo.v x hxm hf,?_⟩;rw[hV.regs];exact hSn.v y hym (by rw[<-hsb.1];exact hf)
  have hto:∀t∈x.ins,Pz t old.regs.toNat:=fun t ht=>hSo.tacs x hxm t ht ((hio x hxm).2 t ht)
  have htn:∀t∈y.ins,Pz t old.regs.toNat:=fun t ht=>by rw[hV.regs];exact hSn.tacs y hym t ht ((hin y hym).2 t ht)
  have hnl:x.nexts.length<=100000:=QI x;refine wk 13 ?_;refine dq 48 (F6 Am (AG hx)) ?_;refine wk 4 ?_;refine dq 53 (F6 Am (AG hy)) ?_;refine wk 7 ?_;refine dq 61 (F6 Am (AG (NX hx))) ?_;refine wk 1 ?_;refine dx 63 (CR Tryz.func302 ((by have h:=Xs x y old.regs.toNat c (k:Int) x.nexts Ab hrl Ab hnx hvv hto htn (hio x (List.mem_of_getElem? hx)).1 (hin y (List.mem_of_getElem? hy)).1 hnl;rw[hR]at h;exact h))) ?_;refine dq 64 (IZ rfl rfl) ?_;refine wk 1 ?_;refine asp 64 (fun hb6=>?_) fun hb6=>?_
  .
   refine act ?_;have hbad:=EZ hb6;refine wk 4 ?_;refine Cj ⟨[_],⟨rfl,trivial⟩,?_,rfl⟩;refine bc ?_;exact(RZ hx hy hbad).symm
  refine BK ?_;have hgood:=FT hb6;refine wk 2 ?_;refine aq 65 (Bw rfl rfl hkl (show old.blocks.length<=maxLen by simp only[maxLen];omega)) ?_;refine wk 2 ?_;exact⟨k+1,Drop.mk' DO KQ,⟨hkl,BS (Bl (JG hx hy)) hallb hgood⟩,by omega⟩
 refine BK ?_;have hge:old.blocks.length<=k:=by simpa using hb5
 refine wk 5 ?_;refine Cj ⟨[_],⟨rfl,trivial⟩,?_,rfl⟩;refine bc ?_;exact(RY hsh hcl hall2 (Cd hallb (by rw[List.length_zipIdx,List.length_zip];omega))).symm
theorem ZK(l r:List Tac)(hl:l.length<=1000000000):APure Tryz.prog 323 [Eu l,Eu r] (fun q=>q=.bool (decide (l=r))):=by
 refine APure.of_body (n:=26) Am Tryz.func323 rfl rfl ?_;refine wk 13 ?_;refine asp 10 (fun hb1=>?_) fun hb1=>?_
 .
  refine wk 5 ?_;refine Cj ⟨[_],⟨rfl,trivial⟩,?_,rfl⟩;refine bc ?_;exact(decide_eq_false (by rintro rfl;simp_all)).symm
 refine BK ?_;have hlr:l.length=r.length:=by have h:=hb1;simp at h;omega
 refine wk 9 ?_;refine AGo.loopI (γ:=Nat) (fun k=>⟨26,(Ad (Ad (Ad (Ad (Ad BC 0 (Eu l)) 1 (Eu r)) 11 (Eu l)) 12 (iN l.length)) 13 (iN k)),hNone⟩) (fun k=>l.take k=r.take k) (fun k=>l.length-k) 0 (Sub.mk' DP FH) rfl ?_;intro k ht;refine wk 5 ?_;refine asp 14 (fun hb2=>?_) fun hb2=>?_
 .
  refine act ?_;have hkl:k<l.length:=by simpa using hb2
  obtain⟨x,hx⟩:=Ag hkl;obtain⟨y,hy⟩:=Ag (l:=r) (k:=k) Ab;refine wk 12 ?_;refine dq 18 Iz ?_;refine wk 3 ?_;refine dq 22 Iz ?_;refine wk 1 ?_;refine dq 24 (DX Am true rfl rfl rfl Ay rfl rfl rfl rfl (Tac.eqCells x y)) ?_;refine wk 1 ?_;refine asp 24 (fun hb3=>?_) fun hb3=>?_
  .
   refine act ?_;have hxy:x≠y:=by simpa using hb3
   refine wk 4 ?_;refine Cj ⟨[_],⟨rfl,trivial⟩,?_,rfl⟩;refine bc ?_;exact(decide_eq_false (by rintro rfl;rw[hx]at hy;cases hy;exact hxy rfl)).symm
  refine BK ?_;have hxy:x=y:=by simpa using hb3
  refine wk 2 ?_;refine aq 25 (Bw rfl rfl hkl GM) ?_;refine wk 2 ?_;exact⟨k+1,Sub.mk' Fc FH,(by rw[AR hx,AR hy,ht,hxy]),by omega⟩
 refine BK ?_;have hge:l.length<=k:=by simpa using hb2
 refine wk 5 ?_;refine Cj ⟨[_],⟨rfl,trivial⟩,?_,rfl⟩;refine bc ?_;exact(decide_eq_true (GS ht hge (hlr▸hge))).symm
theorem S4(f:BFunc)(p:List Int)(hp:km f.blocks.length p)(hpl:p.length<=2000000):Pu Tryz.prog 316 [.agg f.cells,Bt p] (.bool (Jm f p)):=by
 have hpos:0<p.length:=List.length_pos_iff.2 hp.1;refine APure.of_body (n:=38) Am Tryz.func316 rfl rfl ?_;refine Gy ?_;refine ax 2 (Dn 2 0) ?_;refine wk 8 ?_;refine aq 11 (BB (r:=.int .i64 ((p.length-1:Nat):Int)) rfl rfl rfl (by rw[List.length_map];exact He hpos Ab)) ?_;refine aq 12 (T6 (m:=p.length-1) (es:=FZ p) Am rfl rfl rfl rfl rfl rfl (by rw[EI];omega) (by intro cs h;simp[FZ]at h;obtain⟨n,_,rfl⟩:=h;rfl)) ?_;refine wk 4 ?_;refine AF (γ:=Nat) 1 (fun k=>⟨38,(Ad (Ad (Ad (Ad (Ad BC 1 (Bt p)) 2 (pZ 0)) 12 (.lst false ((FZ p).take (p.length-1)))) 13 (.int .i64 ((p.length-1:Nat):Int))) 14 (iN k)),(Al (AU 1) 0 (rf 2 [f.cells]))⟩) (fun k=>((List.range (p.length-1)).take k).all (O0 f p)=true) (fun k=>p.length-1-k) 0 (Sub.mk' (by repeat(first|exact ESub.new _|refine ESub.put ?_ (by first|rfl|exact congrArg (fun(n:Nat)=>some (AV.int .i64 (n:Int))) (by simp[EI])))) FH) rfl (fun _=>CJ) ?_
 intro k hall;refine wk 5 ?_;refine asp 15 (fun hb1=>?_) fun hb1=>?_
 .
  refine act ?_;have hkl:k<p.length-1:=by have h:=hb1;simp[EI]at h;omega
  obtain⟨y,hy⟩:=Ag (l:=p) (k:=k) Ab;obtain⟨z,hz⟩:=Ag (l:=p) (k:=k+1) Ab;have hyr:=hp.2 y (List.mem_of_getElem? hy);have hat:O0 f p k=((f.blockAt y).fin==1&&(f.blockAt y).to==z):=by rw[O0,QX hy,QX hz]
  refine wk 6 ?_;refine aq 17 (AJ Am rfl rfl rfl rfl rfl rfl (Int.natCast_nonneg _) (cs:=[.int .i64 y]) (by rw[Int.toNat_natCast,List.getElem?_take_of_lt hkl,FZ,List.getElem?_map,hy];rfl) rfl) ?_;refine wk 9 ?_;refine aq 22 (AJ Am rfl rfl rfl rfl rfl rfl hyr.1 (Ev (Ct hyr)) rfl) ?_;refine wk 1 ?_;refine ax 7 (I7 Am 1) ?_;refine wk 8 ?_;refine DOps.split 27 rfl (fun hb2=>?_) (fun hb2=>?_)
  .
   refine wk 15 ?_;exact fe
  refine wk 4 ?_;refine dq 32 (Bw rfl rfl hkl (show p.length-1<=maxLen by simp only[maxLen];omega)) ?_;refine dq 33 (AJ Am rfl rfl rfl rfl rfl rfl (Int.natCast_nonneg _) (cs:=[.int .i64 z]) (by rw[Int.toNat_natCast];show(List.map (fun b=>[AV.int .i64 b]) p)[k+1]?=_;rw[List.getElem?_map,hz];rfl) rfl) ?_;refine wk 4 ?_;refine asp 36 (fun hb3=>?_) fun hb3=>?_
  .
   refine wk 5 ?_;exact fe
  refine wk 3 ?_;refine aq 37 (Bw rfl rfl hkl (show p.length-1<=maxLen by simp only[maxLen];omega)) ?_;refine wk 2 ?_;exact⟨k+1,Drop.mk' DO KQ,(BS (NQ hkl) hall (by rw[hat];simp_all)),by omega⟩
 refine BK ?_;have hge:p.length-1<=k:=by have h:=hb1;simp[EI]at h;omega
 refine wk 5 ?_;refine Cj ⟨[_],⟨rfl,trivial⟩,?_,rfl⟩;refine bc ?_;exact(Cd hall (by simpa using hge)).symm
theorem cM(f:BFunc)(b:Block)(p:List Int)(hp:km f.blocks.length p)(hpl:p.length<=2000000)(hbl:b.ins.length<=1000000000):Pu Tryz.prog 317 [.agg f.cells,.agg b.cells,Bt p] (.bool (Hc f b.ins p)):=by
 refine APure.of_body (n:=47) Am Tryz.func317 rfl rfl ?_;refine Gy ?_;refine ax 3 (Dn 2 0) ?_;refine ax 4 (Dn 5 1) ?_;refine wk 16 ?_;refine AF (γ:=MG) 2 (fun q=>⟨47,(Ad (Ad (Ad (Ad (Ad BC 3 (pZ 0)) 7 (Eu q.rest)) 13 (Bt p)) 14 (iN p.length)) 15 (iN q.k)),(Al (AU 2) 0 (rf 2 [f.cells]))⟩) (fun q=>Hc f q.rest (p.drop q.k)=Hc f b.ins p/\q.rest.length<=1000000000) (fun q=>p.length-q.k) ⟨0,b.ins⟩ (Sub.mk' DP FH) ⟨rfl,hbl⟩ (fun _=>CJ) ?_;intro q hF;refine wk 5 ?_;refine asp 16 (fun hb1=>?_) fun hb1=>?_
 .
  refine act ?_;have hkl:q.k<p.length:=by have h:=hb1;simp at h;omega
  obtain⟨y,hy⟩:=Ag hkl;have hyr:=hp.2 y (List.mem_of_getElem? hy);have hst:=SH (f:=f) (rest:=q.rest) hy;have heq:=hF.1;have hrl:=hF.2;refine wk 5 ?_;refine aq 17 (F6 Am (AG hy)) ?_;refine wk 8 ?_;refine aq 22 (AJ Am rfl rfl rfl rfl rfl rfl hyr.1 (Ev (Ct hyr)) rfl) ?_;refine wk 13 ?_;refine BH 30 (fun hb2=>?_) fun hb2=>?_
  .
   refine wk 14 ?_;exact kI
  have hlen:(f.blockAt y).ins.length<=q.rest.length:=by have h:=hb2;simp at h;omega
  refine wk 3 ?_;refine aq 34 (XZ (l:=q.rest) (m:=(f.blockAt y).ins.length) Am rfl rfl rfl rfl ⟨rfl,rfl⟩ rfl M3 (by have h:=hlen;omega)) ?_;refine wk 1 ?_;refine ax 36 (CR Tryz.func323 (ZK (q.rest.take (f.blockAt y).ins.length) (f.blockAt y).ins Xc)) ?_;refine wk 3 ?_;refine asp 38 (fun hb3=>?_) fun hb3=>?_
  .
   refine wk 5 ?_;exact kI
  refine BK ?_;have hsame:q.rest.take (f.blockAt y).ins.length=(f.blockAt y).ins:=by simp_all
  refine wk 5 ?_;refine aq 42 (bO (l:=q.rest) (m:=(f.blockAt y).ins.length) Am rfl rfl rfl rfl ⟨rfl,rfl⟩ rfl M3 (by have h:=hlen;omega)) ?_;refine wk 3 ?_;refine aq 43 (Bw rfl rfl hkl GM) ?_;refine wk 2 ?_;exact⟨⟨q.k+1,q.rest.drop (f.blockAt y).ins.length⟩,Drop.mk' DO KQ,⟨by rw[<-heq,hst];simp[hlen,hsame],by show(q.rest.drop _).length<=_;rw[List.length_drop];omega⟩,(by show p.length-(q.k+1)<p.length-q.k;omega)⟩
 refine BK ?_;have hge:p.length<=q.k:=by have h:=hb1;simp at h;omega
 have heq:=hF.1;refine wk 8 ?_;refine Cj ⟨[_],⟨rfl,trivial⟩,?_,rfl⟩;refine bc ?_;rw[<-heq,List.drop_eq_nil_of_le hge,Hc]
 cases q.rest<;>simp[AM]<;>omega
theorem F3(paths:List (List Int))(k i:Int)(hpn:∀p∈paths,p≠[]):Ca Tryz.prog 324 [.int .i64 k,.int .i64 i,.ptr 2 1 0 0] (Al hNew 2 (rf 1 [[AS paths]])) (.bool (EK paths k i)) (Al hNone 2 (rf 1 [[AS paths]])):=by
 refine ACall.of_body (n:=24) Am Tryz.func324 rfl rfl ?_;refine wk 9 ?_;refine BH 8 (fun hb1=>?_) fun hb1=>?_
 .
  refine wk 6 ?_;refine BH 14 (fun hb2=>?_) fun hb2=>?_
  .
   have hkr:0<=k/\k<paths.length:=by simp_all[AS]<;>omega
   have hpk:=JU hkr;have hp0:=Ob (hpn _ (List.mem_of_getElem? hpk));refine wk 2 ?_;refine aq 17 (AJ Am rfl rfl rfl rfl rfl rfl hkr.1 (Ev hpk) rfl) ?_;refine wk 1 ?_;refine aq 19 (AJ Am rfl rfl rfl rfl rfl rfl A7 (cs:=[.int .i64 (Dp (C5 paths k))]) (by show(List.map (fun b=>[AV.int .i64 b]) (C5 paths k))[0]?=_;rw[List.getElem?_map,hp0];rfl) rfl) ?_;refine wk 7 ?_;exact gM
  refine wk 12 ?_;exact gM
 refine wk 18 ?_;exact gM
theorem Y0(last b:Block)(paths:List (List Int))(hpn:∀p∈paths,p≠[]):Pu Tryz.prog 318 [.agg last.cells,.agg b.cells,AS paths] (.bool (J1 last b paths)):=by
 refine APure.of_body (n:=60) Am Tryz.func318 rfl rfl ?_;refine Gy ?_;refine ax 3 (Dn 5 0) ?_;refine ax 4 (Dn 5 1) ?_;refine ax 5 (Dn 1 2) ?_;refine wk 11 ?_;refine BH 15 (fun hb1=>?_) fun hb1=>?_
 .
  refine wk 13 ?_;exact Tz
 refine wk 7 ?_;refine asp 21 (fun hb2=>?_) fun hb2=>?_
 .
  refine wk 6 ?_;exact Tz
 refine wk 4 ?_;refine aq 22 (Ig rfl rfl rfl) ?_;refine wk 24 ?_;refine BH 36 (fun hb3=>?_) fun hb3=>?_
 .
  refine wk 12 ?_;refine ax 46 (Jc (hc:=(Al hNew 2 (rf 1 [[AS paths]]))) (hw:=(Al hNone 2 (rf 1 [[AS paths]]))) [2] [(2,(rf 1 [[AS paths]]))] rfl rfl Tryz.func324 Ay rfl rfl rfl ⟨⟨_,rfl,rfl⟩,trivial⟩ rfl C6 ⟨⟨_,rfl,rfl,rfl⟩,trivial⟩ rfl (F3 paths b.to last.to hpn)) ?_;refine wk 9 ?_;refine asp 49 (fun hb4=>?_) fun hb4=>?_
  .
   refine wk 7 ?_;refine ax 55 (Jc (hc:=(Al hNew 2 (rf 1 [[AS paths]]))) (hw:=(Al hNone 2 (rf 1 [[AS paths]]))) [2] [(2,(rf 1 [[AS paths]]))] rfl rfl Tryz.func324 Ay rfl rfl rfl ⟨⟨_,rfl,rfl⟩,trivial⟩ rfl C6 ⟨⟨_,rfl,rfl,rfl⟩,trivial⟩ rfl (F3 paths b.els last.els hpn)) ?_;refine wk 6 ?_;refine BH 57 (fun hb5=>?_) fun hb5=>?_
   .
    refine wk 5 ?_;exact Tz
   refine wk 5 ?_;exact Tz
  refine wk 6 ?_;refine BH 57 (fun hb6=>?_) fun hb6=>?_
  .
   refine wk 5 ?_;exact Tz
  refine wk 5 ?_;exact Tz
 refine wk 5 ?_;refine asp 40 (fun hb7=>?_) fun hb7=>?_
 .
  refine wk 7 ?_;refine ax 46 (Jc (hc:=(Al hNew 2 (rf 1 [[AS paths]]))) (hw:=(Al hNone 2 (rf 1 [[AS paths]]))) [2] [(2,(rf 1 [[AS paths]]))] rfl rfl Tryz.func324 Ay rfl rfl rfl ⟨⟨_,rfl,rfl⟩,trivial⟩ rfl C6 ⟨⟨_,rfl,rfl,rfl⟩,trivial⟩ rfl (F3 paths b.to last.to hpn)) ?_;refine wk 9 ?_;refine asp 49 (fun hb8=>?_) fun hb8=>?_
  .
   refine wk 7 ?_;refine ax 55 (Jc (hc:=(Al hNew 2 (rf 1 [[AS paths]]))) (hw:=(Al hNone 2 (rf 1 [[AS paths]]))) [2] [(2,(rf 1 [[AS paths]]))] rfl rfl Tryz.func324 Ay rfl rfl rfl ⟨⟨_,rfl,rfl⟩,trivial⟩ rfl C6 ⟨⟨_,rfl,rfl,rfl⟩,trivial⟩ rfl (F3 paths b.els last.els hpn)) ?_;refine wk 6 ?_;refine BH 57 (fun hb9=>?_) fun hb9=>?_
   .
    refine wk 5 ?_;exact Tz
   refine wk 5 ?_;exact Tz
  refine wk 6 ?_;refine BH 57 (fun hb10=>?_) fun hb10=>?_
  .
   refine wk 5 ?_;exact Tz
  refine wk 5 ?_;exact Tz
 refine wk 9 ?_;refine asp 49 (fun hb11=>?_) fun hb11=>?_
 .
  refine wk 7 ?_;refine ax 55 (Jc (hc:=(Al hNew 2 (rf 1 [[AS paths]]))) (hw:=(Al hNone 2 (rf 1 [[AS paths]]))) [2] [(2,(rf 1 [[AS paths]]))] rfl rfl Tryz.func324 Ay rfl rfl rfl ⟨⟨_,rfl,rfl⟩,trivial⟩ rfl C6 ⟨⟨_,rfl,rfl,rfl⟩,trivial⟩ rfl (F3 paths b.els last.els hpn)) ?_;refine wk 6 ?_;refine BH 57 (fun hb12=>?_) fun hb12=>?_
  .
   refine wk 5 ?_;exact Tz
  refine wk 5 ?_;exact Tz
 refine wk 6 ?_;refine BH 57 (fun hb13=>?_) fun hb13=>?_
 .
  refine wk 5 ?_;exact Tz
 refine wk 5 ?_;exact Tz
theorem ZY(old new:BFunc)(paths:List (List Int))(hnl:∀x∈new.blocks,x.ins.length<=1000000000)(hpl:paths.length<=2000000)(hps:∀p∈paths,p.length<=2000000):Pu Tryz.prog 314 [.agg old.cells,.agg new.cells,AS paths] (.bool (CE old new paths)):=by
 refine APure.of_body (n:=104) Am Tryz.func314 rfl rfl ?_;refine Gy ?_;refine ax 3 (Dn 2 0) ?_;refine ax 4 (Dn 2 1) ?_;refine wk 9 ?_;refine BH 16 (fun hb1=>?_) fun hb1=>?_
 .
  refine wk 20 ?_;exact gL
 refine wk 8 ?_;refine BH 24 (fun hb2=>?_) fun hb2=>?_
 .
  refine wk 12 ?_;exact gL
 refine wk 7 ?_;refine asp 30 (fun hb3=>?_) fun hb3=>?_
 .
  refine wk 5 ?_;exact gL
 refine BK ?_;have h0:paths.length≠0/\paths.length=new.blocks.length/\old.regs=new.regs:=by simp_all[AS,Cc]<;>omega
 refine wk 9 ?_;refine AF (γ:=Nat) 2 (fun k=>⟨104,(Ad (Ad (Ad (Ad (Ad (Ad BC 2 (AS paths)) 3 (pZ 0)) 4 (pZ 1)) 31 (AS paths)) 32 (iN paths.length)) 33 (iN k)),(Al (Al (AU 2) 0 (rf 2 [old.cells])) 1 (rf 2 [new.cells]))⟩) (fun k=>(paths.take k).all (DZ old.blocks.length)=true) (fun k=>paths.length-k) 0 (Sub.mk' DP FH) rfl (fun _=>CJ) ?_;intro k hF;refine wk 5 ?_;refine asp 34 (fun hb4=>?_) fun hb4=>?_
 .
  refine act ?_;have hkl:k<paths.length:=by simpa using hb4
  obtain⟨p,hp⟩:=Ag hkl;have hpp:=hps p (List.mem_of_getElem? hp);refine wk 5 ?_;refine aq 35 (F6 Am (AG hp)) ?_;refine wk 10 ?_;refine asp 39 (fun hb5=>?_) fun hb5=>?_
  .
   refine act ?_;have hpe:(p.length==0)=true:=by have h:=hb5;simp at h;simp[h]
   refine wk 4 ?_;refine Cj ⟨[_],⟨rfl,trivial⟩,?_,rfl⟩;refine bc ?_;exact(ML (BJ hp (by simp[DZ,hpe]))).symm
  refine BK ?_;have hpe:(p.length==0)=false:=by have h:=hb5;simp at h;simp[h]
  refine wk 8 ?_;refine AF (γ:=Nat) 2 (fun j=>⟨104,(Ad (Ad (Ad (Ad (Ad (Ad (Ad (Ad (Ad (Ad BC 2 (AS paths)) 3 (pZ 0)) 4 (pZ 1)) 31 (AS paths)) 32 (iN paths.length)) 33 (iN k)) 8 (Bt p)) 40 (Bt p)) 41 (iN p.length)) 42 (iN j)),(Al (Al (AU 2) 0 (rf 2 [old.cells])) 1 (rf 2 [new.cells]))⟩) (fun j=>(p.take j).all (fun i=> !(decide (i<0))&& !(decide (i>=(old.blocks.length:Int))))=true) (fun j=>p.length-j) 0 (Sub.mk' DP FH) rfl (fun _=>CJ) ?_;intro j hG;refine wk 5 ?_;refine asp 43 (fun hb6=>?_) fun hb6=>?_
  .
   refine act ?_;have hjl:j<p.length:=by simpa using hb6
   obtain⟨y,hy⟩:=Ag hjl;refine wk 5 ?_;refine aq 44 (F6 Am (AG hy)) ?_;refine wk 8 ?_;refine BH 48 (fun hb7=>?_) fun hb7=>?_
   .
    refine wk 12 ?_;exact kz
   refine wk 7 ?_;refine asp 54 (fun hb8=>?_) fun hb8=>?_
   .
    refine wk 5 ?_;exact kz
   refine wk 3 ?_;refine aq 55 (Bw rfl rfl hjl GM) ?_;refine wk 2 ?_;exact⟨j+1,Drop.mk' DO KQ,(BS hy hG (by simp_all[Cc])),by omega⟩
  refine BK ?_;have hge2:p.length<=j:=by simpa using hb6
  refine wk 2 ?_;refine aq 56 (Bw rfl rfl hkl GM) ?_;refine wk 2 ?_;exact⟨k+1,Drop.mk' DO KQ,(BS hp hF (by simp only[DZ,hpe,Bool.not_false,Bool.true_and];exact Cd hG hge2)),by omega⟩
 refine BK ?_;have hge:paths.length<=k:=by simpa using hb4
 have hall:=Cd hF hge;have hp00:=JU (paths:=paths) (k:=0) Ab;have hp01:=Ob (Gg (List.all_eq_true.1 hall _ (List.mem_of_getElem? hp00))).1;refine wk 5 ?_;refine aq 58 (AJ Am rfl rfl rfl rfl rfl rfl A7 (cs:=G6 (C5 paths 0)) (Ev hp00) rfl) ?_;refine wk 1 ?_;refine aq 60 (AJ Am rfl rfl rfl rfl rfl rfl A7 (cs:=[.int .i64 (Dp (C5 paths 0))]) (by show(List.map (fun b=>[AV.int .i64 b]) (C5 paths 0))[0]?=_;rw[List.getElem?_map,hp01];rfl) rfl) ?_;refine wk 3 ?_;refine asp 62 (fun hb9=>?_) fun hb9=>?_
 .
  refine act ?_;have hz:=hb9;refine wk 4 ?_;refine Cj ⟨[_],⟨rfl,trivial⟩,?_,rfl⟩;refine bc ?_;exact(Tb hz).symm
 refine BK ?_;have hz:=hb9;refine wk 9 ?_;refine AF (γ:=Nat) 2 (fun k=>⟨104,(Ad (Ad (Ad (Ad (Ad (Ad BC 2 (AS paths)) 3 (pZ 0)) 4 (pZ 1)) 63 (AS paths)) 64 (iN paths.length)) 65 (iN k)),(Al (Al (AU 2) 0 (rf 2 [old.cells])) 1 (rf 2 [new.cells]))⟩) (fun k=>(paths.zipIdx.take k).all (GU old new paths)=true) (fun k=>paths.length-k) 0 (Sub.mk' DP FH) rfl (fun _=>CJ) ?_;intro k hS;refine wk 5 ?_;refine asp 66 (fun hb10=>?_) fun hb10=>?_
 .
  refine act ?_;have hkl:k<paths.length:=by simpa using hb10
  obtain⟨p,hp⟩:=Ag hkl;have hpp:=hps p (List.mem_of_getElem? hp);have hpin:=Gg (List.all_eq_true.1 hall p (List.mem_of_getElem? hp));have hnb:new.blocks[((k:Nat):Int).toNat]?=some (new.blockAt k):=Ct Ab;have hlast:=hpin.2 _ (Mh hpin.1);refine wk 6 ?_;refine aq 68 (F6 Am (AG hp)) ?_;refine wk 9 ?_;refine dx 72 (CR Tryz.func316 (S4 old p hpin hpp)) ?_;refine wk 2 ?_;refine DOps.split 74 rfl (fun hb11=>?_) (fun hb11=>?_)
  .
   refine wk 16 ?_;exact gK
  refine wk 4 ?_;refine dq 79 (AJ Am rfl rfl rfl rfl rfl rfl (Int.natCast_nonneg _) (cs:=(new.blockAt k).cells) (Ev hnb) rfl) ?_;refine wk 2 ?_;refine dx 82 (CR Tryz.func317 (cM old (new.blockAt k) p hpin hpp (hnl _ (List.mem_of_getElem? hnb)))) ?_;refine wk 3 ?_;refine asp 84 (fun hb12=>?_) fun hb12=>?_
  .
   refine wk 5 ?_;exact gK
  refine wk 9 ?_;refine dq 90 (BB (r:=.int .i64 ((p.length-1:Nat):Int)) rfl rfl rfl (by rw[List.length_map];exact He (List.length_pos_iff.2 hpin.1) Ab)) ?_;refine dq 91 (AJ Am rfl rfl rfl rfl rfl rfl (Int.natCast_nonneg _) (cs:=[.int .i64 (DJ p)]) (by show(List.map (fun b=>[AV.int .i64 b]) p)[_]?=_;rw[Int.toNat_natCast,List.getElem?_map,QQ hpin.1];rfl) rfl) ?_;refine wk 1 ?_;refine dq 93 (AJ Am rfl rfl rfl rfl rfl rfl hlast.1 (Ev (Ct hlast)) rfl) ?_;refine wk 4 ?_;refine dq 98 (AJ Am rfl rfl rfl rfl rfl rfl (Int.natCast_nonneg _) (cs:=(new.blockAt k).cells) (Ev hnb) rfl) ?_;refine wk 2 ?_;refine dx 101 (CR Tryz.func318 (Y0 (old.blockAt (DJ p)) (new.blockAt k) paths (fun p hp=>(Gg (List.all_eq_true.1 hall p hp)).1))) ?_;refine dq 102 (IZ rfl rfl) ?_;refine wk 1 ?_;refine asp 102 (fun hb13=>?_) fun hb13=>?_
  .
   refine wk 5 ?_;exact gK
  refine wk 3 ?_;refine aq 103 (Bw rfl rfl hkl GM) ?_;refine wk 2 ?_;exact⟨k+1,Drop.mk' DO KQ,(BS (Bl hp) hS (by simp_all[GU])),by omega⟩
 refine BK ?_;have hge3:paths.length<=k:=by simpa using hb10
 refine wk 5 ?_;refine Cj ⟨[_],⟨rfl,trivial⟩,?_,rfl⟩;refine bc ?_;exact(S9 h0.1 h0.2.1 h0.2.2 hall hz (Cd hS (by rw[List.length_zipIdx];exact hge3))).symm
theorem bT{f:BFunc}{p:OPass}(hf:I35 f)(hp:yp p)(hk:EB p.kind=true):HP p f:=
 SV hk (U7 f p.f hf.n hp.f.n hf.i hp.f.i p.cert) (ZY f p.f p.paths (fun x hx=>Nat.le_trans (hp.f.i x hx).1 A7) (Nat.le_trans hp.n A7) (fun q hq=>Nat.le_trans (hp.q q hq) A7))
theorem Wx(a b:Blocks)(ls:List (List OPass))(ha:a.funcs.length<=1048576)(hI:∀f∈a.funcs,I35 f)(hl:∀l∈ls,l.length<=1048576/\∀p∈l,yp p):APure Tryz.prog 8 [.agg a.cells,.agg b.cells,Mf ls] (fun r=>r=.bool (EA a b ls)):=
 Td a b ls ha (fun _ _ f hf g hg l h=>SN f g l (hl l h).1 I35 (hI f hf) (fun _ h=>h.lim) (fun p hp=>⟨((hl l h).2 p hp).f,fun x hx hk=>bT hx ((hl l h).2 p hp) hk⟩))
section
variable {call call' : Int -> Mach -> Mach} {s : ByteArray} {fuel : Int}
def MM(call call':Int->Mach->Mach)(ok:Int->Prop):Prop:=∀i m,ok i->call i m=call' i m
theorem Ii{ok:Int->Prop}(hc:MM call call' ok)(t:Tac)(ht:t.op=10->ok t.base)(regs:List Int)(m:Mach):AB call s t regs m=AB call' s t regs m:=by
 by_cases h:t.op=10
 . rw[SG h,SG h,hc _ _ (ht h)]
 . unfold AB;have:(t.op==10)=false:=by rw[beq_eq_false_iff_ne];exact h
   simp only[this,cond_false]
theorem L5{ok:Int->Prop}(hc:MM call call' ok):∀(l:List Tac),(∀t∈l,t.op=10->ok t.base)->∀(regs:List Int) (m:Mach),D1 call s fuel l regs m=D1 call' s fuel l regs m
 | [],_,_,_=>rfl
 |t::r,hl,regs,m=>by
  unfold D1;rw[Ii hc t (hl t Az)]
  cases (Bu fuel m).1 with
  |false=>rfl
  |true=>
   simp only[cond_true];rw[L5 hc r (fun t ht=>hl t (by simp[ht]))]
theorem Ma{ok:Int->Prop}(hc:MM call call' ok){f:BFunc}(hf:∀x∈f.blocks,∀t∈x.ins,t.op=10->ok t.base):∀(g:Nat) (i:Int) (regs:List Int) (m:Mach),FU call s fuel f g i regs m=FU call' s fuel f g i regs m
 |0,_,_,_=>rfl
 |g+1,i,regs,m=>by
  unfold FU
  cases e:f.blocks[i.toNat]? with
  |none=>rfl
  |some k=>
   simp only;rw[L5 hc k.ins (hf k (List.mem_of_getElem? e))]
   cases (D1 call' s fuel k.ins regs m).1 with
   |false=>rfl
   |true=>
    simp only[cond_true]
    cases (Bu fuel (D1 call' s fuel k.ins regs m).2.2).1&& !(k.fin==3)with
    |false=>rfl
    |true=>simp only[cond_true];exact Ma hc hf g _ _ _
theorem L9(hcs:∀i m,m.steps<=(call i m).steps){f:BFunc}:∀(g g':Nat) (i:Int) (regs:List Int) (m:Mach),Dr fuel g m->Dr fuel g' m->0<g->0<g'->FU call s fuel f g i regs m=FU call s fuel f g' i regs m
 |0,_,_,_,_,_,_,h,_=>absurd h Ab
 |_+1,0,_,_,_,_,_,_,h=>absurd h Ab
 |g+1,g'+1,i,regs,m,h,h',_,_=>by
  unfold FU
  cases e:f.blocks[i.toNat]? with
  |none=>rfl
  |some k=>
   simp only;have hs:=D0 (call:=call) (s:=s) (fuel:=fuel) hcs k.ins regs m;generalize D1 call s fuel k.ins regs m=p at hs|-
   cases p.1 with
   |false=>rfl
   |true=>
    simp only[cond_true]
    cases e2:(Bu fuel p.2.2).1 with
    |false=>rfl
    |true=>
     obtain⟨a1,a2⟩:=E0 e2;rw[a2]
     cases !(k.fin==3)with
     |false=>rfl
     |true=>
      simp only[Bool.true_and,cond_true];unfold Dr at h h';refine L9 hcs g g' _ _ _ ?_ ?_ ?_ ?_
      . show fuel.toNat<p.2.2.steps+1+g;omega
      . show fuel.toNat<p.2.2.steps+1+g';omega
      . omega
      . omega
end
theorem G0{b:Blocks}(hb:b.right=true){i:Nat}{f:BFunc}(hf:b.funcs[i]?=some f):∀x∈f.blocks,∀t∈x.ins,t.op=10->0<=t.base/\t.base<(i:Int):=fun x hx t ht h10=>by
 have h1:=(DW hb).2.2.2 i f hf;have h2:=(Es h1).2.2.2 x hx;have h3:=h2.2 t ht;have:=(Ls h3).call h10;simpa using this
theorem L6{b:Blocks}(hb:b.right=true){s:ByteArray}{fuel:Int}:∀(n n':Nat) (i:Int) (m:Mach),0<=i->i<n->i<n'->i<b.funcs.length->mfun b s fuel n i m=mfun b s fuel n' i m
 |0,_,i,_,h0,h,_,_=>absurd h Ab
 |_+1,0,i,_,h0,_,h,_=>absurd h Ab
 |n+1,n'+1,i,m,h0,h,h',hl=>by
  obtain⟨f,hf⟩:=Ag (l:=b.funcs) (k:=i.toNat) Ab;unfold mfun;rw[hf];simp only;refine Ma (ok:=fun j=>0<=j/\j<i) (fun j m hj=>L6 hb n n' j m hj.1 Ab Ab Ab) (fun x hx t ht h10=>?_) _ _ _ _;have:=G0 hb hf x hx t ht h10;omega
structure F7 where
  f:Nat
  blk:Int
  at':Nat
structure vi where
  now:F7
  above:List F7
  R:List (Option (List Int))
  m:Mach
def aO(R:List (Option (List Int)))(f:Nat):List Int:=((R[f]?).getD none).getD []
section
variable {b : Blocks} {s : ByteArray} {fuel : Int}
def FN(b:Blocks)(s:ByteArray)(fuel:Int)(f:Nat)(F:BFunc)(k:Block)(at':Nat)(regs:List Int)(m:Mach):Mach:=
  let p:=D1 (mfun b s fuel f) s fuel (k.ins.drop at') regs m
  bif p.1 then(bif (Bu fuel p.2.2).1&& !(k.fin==3)then FU (mfun b s fuel f) s fuel F (fuel.toNat+1) (k.next p.2.1) p.2.1 (Bu fuel p.2.2).2 else(Bu fuel p.2.2).2)else p.2.2
def JR(b:Blocks)(s:ByteArray)(fuel:Int)(fr:F7)(regs:List Int)(m:Mach):Mach:=
  match b.funcs[fr.f]? with
  |none=>m
  |some F=>match F.blocks[fr.blk.toNat]? with
    |none=>m
    |some k=>FN b s fuel fr.f F k fr.at' regs m
def Fw(b:Blocks)(s:ByteArray)(fuel:Int)(R:List (Option (List Int))):List F7->Mach->Mach
  | [],m=>m
  |fr::r,m=>if m.fin=0 then Fw b s fuel R r (JR b s fuel fr (aO R fr.f) m)else m
theorem H6{R:List (Option (List Int))}{m:Mach}(h:m.fin≠0):∀l:List F7,Fw b s fuel R l m=m
 | []=>rfl
 |fr::r=>by unfold Fw;rw[if_neg h]
def J8(b:Blocks)(s:ByteArray)(fuel:Int)(q:vi):Mach:=Fw b s fuel q.R q.above.reverse (JR b s fuel q.now (aO q.R q.now.f) q.m)
theorem On(b:Blocks)(s:ByteArray)(fuel:Int)(n:Nat):∀i m,m.steps<=(mfun b s fuel n i m).steps:=fun i m=>Gk n i m
theorem JZ{F:BFunc}{f:Nat}{i:Int}{k:Block}(hk:F.blocks[i.toNat]?=some k){g:Nat}(regs:List Int)(m:Mach)(hg:Dr fuel g m)(h0:0<g):FU (mfun b s fuel f) s fuel F g i regs m=FN b s fuel f F k 0 regs m:=by
 obtain⟨g,rfl⟩:∃g',g=g'+1:=⟨g-1,by omega⟩
 unfold FU FN;rw[hk];simp only[List.drop_zero];have hs:=D0 (call:=mfun b s fuel f) (s:=s) (fuel:=fuel) (On b s fuel f) k.ins regs m;generalize D1 (mfun b s fuel f) s fuel k.ins regs m=p at hs|-
 cases p.1 with
 |false=>rfl
 |true=>
  simp only[cond_true]
  cases e2:(Bu fuel p.2.2).1 with
  |false=>rfl
  |true=>
   obtain⟨a1,a2⟩:=E0 e2;rw[a2]
   cases !(k.fin==3)with
   |false=>rfl
   |true=>
    simp only[Bool.true_and,cond_true];unfold Dr at hg;refine L9 (On b s fuel f) _ _ _ _ _ ?_ ?_ ?_ ?_
    . show fuel.toNat<p.2.2.steps+1+g;omega
    . show fuel.toNat<p.2.2.steps+1+(fuel.toNat+1);omega
    . omega
    . omega
structure vp(b:Blocks)(R:List (Option (List Int)))(fr:F7):Prop where
  ex:∃F k l,b.funcs[fr.f]?=some F/\F.blocks[fr.blk.toNat]?=some k/\0<=fr.blk/\fr.at'<=k.ins.length/\R[fr.f]?=some (some l)/\l.length=F.regs.toNat/\Kg l
theorem IY{R:List (Option (List Int))}{f:Nat}{l:List Int}(h:R[f]?=some (some l)):aO R f=l:=by simp[aO,h]
theorem T3{R:List (Option (List Int))}{f g:Nat}{l:List Int}(h:f≠g):aO (R.set g (some l)) f=aO R f:=by
 unfold aO;rw[List.getElem?_set_ne (Ne.symm h)]
theorem LO{R:List (Option (List Int))}{f:Nat}{l:List Int}(h:f<R.length):aO (R.set f (some l)) f=l:=by
 unfold aO;rw[List.getElem?_set_self h];rfl
theorem HZ{R:List (Option (List Int))}{g:Nat}{l:List Int}:∀(fs:List F7),(∀fr∈fs,fr.f≠g)->∀m,Fw b s fuel (R.set g (some l)) fs m=Fw b s fuel R fs m
 | [],_,_=>rfl
 |fr::r,h,m=>by
  unfold Fw;rw[T3 (h fr Az)];split
  . exact HZ r (fun x hx=>h x Lc) _
  . rfl
theorem CA{fr:F7}{F:BFunc}{k:Block}(hF:b.funcs[fr.f]?=some F)(hk:F.blocks[fr.blk.toNat]?=some k)(regs:List Int)(m:Mach):JR b s fuel fr regs m=FN b s fuel fr.f F k fr.at' regs m:=by
 unfold JR;rw[hF];simp only;rw[hk]
structure SInv(b:Blocks)(s:ByteArray)(fuel:Int)(W:Nat)(tgt:Mach)(q:vi):Prop where
  good:q.m.good W
  fin:q.m.fin=0
  rl:q.R.length=b.funcs.length
  now:vp b q.R q.now
  ab:∀fr∈q.above,vp b q.R fr
  lt:∀fr∈q.above,q.now.f<fr.f
  sort:q.above.Pairwise (fun x y=>y.f<x.f)
  al:q.above.length<=q.m.steps
  tgt:J8 b s fuel q=tgt
variable {W : Nat} {tgt : Mach} {q : vi}
theorem Jr{α:Type}{l:List α}{k:Nat}{x:α}(h:l[k]?=some x):l.drop k=x::l.drop (k+1):=by
 obtain⟨a,b⟩:=List.getElem?_eq_some_iff.1 h;rw[List.drop_eq_getElem_cons a,b]
theorem SInv.noFuel(h:SInv b s fuel W tgt q)(hf:decide ((q.m.steps:Int)>=fuel)=true):tgt={q.m with fin:=5}:=by
 obtain⟨F,k,l,h1,h2,h3,h4,h5,h6,h7⟩:=h.now.ex;rw[<-h.tgt,J8,CA h1 h2];have hm:=YP hf;have key:FN b s fuel q.now.f F k q.now.at' (aO q.R q.now.f) q.m={q.m with fin:=5}:=by
  unfold FN
  by_cases hat:q.now.at'<k.ins.length
  . obtain⟨t,ht⟩:=Ag hat;rw[Jr ht];unfold D1;rw[hm];rfl
  . rw[List.drop_eq_nil_of_le Ab];unfold D1;simp only[cond_true,hm,Bool.false_and,cond_false]
 rw[key,H6 (by show(5:Int)≠0;decide)]
theorem D5{m:Mach}(h:m.good W):({m with steps:=m.steps+1}:Mach).good W:=⟨h.len,h.words,h.out⟩
theorem SInv.insEnd(h:SInv b s fuel W tgt q){F:BFunc}{k:Block}{t:Tac}{l:List Int}(h1:b.funcs[q.now.f]?=some F)(h2:F.blocks[q.now.blk.toNat]?=some k)(ht:k.ins[q.now.at']?=some t)(hl:q.R[q.now.f]?=some (some l))(hf:decide ((q.m.steps:Int)>=fuel)=false)(h10:t.op≠10)
 (he:(AB (fun _ m=>m) s t l {q.m with steps:=q.m.steps+1}).2.fin≠0):tgt=(AB (fun _ m=>m) s t l {q.m with steps:=q.m.steps+1}).2:=by
 rw[<-h.tgt,J8,CA h1 h2,IY hl];have hc:AB (mfun b s fuel q.now.f) s t l {q.m with steps:=q.m.steps+1}=AB (fun _ m=>m) s t l {q.m with steps:=q.m.steps+1}:=Ii (ok:=fun _=>False) (fun _ _ h=>h.elim) t (fun e=>(h10 e).elim) _ _;have key:FN b s fuel q.now.f F k q.now.at' l q.m=(AB (fun _ m=>m) s t l {q.m with steps:=q.m.steps+1}).2:=by
  unfold FN;rw[Jr ht];unfold D1;rw[HJ hf];simp only[cond_true,hc];have:((AB (fun _ m=>m) s t l {q.m with steps:=q.m.steps+1}).2.fin==0)=false:=by rw[beq_eq_false_iff_ne];exact he
  rw[this];rfl
 rw[key,H6 he]
theorem SInv.ins(h:SInv b s fuel W tgt q){F:BFunc}{k:Block}{t:Tac}{l:List Int}(h1:b.funcs[q.now.f]?=some F)(h2:F.blocks[q.now.blk.toNat]?=some k)(ht:k.ins[q.now.at']?=some t)(hw:Hf t.n)(hl:q.R[q.now.f]?=some (some l))(hf:decide ((q.m.steps:Int)>=fuel)=false)(h10:t.op≠10)
 (he:(AB (fun _ m=>m) s t l {q.m with steps:=q.m.steps+1}).2.fin=0) (hst:(AB (fun _ m=>m) s t l {q.m with steps:=q.m.steps+1}).2.steps=q.m.steps+1):
 SInv b s fuel W tgt ⟨⟨q.now.f,q.now.blk,q.now.at'+1⟩,q.above,q.R.set q.now.f (some (AB (fun _ m=>m) s t l {q.m with steps:=q.m.steps+1}).1),(AB (fun _ m=>m) s t l {q.m with steps:=q.m.steps+1}).2⟩:=by
 obtain⟨F',k',l',g1,g2,g3,g4,g5,g6,g7⟩:=h.now.ex;rw[h1]at g1;cases g1;rw[h2]at g2;cases g2;rw[hl]at g5;cases g5;have hlt:=(List.getElem?_eq_some_iff.1 hl).1;have hat:=(List.getElem?_eq_some_iff.1 ht).1;obtain⟨m1,m2,m3⟩:=JY (call:=fun _ m=>m) (s:=s) (fun _ _ h=>h) t hw g7 (D5 h.good);have hc:AB (mfun b s fuel q.now.f) s t l {q.m with steps:=q.m.steps+1}=AB (fun _ m=>m) s t l {q.m with steps:=q.m.steps+1}:=Ii (ok:=fun _=>False) (fun _ _ h=>h.elim) t (fun e=>(h10 e).elim) _ _;refine⟨m3,he,by rw[List.length_set];exact h.rl,⟨F,k,_,h1,h2,g3,by show q.now.at'+1<=_;omega,by rw[List.getElem?_set_self hlt],by rw[m2];exact g6,m1⟩,fun fr hfr=>?_,h.lt,h.sort,?_,?_⟩
 . obtain⟨F2,k2,l2,a1,a2,a3,a4,a5,a6,a7⟩:=(h.ab fr hfr).ex;exact eZ
 . show q.above.length<=_;rw[hst];have:=h.al;omega
 . rw[<-h.tgt,J8,J8];simp only;rw[HZ _ (fun fr hfr=>by have:=h.lt fr (by simpa using hfr);omega),LO hlt,CA h1 h2,CA (fr:=⟨q.now.f,q.now.blk,q.now.at'+1⟩) h1 h2,IY hl];congr 1;unfold FN;rw[Jr ht];conv=>rhs;unfold D1
   rw[HJ hf];simp only[cond_true,hc,he];rfl
theorem SInv.call(hb:b.right=true)(hW:W=b.words.toNat)(h:SInv b s fuel W tgt q){F:BFunc}{k:Block}{t:Tac}(h1:b.funcs[q.now.f]?=some F)(h2:F.blocks[q.now.blk.toNat]?=some k)(ht:k.ins[q.now.at']?=some t)(hf:decide ((q.m.steps:Int)>=fuel)=false)(h10:t.op=10){G:BFunc}(hG:b.funcs[t.base.toNat]?=some G):
 SInv b s fuel W tgt ⟨⟨t.base.toNat,0,0⟩,q.above++[⟨q.now.f,q.now.blk,q.now.at'+1⟩],q.R.set t.base.toNat (some (List.replicate G.regs.toNat 0)),{q.m with steps:=q.m.steps+1}⟩:=by
 obtain⟨F',k',l,g1,g2,g3,g4,g5,g6,g7⟩:=h.now.ex;rw[h1]at g1;cases g1;rw[h2]at g2;cases g2;have hbase:=G0 hb h1 k (List.mem_of_getElem? h2) t (List.mem_of_getElem? ht) h10;have hat:=(List.getElem?_eq_some_iff.1 ht).1;have hlt:t.base.toNat<q.R.length:=by have:=(List.getElem?_eq_some_iff.1 hG).1;rw[h.rl];exact this
 have hGb:G.blocks≠[]:=(Es ((DW hb).2.2.2 _ G hG)).2.2.1;obtain⟨k0,hk0⟩:=Ag (l:=G.blocks) (k:=0) (List.length_pos_iff.2 hGb);have hne:q.now.f≠t.base.toNat:=by omega
 refine⟨D5 h.good,h.fin,by rw[List.length_set];exact h.rl,⟨G,k0,_,hG,hk0,Int.le_refl _,Nat.zero_le _,by rw[List.getElem?_set_self hlt],by simp,MT _⟩,fun fr hfr=>?_,fun fr hfr=>?_,?_,?_,?_⟩
 . simp only[List.mem_append,List.mem_singleton]at hfr;rcases hfr with hfr|rfl
   . obtain⟨F2,k2,l2,a1,a2,a3,a4,a5,a6,a7⟩:=(h.ab fr hfr).ex;exact eZ
   . exact⟨F,k,l,h1,h2,g3,by show q.now.at'+1<=_;omega,by rw[List.getElem?_set_ne (Ne.symm hne)];exact g5,g6,g7⟩
 . simp only[List.mem_append,List.mem_singleton]at hfr;show t.base.toNat<fr.f;rcases hfr with hfr|rfl
   . have:=h.lt fr hfr;omega
   . show t.base.toNat<q.now.f;omega
 . refine List.pairwise_append.2 ⟨h.sort,List.pairwise_singleton _ _,fun x hx y hy=>?_⟩;simp only[List.mem_singleton]at hy;subst hy;exact h.lt x hx
 . have:=h.al;simp only[List.length_append,List.length_singleton];omega
 . rw[<-h.tgt,J8,J8];simp only[List.reverse_append,List.reverse_singleton,List.singleton_append];rw[LO hlt,CA h1 h2,IY g5]
   -- what the call comes to
   have hcall:JR b s fuel ⟨t.base.toNat,0,0⟩ (List.replicate G.regs.toNat 0) {q.m with steps:=q.m.steps+1}=mfun b s fuel q.now.f t.base {q.m with steps:=q.m.steps+1}:=by
    rw[CA hG hk0];have hlev:=L6 hb (s:=s) (fuel:=fuel) q.now.f (t.base.toNat+1) t.base {q.m with steps:=q.m.steps+1} hbase.1 Ab Ab (by have:=(List.getElem?_eq_some_iff.1 h1).1;omega);rw[hlev];conv=>rhs;unfold mfun
    rw[hG];simp only;rw[JZ (i:=0) hk0 _ _ (by unfold Dr;omega) Ab]
   rw[hcall];generalize hM:mfun b s fuel q.now.f t.base {q.m with steps:=q.m.steps+1}=M;have hkey:FN b s fuel q.now.f F k q.now.at' l q.m=if M.fin=0 then FN b s fuel q.now.f F k (q.now.at'+1) l M else M:=by
    unfold FN;rw[Jr ht];conv=>lhs;unfold D1
    rw[HJ hf];simp only[cond_true,SG h10,hM]
    by_cases hz:M.fin=0
    . rw[if_pos hz,hz];rfl
    . have:(M.fin==0)=false:=by rw[beq_eq_false_iff_ne];exact hz
      rw[if_neg hz,this];rfl
   rw[hkey];have hab:∀fr∈q.above.reverse,fr.f≠t.base.toNat:=fun fr hfr=>by have:=h.lt fr (by simpa using hfr);omega
   conv=>lhs;unfold Fw
   by_cases hz:M.fin=0
   . rw[if_pos hz,if_pos hz,T3 hne,HZ _ hab,CA (fr:=⟨q.now.f,q.now.blk,q.now.at'+1⟩) h1 h2,IY g5]
   . rw[if_neg hz,if_neg hz,H6 hz]
theorem SInv.endRest(h:SInv b s fuel W tgt q){F:BFunc}{k:Block}{l:List Int}(h1:b.funcs[q.now.f]?=some F)(h2:F.blocks[q.now.blk.toNat]?=some k)(hat:k.ins.length<=q.now.at')(hf:decide ((q.m.steps:Int)>=fuel)=false):
 JR b s fuel q.now l q.m=bif !(k.fin==3)then FU (mfun b s fuel q.now.f) s fuel F (fuel.toNat+1) (k.next l) l {q.m with steps:=q.m.steps+1}else {q.m with steps:=q.m.steps+1}:=by
 rw[CA h1 h2];unfold FN;rw[List.drop_eq_nil_of_le hat];unfold D1;simp only[cond_true,HJ hf,Bool.true_and]
theorem SInv.jump(hb:b.right=true)(h:SInv b s fuel W tgt q){F:BFunc}{k:Block}{l:List Int}(h1:b.funcs[q.now.f]?=some F)(h2:F.blocks[q.now.blk.toNat]?=some k)(hat:k.ins.length<=q.now.at')(hl:q.R[q.now.f]?=some (some l))(hf:decide ((q.m.steps:Int)>=fuel)=false)(h3:(k.fin==3)=false){to:Int}(hto:k.next l=to):
 SInv b s fuel W tgt ⟨⟨q.now.f,to,0⟩,q.above,q.R,{q.m with steps:=q.m.steps+1}⟩:=by
 obtain⟨F',k',l',g1,g2,g3,g4,g5,g6,g7⟩:=h.now.ex;rw[h1]at g1;cases g1;rw[h2]at g2;cases g2;rw[hl]at g5;cases g5;have hone:=Es ((DW hb).2.2.2 _ F h1);have hn:=Wr (hone.2.2.2 k (List.mem_of_getElem? h2)).1 h3 l;rw[hto]at hn;obtain⟨k2,hk2⟩:=Ag (l:=F.blocks) (k:=to.toNat) Ab;refine⟨D5 h.good,h.fin,h.rl,⟨F,k2,l,h1,hk2,hn.1,Nat.zero_le _,hl,g6,g7⟩,h.ab,h.lt,h.sort,Nat.le_succ_of_le h.al,?_⟩;rw[<-h.tgt,J8,J8];simp only;rw[IY hl,h.endRest h1 h2 hat hf,h3,hto];simp only[Bool.not_false,cond_true];rw[JZ (i:=to) hk2 _ _ (by unfold Dr;show fuel.toNat<q.m.steps+1+_;omega) Ab,CA (fr:=⟨q.now.f,to,0⟩) h1 hk2]
theorem SInv.done(h:SInv b s fuel W tgt q){F:BFunc}{k:Block}(h1:b.funcs[q.now.f]?=some F)(h2:F.blocks[q.now.blk.toNat]?=some k)(hat:k.ins.length<=q.now.at')(hf:decide ((q.m.steps:Int)>=fuel)=false)(h3:(k.fin==3)=true)(ha:q.above=[]):tgt={q.m with steps:=q.m.steps+1}:=by
 rw[<-h.tgt,J8,ha,h.endRest h1 h2 hat hf,h3];rfl
theorem SInv.ret(h:SInv b s fuel W tgt q){F:BFunc}{k:Block}{fr:F7}(h1:b.funcs[q.now.f]?=some F)(h2:F.blocks[q.now.blk.toNat]?=some k)(hat:k.ins.length<=q.now.at')(hf:decide ((q.m.steps:Int)>=fuel)=false)(h3:(k.fin==3)=true)(ha:q.above.getLast?=some fr):
 SInv b s fuel W tgt ⟨fr,q.above.dropLast,q.R,{q.m with steps:=q.m.steps+1}⟩:=by
 have hw:q.above=q.above.dropLast++[fr]:=by
  have hne:q.above≠[]:=by intro e;rw[e]at ha;simp at ha
  have h4:=List.dropLast_concat_getLast hne;rw[List.getLast?_eq_some_getLast hne]at ha
  cases ha
  exact h4.symm
 have hm:fr∈q.above:=by rw[hw];simp
 have hsort:=h.sort;rw[hw]at hsort;obtain⟨s1,s2,s3⟩:=List.pairwise_append.1 hsort;refine⟨D5 h.good,h.fin,h.rl,h.ab fr hm,fun x hx=>h.ab x (List.dropLast_subset _ hx),fun x hx=>s3 x hx fr Az,s1,?_,?_⟩
 . have:=h.al;simp only[List.length_dropLast];omega
 . rw[<-h.tgt,J8,J8];simp only;rw[h.endRest h1 h2 hat hf,h3];conv=>rhs;rw[hw]
   simp only[List.reverse_append,List.reverse_singleton,List.singleton_append,Bool.not_true,cond_false];conv=>rhs;unfold Fw
   rw[if_pos h.fin]
end
theorem Q7(fuel:Int)(n:Nat):decide ((n:Int)>=Cb fuel)=decide ((n:Int)>=fuel):=by
 unfold Cb
 cases e:decide (fuel<0)with
 |true=>
  have:fuel<0:=by simpa using e
  simp only[cond_true];rw[decide_eq_true Ab,decide_eq_true Ab]
 |false=>rfl
def q0(b:Blocks)(F:BFunc):vi:=⟨⟨b.funcs.length-1,0,0⟩,[],(List.replicate b.funcs.length none).set (b.funcs.length-1) (some (List.replicate F.regs.toNat 0)),m0 b⟩
theorem Tq{b:Blocks}(hb:b.right=true)(s:ByteArray)(fuel:Int){F:BFunc}(hF:b.funcs[b.funcs.length-1]?=some F):
 SInv b s (Cb fuel) b.words.toNat (mfun b s (Cb fuel) b.funcs.length ((b.funcs.length:Int)-1) (m0 b)) (q0 b F):=by
 have hlt:=(List.getElem?_eq_some_iff.1 hF).1;have hFb:F.blocks≠[]:=(Es ((DW hb).2.2.2 _ F hF)).2.2.1;obtain⟨k0,hk0⟩:=Ag (l:=F.blocks) (k:=0) (List.length_pos_iff.2 hFb);refine⟨⟨by simp[q0,m0],MT _,by simp[q0,m0]⟩,rfl,by simp[q0],⟨F,k0,_,hF,hk0,Int.le_refl _,Nat.zero_le _,List.getElem?_set_self (by simpa using hlt),by simp,MT _⟩,(fun fr h=>by cases h),(fun fr h=>by cases h),List.Pairwise.nil,Nat.zero_le _,?_⟩;rw[J8];simp only[q0,List.reverse_nil,Fw];rw[LO (by simpa using hlt),CA (fr:=⟨b.funcs.length-1,0,0⟩) hF hk0];obtain⟨n,hn⟩:∃n,b.funcs.length=n+1:=⟨b.funcs.length-1,by omega⟩
 rw[hn];conv=>rhs;unfold mfun
 have hi:(((n+1:Nat):Int)-1).toNat=n:=by omega
 rw[hi];rw[hn,Nat.add_sub_cancel]at hF;rw[hF];simp only[Nat.add_sub_cancel];rw[JZ (i:=0) hk0 _ _ (by unfold Dr;omega) Ab]
section
variable {P : Program} {o : Oper} {e : Ar} {h : Aa}
theorem O3{f:FuncId}{fn:Func}{args:Array Operand}{tys:Array TypeId}{xs:List AV}{r:AV}{hn:Aa}(ho:o.op=.call {callee:=.value (.func f),args:=args,argTypes:=tys})(hf:P.funcs[f]?=some fn)(hnm:(fn.name== "runtime.NumGoroutine")=false)(hb:fn.body.isSome=true)
 (hx:AQ e args.toList=some xs) (hcall:ACall P f xs h (fun r' h''=>r'=r/\HSub hn h'')):gE P o e h hn r:=by
 intro H ι a w n Q hs;have hcalls:=hcall H ι w _ (BY hs hx) hs.heap;have hexec:(execOp a.eval o).run P w=.ok (.enter f (args.map a.eval)) w:=by
  simp[execOp,ho,resolve,Act.eval,Deferred.ofValue,invoke,Bv hf hnm hb]
 unfold Oper.wp;rw[hexec];refine hcalls.mono fun en w' hh=>?_
 obtain⟨v,r',h',H',ι',rfl,⟨rfl,hsub⟩,k1,k2,k3⟩:=hh;refine⟨v,H',ι',rfl,k1,k2.sub hsub,⟨k3.size,k3.os,k3.out,k3.keep,k3.kle,k3.knew,k3.lle,k3.lframe,k3.newrb,fun b hb=>?_⟩⟩;have:=k3.dom b hb
 cases e2:hn b with
 |none=>rfl
 |some q=>rw[hsub b q e2]at this;cases this
end
theorem V8{h:Aa}{x:Nat}{o:AObj}(hx:h x=some o):Al h x o=h:=by
 funext b
 by_cases hb:b=x
 . subst hb;rw[Au,hx]
 . rw[Ax _ _ hb]
def LM(rb n:Nat):AV:=match n with|0=>.lst false []|n+1=>.ref rb (n+1) 0 (n+1)
theorem IX{rb n:Nat}(h:0<n):LM rb n=.ref rb n 0 n:=by
 obtain⟨m,rfl⟩:∃m,n=m+1:=⟨n-1,by omega⟩
 rfl
theorem Sp(rb n:Nat):(LM rb n).cell1=true:=by cases n<;>rfl
theorem Jk(x y z:Int)(rb n:Nat):[AV.int .i64 x,.int .i64 y,.int .i64 z,LM rb n].all AV.cell1=true:=by
 simp only[List.all_cons,List.all_nil,Sp,Bool.and_true];rfl
theorem Kj{h h':Aa}{x:Nat}{o:AObj}(hx:h' x=some o)(he:∀b q,b≠x->h b=some q->h' b=some q):HSub (Al h x o) h':=fun b q hb=>by
 by_cases hbx:b=x
 . subst hbx;rw[Au]at hb;cases hb;exact hx
 . rw[Ax _ _ hbx]at hb;exact he b q hbx hb
theorem Ki{h h':Aa}{x y:Nat}{o q:AObj}(hx:h' x=some o)(hy:h' y=some q)(he:∀b r,b≠x->b≠y->h b=some r->h' b=some r):HSub (Al (Al h x o) y q) h':=
 Kj hy fun b r hb hr=>by
  by_cases hbx:b=x
  . subst hbx;rw[Au]at hr;cases hr;exact hx
  . rw[Ax _ _ hbx]at hr;exact he b r hbx hb hr
theorem BO{h h':Aa}{x y z u:Nat}{o1 o2 o3 o4:AObj}(h1:h' x=some o1)(h2:h' y=some o2)(h3:h' z=some o3)(h4:h' u=some o4)(he:∀b r,b≠x->b≠y->b≠z->b≠u->h b=some r->h' b=some r):HSub (Al (Al (Al (Al h x o1) y o2) z o3) u o4) h':=
 Ki h3 h4 fun b r hbz hbu hr=>by
  by_cases hby:b=y
  . subst hby;rw[Au]at hr;cases hr;exact h2
  . rw[Ax _ _ hby]at hr
    by_cases hbx:b=x
    . subst hbx;rw[Au]at hr;cases hr;exact h1
    . rw[Ax _ _ hbx]at hr;exact he b r hbx hby hbz hbu hr
theorem QY{h:Aa}{k b:Nat}{q:AObj}(hq:hrm h k b=some q):b≠k/\h b=some q:=by
 by_cases hb:b=k
 . subst hb;rw[Hh]at hq;cases hq
 . rw[Hi _ hb]at hq;exact⟨hb,hq⟩
theorem GW{α:Type}{l:List α}{i:Nat}{x:α}(h:l[i]?=some x):l.set i x=l:=by
 apply List.ext_getElem?;intro j
 by_cases hj:i=j
 . subst hj;rw[h,List.getElem?_set_self (List.getElem?_eq_some_iff.1 h).1]
 . rw[List.getElem?_set_ne hj]
theorem XS(n:Nat):List.replicate n [AV.int .u32 0]=Ap (List.replicate n 0):=IW n
theorem cw{out:List UInt8}{c:Int}(h:Hf c):AH out++[[AV.int .u8 (((FD c).toNat:Nat):Int)]]=AH (out++[FD c]):=by simp[AH]
def Jw(x0 x2:AV)(W:Nat)(s:ByteArray)(m:Mach):List AV:=[x0,.ref 1 W 0 W,x2,.str s,.int .i64 (m.read:Int),.ref 3 m.out.length 0 m.out.length]
theorem Wq(h:Aa)(b:Blocks)(F:BFunc)(f0 nf k n:Nat)(x1 x3 x4 x5:AV)(tab:List (List AV))(hh0:h 0=some (rf 6 [[AT b.funcs,x1,.ref 2 nf 0 nf,x3,x4,x5]]))(hh2:h 2=some (rf 1 tab))(hnt:nf=tab.length)(hfn:((f0:Nat):Int)<((nf:Nat):Int))(hF:b.funcs[f0]?=some F)(hreg:F.regs=(n:Int))(hn4:n<=4000)(hfree:h k=some .free)(hk:k≠0/\k≠2/\k≠f0+16)(hget:tab[f0]?=some [.nil])(hn0:n=0):ACall Tryz.prog 20 [.ptr 0 1 0 0,.int .i64 (f0:Int)] h (fun r h''=>r=.agg [.int .i64 (f0:Int),.int .i64 0,.int .i64 0,.lst false []]/\HSub (Al (hrm h k) 2 (rf 1 (tab.set f0 [.lst false []]))) h''):=by
 obtain⟨hk0,hk2,hkr⟩:=hk;have hr0:f0+16≠0:=by omega
 have hr2:f0+16≠2:=by omega
 have hg2:tab[0+((f0:Nat):Int).toNat]?=some [.nil]:=by rw[Nat.zero_add,Int.toNat_natCast];exact hget
 have hg3:(tab.set (0+((f0:Nat):Int).toNat) [.lst false []])[0+((f0:Nat):Int).toNat]?=some [.lst false []]:=Ek hg2;have hnt2:nf=(tab.set (0+((f0:Nat):Int).toNat) [.lst false []]).length:=by rw[List.length_set];exact hnt
 have hts:tab.set (0+((f0:Nat):Int).toNat) [.lst false []]=tab.set f0 [.lst false []]:=by rw[Nat.zero_add,Int.toNat_natCast]
 refine ACall.of_body (n:=44) Am Tryz.func20 rfl rfl ?_;refine Gy ?_;refine ax 4 (Fj Am k rfl rfl AI rfl (Nat.zero_lt_succ _) rfl) ?_;refine wk 7 ?_;refine aq 8 (Aw Am rfl rfl rfl (.ptr _ _ _ _ _ _ [[AT b.funcs,x1,.ref 2 nf 0 nf,x3,x4,x5]] _ AI rfl rfl) rfl) ?_;refine am 9 ?_;refine aq 10 (An Am (es:=tab) (hb:=AI) (hm:=hnt) (hn:=hfn)) ?_;refine aq 11 (Aw Am rfl rfl rfl (.ptr _ _ _ _ _ _ tab [.nil] AI hnt hg2) rfl) ?_;refine aq 12 (OS Am rfl rfl rfl rfl) ?_;refine wk 6 ?_;refine dq 16 (Aw Am rfl rfl rfl (.ptr _ _ _ _ _ _ [[AT b.funcs,x1,.ref 2 nf 0 nf,x3,x4,x5]] _ AI rfl rfl) rfl) ?_;refine wk 4 ?_;refine dq 21 (Aw Am rfl rfl rfl (.ptr _ _ _ _ _ _ [[AT b.funcs,x1,.ref 2 nf 0 nf,x3,x4,x5]] _ AI rfl rfl) rfl) ?_;refine wk 1 ?_;refine dq 23 (F6 Am (AG hF)) ?_;refine wk 2 ?_;refine dx 26 (O2 Am rfl rfl rfl (by rw[hreg,hn0];rfl) (by rw[hreg,hn0];rfl) rfl rfl rfl rfl (Nat.zero_lt_succ _) rfl) ?_
 refine dq 27 (An Am (es:=tab) (hb:=AI) (hm:=hnt) (hn:=hfn)) ?_;refine DOps.w rfl rfl (Be Am (es:=tab) (hb:=AI) (hm:=hnt) (hk:=hg2) (hp:=ED)) ?_;refine wk 6 ?_;refine aq 31 (Aw Am rfl rfl rfl (.ptr _ _ _ _ _ _ [[AT b.funcs,x1,.ref 2 nf 0 nf,x3,x4,x5]] _ AI rfl rfl) rfl) ?_;refine wk 1 ?_;refine aq 33 (An Am (es:=(tab.set (0+((f0:Nat):Int).toNat) [.lst false []])) (hb:=AI) (hm:=hnt2) (hn:=hfn)) ?_;refine aq 34 (Aw Am rfl rfl rfl (.ptr _ _ _ _ _ _ (tab.set (0+((f0:Nat):Int).toNat) [.lst false []]) [.lst false []] AI hnt2 hg3) rfl) ?_;refine AOps.w rfl rfl (QH Am rfl rfl rfl rfl) ?_;refine wk 7 ?_;refine aq 39 (Aw Am rfl rfl rfl (.ptr _ _ _ _ _ _ [[AT b.funcs,x1,.ref 2 nf 0 nf,x3,x4,x5]] _ AI rfl rfl) rfl) ?_;refine wk 1 ?_;refine aq 41 (An Am (es:=(tab.set (0+((f0:Nat):Int).toNat) [.lst false []])) (hb:=AI) (hm:=hnt2) (hn:=hfn)) ?_
 refine aq 42 (Aw Am rfl rfl rfl (.ptr _ _ _ _ _ _ (tab.set (0+((f0:Nat):Int).toNat) [.lst false []]) [.lst false []] AI hnt2 hg3) rfl) ?_;refine wk 1 ?_;refine AOps.w rfl rfl (Be Am (es:=[[.int .i64 0,.int .i64 0,.int .i64 0,.nil]]) (hb:=AI) (hm:=rfl) (hk:=rfl) (hp:=ED)) ?_;refine wk 2 ?_;have hend:∀h'':Aa,h''=h'':=fun _=>rfl
 exact⟨[_],⟨⟨_,_,_,_,rfl,rfl,.ptr _ _ _ _ _ _ [[.int .i64 (f0:Int),.int .i64 0,.int .i64 0,.lst false []]] _ AI rfl rfl,rfl⟩,trivial⟩,rfl,Kj yw lw⟩
theorem Wp(h:Aa)(b:Blocks)(F:BFunc)(f0 nf k n:Nat)(x1 x3 x4 x5:AV)(tab:List (List AV))(hh0:h 0=some (rf 6 [[AT b.funcs,x1,.ref 2 nf 0 nf,x3,x4,x5]]))(hh2:h 2=some (rf 1 tab))(hnt:nf=tab.length)(hfn:((f0:Nat):Int)<((nf:Nat):Int))(hF:b.funcs[f0]?=some F)(hreg:F.regs=(n:Int))(hn4:n<=4000)(hfree:h k=some .free)(hk:k≠0/\k≠2/\k≠f0+16)(hget:tab[f0]?=some [.nil])(hpos:0<n)(hrb:h (f0+16)=some .free):ACall Tryz.prog 20 [.ptr 0 1 0 0,.int .i64 (f0:Int)] h (fun r h''=>r=.agg [.int .i64 (f0:Int),.int .i64 0,.int .i64 0,.ref (f0+16) n 0 n]/\HSub (Al (Al (hrm h k) 2 (rf 1 (tab.set f0 [.ref (f0+16) n 0 n]))) (f0+16) (rt 1 (Ap (List.replicate n 0)))) h''):=by
 obtain⟨hk0,hk2,hkr⟩:=hk;have hr0:f0+16≠0:=by omega
 have hr2:f0+16≠2:=by omega
 have hg2:tab[0+((f0:Nat):Int).toNat]?=some [.nil]:=by rw[Nat.zero_add,Int.toNat_natCast];exact hget
 have hg3:(tab.set (0+((f0:Nat):Int).toNat) [.ref (f0+16) n 0 n])[0+((f0:Nat):Int).toNat]?=some [.ref (f0+16) n 0 n]:=Ek hg2;have hnt2:nf=(tab.set (0+((f0:Nat):Int).toNat) [.ref (f0+16) n 0 n]).length:=by rw[List.length_set];exact hnt
 have hts:tab.set (0+((f0:Nat):Int).toNat) [.ref (f0+16) n 0 n]=tab.set f0 [.ref (f0+16) n 0 n]:=by rw[Nat.zero_add,Int.toNat_natCast]
 refine ACall.of_body (n:=44) Am Tryz.func20 rfl rfl ?_;refine Gy ?_;refine ax 4 (Fj Am k rfl rfl AI rfl (Nat.zero_lt_succ _) rfl) ?_;refine wk 7 ?_;refine aq 8 (Aw Am rfl rfl rfl (.ptr _ _ _ _ _ _ [[AT b.funcs,x1,.ref 2 nf 0 nf,x3,x4,x5]] _ AI rfl rfl) rfl) ?_;refine am 9 ?_;refine aq 10 (An Am (es:=tab) (hb:=AI) (hm:=hnt) (hn:=hfn)) ?_;refine aq 11 (Aw Am rfl rfl rfl (.ptr _ _ _ _ _ _ tab [.nil] AI hnt hg2) rfl) ?_;refine aq 12 (OS Am rfl rfl rfl rfl) ?_;refine wk 6 ?_;refine dq 16 (Aw Am rfl rfl rfl (.ptr _ _ _ _ _ _ [[AT b.funcs,x1,.ref 2 nf 0 nf,x3,x4,x5]] _ AI rfl rfl) rfl) ?_;refine wk 4 ?_;refine dq 21 (Aw Am rfl rfl rfl (.ptr _ _ _ _ _ _ [[AT b.funcs,x1,.ref 2 nf 0 nf,x3,x4,x5]] _ AI rfl rfl) rfl) ?_;refine wk 1 ?_;refine dq 23 (F6 Am (AG hF)) ?_;refine wk 2 ?_;refine dx 26 (B7 Am (n:=n) (m:=n) (f0+16) true (hni:=hreg) (hnj:=hreg) (hb:=AI) (hby:=(by show 4*n<=_;omega))) ?_
 refine dq 27 (An Am (es:=tab) (hb:=AI) (hm:=hnt) (hn:=hfn)) ?_;refine DOps.w rfl rfl (Be Am (es:=tab) (hb:=AI) (hm:=hnt) (hk:=hg2) (hp:=ED)) ?_;refine wk 6 ?_;refine aq 31 (Aw Am rfl rfl rfl (.ptr _ _ _ _ _ _ [[AT b.funcs,x1,.ref 2 nf 0 nf,x3,x4,x5]] _ AI rfl rfl) rfl) ?_;refine wk 1 ?_;refine aq 33 (An Am (es:=(tab.set (0+((f0:Nat):Int).toNat) [.ref (f0+16) n 0 n])) (hb:=AI) (hm:=hnt2) (hn:=hfn)) ?_;refine aq 34 (Aw Am rfl rfl rfl (.ptr _ _ _ _ _ _ (tab.set (0+((f0:Nat):Int).toNat) [.ref (f0+16) n 0 n]) [.ref (f0+16) n 0 n] AI hnt2 hg3) rfl) ?_;refine AOps.w rfl rfl (Ue Am (es:=List.replicate n [.int .u32 0]) rfl rfl rfl rfl rfl AI Az hpos rfl rfl rfl rfl) ?_;refine wk 7 ?_;refine aq 39 (Aw Am rfl rfl rfl (.ptr _ _ _ _ _ _ [[AT b.funcs,x1,.ref 2 nf 0 nf,x3,x4,x5]] _ AI rfl rfl) rfl) ?_;refine wk 1 ?_;refine aq 41 (An Am (es:=(tab.set (0+((f0:Nat):Int).toNat) [.ref (f0+16) n 0 n])) (hb:=AI) (hm:=hnt2) (hn:=hfn)) ?_;refine aq 42 (Aw Am rfl rfl rfl (.ptr _ _ _ _ _ _ (tab.set (0+((f0:Nat):Int).toNat) [.ref (f0+16) n 0 n]) [.ref (f0+16) n 0 n] AI hnt2 hg3) rfl) ?_;refine wk 1 ?_;refine AOps.w rfl rfl (Be Am (es:=[[.int .i64 0,.int .i64 0,.int .i64 0,.nil]]) (hb:=AI) (hm:=rfl) (hk:=rfl) (hp:=ED)) ?_;refine wk 2 ?_
 have hend:∀h'':Aa,h''=h'':=fun _=>rfl
 exact⟨[_],⟨⟨_,_,_,_,rfl,rfl,.ptr _ _ _ _ _ _ [[.int .i64 (f0:Int),.int .i64 0,.int .i64 0,.ref (f0+16) n 0 n]] _ AI rfl rfl,rfl⟩,trivial⟩,rfl,Ki yw yx ly⟩
theorem Wo(h:Aa)(b:Blocks)(F:BFunc)(f0 nf k n:Nat)(x1 x3 x4 x5:AV)(tab:List (List AV))(hh0:h 0=some (rf 6 [[AT b.funcs,x1,.ref 2 nf 0 nf,x3,x4,x5]]))(hh2:h 2=some (rf 1 tab))(hnt:nf=tab.length)(hfn:((f0:Nat):Int)<((nf:Nat):Int))(hF:b.funcs[f0]?=some F)(hreg:F.regs=(n:Int))(hn4:n<=4000)(hfree:h k=some .free)(hk:k≠0/\k≠2/\k≠f0+16)(hget:tab[f0]?=some [.lst false []])(hn0:n=0):ACall Tryz.prog 20 [.ptr 0 1 0 0,.int .i64 (f0:Int)] h (fun r h''=>r=.agg [.int .i64 (f0:Int),.int .i64 0,.int .i64 0,.lst false []]/\HSub (Al (hrm h k) 2 (rf 1 (tab.set f0 [.lst false []]))) h''):=by
 obtain⟨hk0,hk2,hkr⟩:=hk;have hr0:f0+16≠0:=by omega
 have hr2:f0+16≠2:=by omega
 have hg2:tab[0+((f0:Nat):Int).toNat]?=some [.lst false []]:=by rw[Nat.zero_add,Int.toNat_natCast];exact hget
 have hg3:(tab.set (0+((f0:Nat):Int).toNat) [.lst false []])[0+((f0:Nat):Int).toNat]?=some [.lst false []]:=Ek hg2;have hnt2:nf=(tab.set (0+((f0:Nat):Int).toNat) [.lst false []]).length:=by rw[List.length_set];exact hnt
 have hts:tab.set (0+((f0:Nat):Int).toNat) [.lst false []]=tab.set f0 [.lst false []]:=by rw[Nat.zero_add,Int.toNat_natCast]
 have htt:tab.set f0 [.lst false []]=tab:=GW hget;have hsame:tab.set (0+((f0:Nat):Int).toNat) (Cm [.lst false []] 0 (AV.cells (.lst false [])))=tab:=by rw[Nat.zero_add,Int.toNat_natCast];exact GW hget
 refine ACall.of_body (n:=44) Am Tryz.func20 rfl rfl ?_;refine Gy ?_;refine ax 4 (Fj Am k rfl rfl AI rfl (Nat.zero_lt_succ _) rfl) ?_;refine wk 7 ?_;refine aq 8 (Aw Am rfl rfl rfl (.ptr _ _ _ _ _ _ [[AT b.funcs,x1,.ref 2 nf 0 nf,x3,x4,x5]] _ AI rfl rfl) rfl) ?_;refine am 9 ?_;refine aq 10 (An Am (es:=tab) (hb:=AI) (hm:=hnt) (hn:=hfn)) ?_;refine aq 11 (Aw Am rfl rfl rfl (.ptr _ _ _ _ _ _ tab [.lst false []] AI hnt hg2) rfl) ?_;refine AOps.ex 12 rfl rfl rfl (YB Am rfl rfl rfl rfl) ?_;intro W_ r_ hS_;rcases hS_ with⟨rfl,v,rfl⟩
 refine an ?_;refine asp 12 (fun hb1=>?_) fun hb1=>?_
 .
  refine wk 5 ?_;refine dq 16 (Aw Am rfl rfl rfl (.ptr _ _ _ _ _ _ [[AT b.funcs,x1,.ref 2 nf 0 nf,x3,x4,x5]] _ AI rfl rfl) rfl) ?_;refine wk 4 ?_;refine dq 21 (Aw Am rfl rfl rfl (.ptr _ _ _ _ _ _ [[AT b.funcs,x1,.ref 2 nf 0 nf,x3,x4,x5]] _ AI rfl rfl) rfl) ?_;refine wk 1 ?_;refine dq 23 (F6 Am (AG hF)) ?_;refine wk 2 ?_;refine dx 26 (O2 Am rfl rfl rfl (by rw[hreg,hn0];rfl) (by rw[hreg,hn0];rfl) rfl rfl rfl rfl (Nat.zero_lt_succ _) rfl) ?_;refine dq 27 (An Am (es:=tab) (hb:=AI) (hm:=hnt) (hn:=hfn)) ?_;refine DOps.w rfl rfl (Be Am (es:=tab) (hb:=AI) (hm:=hnt) (hk:=hg2) (hp:=ED)) ?_;refine wk 2 ?_;try rw[hsame]
  try simp only[AA,hsame]
  exact yt
 refine wk 3 ?_;try rw[hsame]
 try simp only[AA,hsame]
 exact yt
theorem Wn(h:Aa)(b:Blocks)(F:BFunc)(f0 nf k n:Nat)(x1 x3 x4 x5:AV)(tab:List (List AV))(hh0:h 0=some (rf 6 [[AT b.funcs,x1,.ref 2 nf 0 nf,x3,x4,x5]]))(hh2:h 2=some (rf 1 tab))(hnt:nf=tab.length)(hfn:((f0:Nat):Int)<((nf:Nat):Int))(hF:b.funcs[f0]?=some F)(hreg:F.regs=(n:Int))(hn4:n<=4000)(hfree:h k=some .free)(hk:k≠0/\k≠2/\k≠f0+16)(hget:tab[f0]?=some [.ref (f0+16) n 0 n])(hpos:0<n)(l:List Int)(hl:l.length=n)(hrb:h (f0+16)=some (rt 1 (Ap l))):ACall Tryz.prog 20 [.ptr 0 1 0 0,.int .i64 (f0:Int)] h (fun r h''=>r=.agg [.int .i64 (f0:Int),.int .i64 0,.int .i64 0,.ref (f0+16) n 0 n]/\HSub (Al (Al (hrm h k) 2 (rf 1 (tab.set f0 [.ref (f0+16) n 0 n]))) (f0+16) (rt 1 (Ap (List.replicate n 0)))) h''):=by
 obtain⟨hk0,hk2,hkr⟩:=hk;have hr0:f0+16≠0:=by omega
 have hr2:f0+16≠2:=by omega
 have hg2:tab[0+((f0:Nat):Int).toNat]?=some [.ref (f0+16) n 0 n]:=by rw[Nat.zero_add,Int.toNat_natCast];exact hget
 have hg3:(tab.set (0+((f0:Nat):Int).toNat) [.ref (f0+16) n 0 n])[0+((f0:Nat):Int).toNat]?=some [.ref (f0+16) n 0 n]:=Ek hg2;have hnt2:nf=(tab.set (0+((f0:Nat):Int).toNat) [.ref (f0+16) n 0 n]).length:=by rw[List.length_set];exact hnt
 have hts:tab.set (0+((f0:Nat):Int).toNat) [.ref (f0+16) n 0 n]=tab.set f0 [.ref (f0+16) n 0 n]:=by rw[Nat.zero_add,Int.toNat_natCast]
 have htt:tab.set f0 [.ref (f0+16) n 0 n]=tab:=GW hget;have hsame:tab.set (0+((f0:Nat):Int).toNat) (Cm [.ref (f0+16) n 0 n] 0 (AV.cells (.ref (f0+16) n 0 n)))=tab:=by rw[Nat.zero_add,Int.toNat_natCast];exact GW hget
 refine ACall.of_body (n:=44) Am Tryz.func20 rfl rfl ?_;refine Gy ?_;refine ax 4 (Fj Am k rfl rfl AI rfl (Nat.zero_lt_succ _) rfl) ?_;refine wk 7 ?_;refine aq 8 (Aw Am rfl rfl rfl (.ptr _ _ _ _ _ _ [[AT b.funcs,x1,.ref 2 nf 0 nf,x3,x4,x5]] _ AI rfl rfl) rfl) ?_;refine am 9 ?_;refine aq 10 (An Am (es:=tab) (hb:=AI) (hm:=hnt) (hn:=hfn)) ?_;refine aq 11 (Aw Am rfl rfl rfl (.ptr _ _ _ _ _ _ tab [.ref (f0+16) n 0 n] AI hnt hg2) rfl) ?_;refine aq 12 (T4 Am (es:=Ap l) rfl rfl rfl rfl AI (by rw[C0,hl]) hpos) ?_;refine wk 8 ?_;refine aq 31 (Aw Am rfl rfl rfl (.ptr _ _ _ _ _ _ [[AT b.funcs,x1,.ref 2 nf 0 nf,x3,x4,x5]] _ AI rfl rfl) rfl) ?_;refine wk 1 ?_;refine aq 33 (An Am (es:=tab) (hb:=AI) (hm:=hnt) (hn:=hfn)) ?_;refine aq 34 (Aw Am rfl rfl rfl (.ptr _ _ _ _ _ _ tab [.ref (f0+16) n 0 n] AI hnt hg2) rfl) ?_;refine AOps.w rfl rfl (Ue Am (es:=Ap l) rfl rfl rfl rfl rfl AI (by rw[C0,hl]) hpos rfl rfl rfl rfl) ?_;refine wk 7 ?_;refine aq 39 (Aw Am rfl rfl rfl (.ptr _ _ _ _ _ _ [[AT b.funcs,x1,.ref 2 nf 0 nf,x3,x4,x5]] _ AI rfl rfl) rfl) ?_;refine wk 1 ?_;refine aq 41 (An Am (es:=tab) (hb:=AI) (hm:=hnt) (hn:=hfn)) ?_;refine aq 42 (Aw Am rfl rfl rfl (.ptr _ _ _ _ _ _ tab [.ref (f0+16) n 0 n] AI hnt hg2) rfl) ?_;refine wk 1 ?_;refine AOps.w rfl rfl (Be Am (es:=[[.int .i64 0,.int .i64 0,.int .i64 0,.nil]]) (hb:=AI) (hm:=rfl) (hk:=rfl) (hp:=ED)) ?_;refine wk 2 ?_
 have hend:∀h'':Aa,h''=h'':=fun _=>rfl
 exact⟨[_],⟨⟨_,_,_,_,rfl,rfl,.ptr _ _ _ _ _ _ [[.int .i64 (f0:Int),.int .i64 0,.int .i64 0,.ref (f0+16) n 0 n]] _ AI rfl rfl,rfl⟩,trivial⟩,rfl,Ki yv yx ly⟩
theorem jF(h:Aa)(s:ByteArray)(read:Nat)(x0 x1 x2 x5:AV)(hh:h 0=some (rf 6 [[x0,x1,x2,.str s,(.int .i64 (read:Int)),x5]]))(hs:s.size<=9223372036854775807):ACall Tryz.prog 48 [.ptr 0 1 0 0] h (fun r h''=>r=.int .u32 (bif decide (read<s.size)then((KU s read).toNat:Int)else 256)/\h''=Al h 0 (rf 6 [[x0,x1,x2,.str s,(.int .i64 ((bif decide (read<s.size)then read+1 else read:Nat):Int)),x5]])):=by
 refine ACall.of_body (n:=32) Am Tryz.func48 rfl rfl ?_;refine wk 10 ?_;refine dq 7 (Aw Am rfl rfl rfl (.ptr _ _ _ _ _ _ [[x0,x1,x2,.str s,.int .i64 (read:Int),x5]] _ AI rfl rfl) rfl) ?_;refine wk 3 ?_;refine dq 11 (Aw Am rfl rfl rfl (.ptr _ _ _ _ _ _ [[x0,x1,x2,.str s,.int .i64 (read:Int),x5]] _ AI rfl rfl) rfl) ?_;refine wk 3 ?_;refine asp 13 (fun hb1=>?_) fun hb1=>?_
 .
  refine act ?_;have hrd:¬read<s.size:=by have h:=hb1;simp at h;omega
  refine wk 5 ?_;rw[decide_eq_false hrd];exact⟨[_],⟨rfl,trivial⟩,rfl,(V8 hh).symm⟩
 refine BK ?_;have hrd:read<s.size:=by have h:=hb1;simp at h;omega
 refine wk 6 ?_;refine dq 17 (Aw Am rfl rfl rfl (.ptr _ _ _ _ _ _ [[x0,x1,x2,.str s,.int .i64 (read:Int),x5]] _ AI rfl rfl) rfl) ?_;refine wk 3 ?_;refine dq 21 (Aw Am rfl rfl rfl (.ptr _ _ _ _ _ _ [[x0,x1,x2,.str s,.int .i64 (read:Int),x5]] _ AI rfl rfl) rfl) ?_;refine dq 22 (Kt (c:=KU s read) Am rfl rfl rfl rfl rfl (Int.natCast_nonneg _) (Zm hrd)) ?_;refine wk 7 ?_;refine aq 26 (Aw Am rfl rfl rfl (.ptr _ _ _ _ _ _ [[x0,x1,x2,.str s,.int .i64 (read:Int),x5]] _ AI rfl rfl) rfl) ?_;refine aq 27 (Bw rfl rfl hrd GM) ?_;refine wk 2 ?_;refine AOps.w rfl rfl (Be Am (es:=[[x0,x1,x2,.str s,.int .i64 (read:Int),x5]]) (hb:=AI) (hm:=rfl) (hk:=rfl) (hp:=ED)) ?_;refine wk 4 ?_;refine aq 31 (Dc Am rfl rfl rfl rfl rfl (r:=((KU s read).toNat:Int)) (by rw[IntKind.wrap_u32];have:=(Z6 (KU s read)).2;omega)) ?_;refine wk 3 ?_;rw[decide_eq_true hrd];exact⟨[_],⟨rfl,trivial⟩,rfl,rfl⟩
theorem uT(h:Aa)(f0 W R nn:Nat)(x0 x2:AV)(s:ByteArray)(t:Tac)(regs:List Int)(m:Mach)(ht:UB t nn R W)(hr:Kg regs)(hlen:regs.length=R)(hm:m.good W)(h0:m.fin=0)(hW:W<=1048576)(hs:s.size<=9223372036854775807)(hwn:Hf t.n)(h10:t.op≠10)(hh0:h 0=some (rf 6 [(Jw x0 x2 W s m)]))(hh1:h 1=some (rt 1 (Ap m.words)))(hh3:h 3=some (rt 1 (AH m.out)))(hhr:h (f0+16)=some (rt 1 (Ap regs))):ACall Tryz.prog 21 [.ptr 0 1 0 0,.loc t.cells,.ref (f0+16) R 0 R] h (fun r h''=>r=.int .i64 (AB (fun _ m=>m) s t regs m).2.fin/\HSub (Al (Al (Al (Al h 0 (rf 6 [Jw x0 x2 W s (AB (fun _ m=>m) s t regs m).2])) 1 (rt 1 (Ap (AB (fun _ m=>m) s t regs m).2.words))) 3 (rt 1 (AH (AB (fun _ m=>m) s t regs m).2.out))) (f0+16) (rt 1 (Ap (AB (fun _ m=>m) s t regs m).1))) h''):=by
 refine ACall.of_body (n:=226) Am Tryz.func21 rfl rfl ?_;refine wk 18 ?_;refine asp 13 (fun hb1=>?_) fun hb1=>?_
 .
  refine act ?_;have ho:t.op=1:=by simpa using hb1
  have hd:=ht.d UM;refine wk 10 ?_;refine dq 24 (An Am (es:=Ap regs) rfl rfl rfl rfl rfl rfl AI DN rfl hd.1 UN) ?_;exact WY
 refine wk 6 ?_;refine asp 25 (fun hb2=>?_) fun hb2=>?_
 .
  refine act ?_;have ho:t.op=2:=by simpa using hb2
  have hd:=ht.d UM;have ha:=ht.a UO;refine wk 11 ?_;refine dq 37 (An Am (es:=Ap regs) rfl rfl rfl rfl rfl rfl AI DN rfl ha.1 PK) ?_;refine dq 38 (Aw Am rfl rfl rfl (.ptr _ _ _ _ _ _ (Ap regs) _ AI DN (Ep PM)) rfl) ?_;refine dq 39 (An Am (es:=Ap regs) rfl rfl rfl rfl rfl rfl AI DN rfl hd.1 UN) ?_;exact WY
 refine wk 6 ?_;refine asp 40 (fun hb3=>?_) fun hb3=>?_
 .
  refine act ?_;have ho:t.op=3:=by simpa using hb3
  have hd:=ht.d UM;have ha:=ht.a UO;have hb:=ht.b (by simp[use2,ho]);refine wk 11 ?_;refine dq 52 (An Am (es:=Ap regs) rfl rfl rfl rfl rfl rfl AI DN rfl ha.1 PK) ?_;refine dq 53 (Aw Am rfl rfl rfl (.ptr _ _ _ _ _ _ (Ap regs) _ AI DN (Ep PM)) rfl) ?_;refine wk 5 ?_;refine dq 59 (An Am (es:=Ap regs) rfl rfl rfl rfl rfl rfl AI DN rfl hb.1 (by have:=hb.2;omega)) ?_;refine dq 60 (Aw Am rfl rfl rfl (.ptr _ _ _ _ _ _ (Ap regs) _ AI DN (Ep (by have:=hb;have:=hm.len;omega))) rfl) ?_;refine dx 61 (CR Tryz.func47 (Rs t.k (Ah regs t.a) (Ah regs t.b) (G1 hr _).1)) ?_;refine wk 1 ?_;refine dq 62 (HE rfl rfl rfl) ?_;refine dq 63 (HE rfl rfl rfl) ?_;refine wk 9 ?_;refine asp 65 (fun hb4=>?_) fun hb4=>?_
  .
   refine act ?_;have hz:=hb4;refine wk 5 ?_
   (refine⟨[_],⟨rfl,trivial⟩,?_,?_⟩<;>rw[jj ho hz]<;>first|rfl|exact congrArg (AV.int .i64) h0.symm|exact BO DQ DQ DQ DQ IA)
  refine BK ?_;have hz:=hb4;refine wk 8 ?_;refine aq 72 (An Am (es:=Ap regs) rfl rfl rfl rfl rfl rfl AI DN rfl hd.1 UN) ?_;refine AOps.w rfl rfl (Be Am (es:=Ap regs) rfl rfl rfl rfl rfl AI DN (Ep (by have:=hd;have:=hm.len;omega)) rfl A7 rfl US) ?_;refine wk 6 ?_;exact ki
 refine wk 6 ?_;refine asp 73 (fun hb5=>?_) fun hb5=>?_
 .
  refine act ?_;have ho:t.op=4:=by simpa using hb5
  have hd:=ht.d UM;have hbs:=ht.base (by simp[ho]);refine wk 9 ?_;refine dq 83 (Aw Am rfl rfl rfl (.ptr _ _ _ _ _ _ [(Jw x0 x2 W s m)] _ AI rfl rfl) rfl) ?_;refine wk 4 ?_;refine dq 88 (An Am (es:=Ap m.words) rfl rfl rfl rfl rfl rfl AI PL rfl hbs.1 (by have:=hbs.2;omega)) ?_;refine dq 89 (Aw Am rfl rfl rfl (.ptr _ _ _ _ _ _ (Ap m.words) _ AI PL (Ep (by have:=hbs;have:=hm.len;omega))) rfl) ?_;refine dq 90 (An Am (es:=Ap regs) rfl rfl rfl rfl rfl rfl AI DN rfl hd.1 UN) ?_;exact WY
 refine wk 6 ?_;refine asp 91 (fun hb6=>?_) fun hb6=>?_
 .
  refine act ?_;have ho:t.op=5:=by simpa using hb6
  have ha:=ht.a UO;have hbs:=ht.base (by simp[ho]);refine wk 4 ?_;refine dq 96 (Aw Am rfl rfl rfl (.ptr _ _ _ _ _ _ [(Jw x0 x2 W s m)] _ AI rfl rfl) rfl) ?_;refine wk 9 ?_;refine dq 106 (An Am (es:=Ap regs) rfl rfl rfl rfl rfl rfl AI DN rfl ha.1 PK) ?_;refine dq 107 (Aw Am rfl rfl rfl (.ptr _ _ _ _ _ _ (Ap regs) _ AI DN (Ep PM)) rfl) ?_;refine dq 108 (An Am (es:=Ap m.words) rfl rfl rfl rfl rfl rfl AI PL rfl hbs.1 (by have:=hbs.2;omega)) ?_;refine DOps.w rfl rfl (Be Am (es:=Ap m.words) rfl rfl rfl rfl rfl AI PL (Ep (by have:=hbs;have:=hm.len;omega)) rfl A7 rfl US) ?_;refine wk 6 ?_;exact ki
 refine wk 6 ?_;refine asp 109 (fun hb7=>?_) fun hb7=>?_
 .
  refine act ?_;have ho:t.op=6:=by simpa using hb7
  have ha:=ht.a UO;have hd:=ht.d UM;have har:=ht.arr (by simp[ho]);have hwa:=G1 hr t.a;have hwa1:=hwa.1;have hwa2:=hwa.2;refine wk 8 ?_;refine dq 116 (An Am (es:=Ap regs) rfl rfl rfl rfl rfl rfl AI DN rfl ha.1 PK) ?_;refine dq 117 (Aw Am rfl rfl rfl (.ptr _ _ _ _ _ _ (Ap regs) _ AI DN (Ep PM)) rfl) ?_;refine dq 118 (Dc Am rfl rfl rfl rfl rfl (r:=Ah regs t.a) aW) ?_;refine wk 4 ?_;refine dq 123 (Dc Am rfl rfl rfl rfl rfl (r:=t.size) aW) ?_;refine wk 2 ?_;refine asp 124 (fun hb8=>?_) fun hb8=>?_
  .
   refine act ?_;have hsz:=hb8;refine wk 5 ?_
   (refine⟨[_],⟨rfl,trivial⟩,?_,?_⟩<;>rw[Ui (.inl ho) hsz]<;>first|rfl|exact congrArg (AV.int .i64) h0.symm|exact BO DQ DQ DQ DQ IA)
  refine BK ?_;have hsz:=hb8;have hsz2:Ah regs t.a<t.size:=by simpa using hb8
  have hidx:0<=t.base+Ah regs t.a/\t.base+Ah regs t.a<W:=by omega
  refine wk 10 ?_;refine dq 133 (Aw Am rfl rfl rfl (.ptr _ _ _ _ _ _ [(Jw x0 x2 W s m)] _ AI rfl rfl) rfl) ?_;refine wk 9 ?_;refine dq 143 (An Am (es:=Ap regs) rfl rfl rfl rfl rfl rfl AI DN rfl ha.1 PK) ?_;refine dq 144 (Aw Am rfl rfl rfl (.ptr _ _ _ _ _ _ (Ap regs) _ AI DN (Ep PM)) rfl) ?_;refine dq 145 (Dc Am rfl rfl rfl rfl rfl (r:=Ah regs t.a) (by exact B4 Ab Ab)) ?_;refine dq 146 (BB (r:=.int .i64 (t.base+Ah regs t.a)) rfl rfl rfl lu) ?_;refine dq 147 (An Am (es:=Ap m.words) rfl rfl rfl rfl rfl rfl AI PL rfl hidx.1 (by have:=hidx.2;omega)) ?_;refine dq 148 (Aw Am rfl rfl rfl (.ptr _ _ _ _ _ _ (Ap m.words) _ AI PL (Ep (by have:=hidx;have:=hm.len;omega))) rfl) ?_;refine dq 149 (An Am (es:=Ap regs) rfl rfl rfl rfl rfl rfl AI DN rfl hd.1 UN) ?_;exact WY
 refine wk 6 ?_;refine asp 150 (fun hb9=>?_) fun hb9=>?_
 .
  refine act ?_;have ho:t.op=7:=by simpa using hb9
  have ha:=ht.a UO;have hb:=ht.b (by simp[use2,ho]);have har:=ht.arr (by simp[ho]);have hwa:=G1 hr t.a;have hwa1:=hwa.1;have hwa2:=hwa.2;refine wk 8 ?_;refine dq 157 (An Am (es:=Ap regs) rfl rfl rfl rfl rfl rfl AI DN rfl ha.1 PK) ?_;refine dq 158 (Aw Am rfl rfl rfl (.ptr _ _ _ _ _ _ (Ap regs) _ AI DN (Ep PM)) rfl) ?_;refine dq 159 (Dc Am rfl rfl rfl rfl rfl (r:=Ah regs t.a) aW) ?_;refine wk 4 ?_;refine dq 164 (Dc Am rfl rfl rfl rfl rfl (r:=t.size) aW) ?_;refine wk 2 ?_;refine asp 165 (fun hb10=>?_) fun hb10=>?_
  .
   refine act ?_;have hsz:=hb10;refine wk 5 ?_
   (refine⟨[_],⟨rfl,trivial⟩,?_,?_⟩<;>rw[Ui (.inr ho) hsz]<;>first|rfl|exact congrArg (AV.int .i64) h0.symm|exact BO DQ DQ DQ DQ IA)
  refine BK ?_;have hsz:=hb10;have hsz2:Ah regs t.a<t.size:=by simpa using hb10
  have hidx:0<=t.base+Ah regs t.a/\t.base+Ah regs t.a<W:=by omega
  refine wk 5 ?_;refine dq 169 (Aw Am rfl rfl rfl (.ptr _ _ _ _ _ _ [(Jw x0 x2 W s m)] _ AI rfl rfl) rfl) ?_;refine wk 9 ?_;refine dq 179 (An Am (es:=Ap regs) rfl rfl rfl rfl rfl rfl AI DN rfl ha.1 PK) ?_;refine dq 180 (Aw Am rfl rfl rfl (.ptr _ _ _ _ _ _ (Ap regs) _ AI DN (Ep PM)) rfl) ?_;refine dq 181 (Dc Am rfl rfl rfl rfl rfl (r:=Ah regs t.a) (by exact B4 Ab Ab)) ?_;refine dq 182 (BB (r:=.int .i64 (t.base+Ah regs t.a)) rfl rfl rfl lu) ?_;refine wk 5 ?_;refine dq 188 (An Am (es:=Ap regs) rfl rfl rfl rfl rfl rfl AI DN rfl hb.1 (by have:=hb.2;omega)) ?_;refine dq 189 (Aw Am rfl rfl rfl (.ptr _ _ _ _ _ _ (Ap regs) _ AI DN (Ep (by have:=hb;have:=hm.len;omega))) rfl) ?_;refine dq 190 (An Am (es:=Ap m.words) rfl rfl rfl rfl rfl rfl AI PL rfl hidx.1 (by have:=hidx.2;omega)) ?_;refine DOps.w rfl rfl (Be Am (es:=Ap m.words) rfl rfl rfl rfl rfl AI PL (Ep (by have:=hidx;have:=hm.len;omega)) rfl A7 rfl US) ?_;refine wk 6 ?_;exact ki
 refine wk 6 ?_;refine asp 191 (fun hb11=>?_) fun hb11=>?_
 .
  refine act ?_;have ho:t.op=8:=by simpa using hb11
  have hd:=ht.d UM;refine wk 1 ?_;have hrc:m.read<s.size\/¬m.read<s.size:=Decidable.em _;refine wk 6 ?_;refine dx 199 (cC [0] [(0,(rf 6 [[x0,(.ref 1 W 0 W),x2,.str s,(.int .i64 ((bif decide (m.read<s.size)then m.read+1 else m.read:Nat):Int)),(.ref 3 m.out.length 0 m.out.length)]]))] rfl Tryz.func48 Ay rfl rfl (fun h' he=>jF h' s m.read x0 (.ref 1 W 0 W) x2 (.ref 3 m.out.length 0 m.out.length) (by rw[he 0 Az];exact hh0) hs)) ?_;refine dq 200 (An Am (es:=Ap regs) rfl rfl rfl rfl rfl rfl AI DN rfl hd.1 UN) ?_;exact WY
 refine wk 6 ?_;refine asp 201 (fun hb12=>?_) fun hb12=>?_
 .
  refine act ?_;have ho:t.op=9:=by simpa using hb12
  have ha:=ht.a UO;have hwa:=G1 hr t.a;have hwa1:=hwa.1;have hwa2:=hwa.2;refine wk 6 ?_;refine aq 206 (Aw Am rfl rfl rfl (.ptr _ _ _ _ _ _ [(Jw x0 x2 W s m)] _ AI rfl rfl) rfl) ?_;refine wk 3 ?_;refine asp 208 (fun hb13=>?_) fun hb13=>?_
  .
   refine act ?_;have hou:m.out.length>=65536:=by have h:=hb13;simp at h;omega
   refine wk 5 ?_
   (refine⟨[_],⟨rfl,trivial⟩,?_,?_⟩<;>rw[jh ho hou]<;>first|rfl|exact congrArg (AV.int .i64) h0.symm|exact BO DQ DQ DQ DQ IA)
  refine BK ?_;have hou:¬m.out.length>=65536:=by have h:=hb13;simp at h;omega
  refine wk 6 ?_;refine dq 213 (Aw Am rfl rfl rfl (.ptr _ _ _ _ _ _ [(Jw x0 x2 W s m)] _ AI rfl rfl) rfl) ?_;refine wk 5 ?_;refine dq 219 (An Am (es:=Ap regs) rfl rfl rfl rfl rfl rfl AI DN rfl ha.1 PK) ?_;refine dq 220 (Aw Am rfl rfl rfl (.ptr _ _ _ _ _ _ (Ap regs) _ AI DN (Ep PM)) rfl) ?_;refine dq 221 (Dc Am rfl rfl rfl rfl rfl (UW hwa)) ?_;refine dx 222 Iy ?_;refine dx 223 (G8 Am (es:=AH m.out) (n:=m.out.length) (m:=1) rfl rfl rfl rfl rfl rfl rfl rfl AI (by simp[AH]) rfl rfl (Nat.zero_lt_succ _) (.lst _ _) (by intro cs h;simp[AK]at h;subst h;rfl) (fun _ cs h=>by simp[AK]at h;subst h;rfl) rfl (by simp[AH,AK];have:=hm.out;omega) (by simp[AH,AK];simp only[maxLen];have:=hm.out;omega)) ?_;refine wk 2 ?_;refine DOps.w rfl rfl (Be Am (es:=[(Jw x0 x2 W s m)]) (hb:=AI) (hm:=rfl) (hk:=rfl) (hp:=ED)) ?_;refine wk 6 ?_;exact ki
 refine wk 7 ?_;exact ki
end Go.Proofs.YtijlphdockhgjaaGreatDoor.Sv
