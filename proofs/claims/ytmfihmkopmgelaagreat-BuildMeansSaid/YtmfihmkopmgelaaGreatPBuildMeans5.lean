/-
  PROGRAMS WITH NAMES AS ARGUMENTS: own work, over no program.
-/
import Derived.Test.YtmfihmkopmgelaaGreatPBuildMeans4
import Derived.Test.YtmfihmkopmgelaaGreatPBuildMeans3
set_option linter.unusedVariables false
set_option linter.unusedSimpArgs false
set_option maxRecDepth 100000
set_option maxHeartbeats 2000000
namespace Go.Proofs.YtmfihmkopmgelaaGreat.Sv
open Go Go.ChangeShapes Go.WideShapes Go.ChangeAt Go.RowKit
mutual
def PE.cells:PE->List AV
  | .mk k o n nm kids=>[.int .i64 k,.int .i64 o,.int .u32 n,.str nm,.lst false (PE.cellsL kids)]
def PE.cellsL:List PE->List (List AV)
  | []=>[]
  |e::l=>e.cells::PE.cellsL l
end
mutual
def PSt.cells:PSt->List AV
  | .mk k nm es thn els=>[.int .i64 k,.str nm,.lst false (es.map PE.cells),.lst false (PSt.cellsL thn),.lst false (PSt.cellsL els)]
def PSt.cellsL:List PSt->List (List AV)
  | []=>[]
  |e::l=>e.cells::PSt.cellsL l
end
abbrev D6(s:ByteArray):List AV:=[.str s]
abbrev Rr(a:ByteArray×Int):List AV:=[.str a.1,.int .i64 a.2]
def PFn.cells(f:PFn):List AV:=[.str f.name,.lst false (f.params.map D6),.lst false (f.locals.map D6),.bool f.word,.lst false (f.body.map PSt.cells)]
def PProg.cells(p:PProg):List AV:=[.lst false (p.vars.map D6),.lst false (p.arrays.map Rr),.lst false (p.funcs.map PFn.cells)]
theorem PE.cellsL_map:∀l:List PE,PE.cellsL l=l.map PE.cells
 | []=>by rw[PE.cellsL];rfl
 |e::l=>by rw[PE.cellsL,PE.cellsL_map l];rfl
theorem PSt.cellsL_map:∀l:List PSt,PSt.cellsL l=l.map PSt.cells
 | []=>by rw[PSt.cellsL];rfl
 |e::l=>by rw[PSt.cellsL,PSt.cellsL_map l];rfl
abbrev PE.row(e:PE):List AV:=[.int .i64 e.kind,.int .i64 e.op,.int .u32 e.num,.str e.name,.lst false (e.kids.map PE.cells)]
abbrev PSt.row(e:PSt):List AV:=[.int .i64 e.kind,.str e.name,.lst false (e.es.map PE.cells),.lst false (e.thn.map PSt.cells),.lst false (e.els.map PSt.cells)]
theorem PE.cells_eq(e:PE):e.cells=e.row:=by cases e;rw[PE.cells,PE.cellsL_map];rfl
theorem PSt.cells_eq(e:PSt):e.cells=e.row:=by cases e;rw[PSt.cells,PSt.cellsL_map,PSt.cellsL_map];rfl
abbrev cg(s:ByteArray):Prop:=s.size<=maxLen/\s.size<=reachBytes
abbrev ks(l:List ByteArray):Prop:=l.length*16<=reachBytes/\∀s∈l,cg s
inductive PE.Ok:PE->Prop
  |mk {k o n:Int} {nm:ByteArray} {kids:List PE}:GJ k->GJ o->CW n->cg nm->kids.length*64<=reachBytes->(∀e∈kids,PE.Ok e)->PE.Ok (.mk k o n nm kids)
inductive PSt.Ok:PSt->Prop
  |mk {k:Int} {nm:ByteArray} {es:List PE} {thn els:List PSt}:GJ k->cg nm->es.length*64<=reachBytes->(∀e∈es,PE.Ok e)->thn.length*96<=reachBytes->(∀e∈thn,PSt.Ok e)->els.length*96<=reachBytes->(∀e∈els,PSt.Ok e)->PSt.Ok (.mk k nm es thn els)
structure PFn.Ok(f:PFn):Prop where
  name:cg f.name
  params:ks f.params
  locals:ks f.locals
  len:f.body.length*96<=reachBytes
  body:∀s∈f.body,s.Ok
structure PProg.Ok(p:PProg):Prop where
  vars:ks p.vars
  alen:p.arrays.length*24<=reachBytes
  arrays:∀a∈p.arrays,cg a.1/\GJ a.2
  flen:p.funcs.length*96<=reachBytes
  funcs:∀f∈p.funcs,f.Ok
section
variable {H : Type} {enc : TypeId × Value -> H} {P : Program} {W : World} {T : Nat -> Option AD}
theorem ML{t s p q z:Nat}(hT:DP P T){i j0 j1 j2 j3:AD}(hi:T t=some i)(hk:i.k=.struct [(0,p),(1,p),(2,q),(3,z),(4,s)])(hs:i.size=5)(hb:i.bytes=64)(h0:T s=some j0)(k0:j0.k=.slice t)(s0:j0.size=1)
 (h1:T p=some j1) (k1:j1.k=.int .i64) (s1:j1.size=1) (h2:T q=some j2) (k2:j2.k=.int .u32) (s2:j2.size=1) (h3:T z=some j3) (k3:j3.k=.string) (s3:j3.size=1):∀m,DecB m enc P W t PE.cells PE.Ok
 |0=>fun fuel hm cs x h hw=>by
  have:fuel=0:=by omega
  subst this;simp[DataW.trod]at h
 |m+1=>fun fuel hm cs x h hw=>by
  obtain⟨hl,hp⟩:=Iw hT hi hk hm h hw;rw[hs]at hl;have ih:=(ML hT hi hk hs hb h0 k0 s0 h1 k1 s1 h2 k2 s2 h3 k3 s3 m).less (Nat.sub_le m 1);have hs5:DecB m enc P W s (fun l:List PE=>[.lst false (l.map PE.cells)]) (fun l=>l.length*i.bytes<=reachBytes/\∀a∈l,PE.Ok a):=(DecB.slice' hT h0 k0 hi Aa ih).less Aa;obtain⟨x0,a0,b0⟩:=hp 0 _ _ rfl ((HU hT h1 k1).bound _);obtain⟨x1,a1,b1⟩:=hp 1 _ _ rfl ((HU hT h1 k1).bound _);obtain⟨x2,a2,b2⟩:=hp 2 _ _ rfl ((HU hT h2 k2).bound _);obtain⟨x3,a3,b3⟩:=hp 3 _ _ rfl ((D3 hT h3 k3).bound _);obtain⟨x5,a5,b5⟩:=hp 4 _ _ rfl hs5;have c0:=GG hT h1 s1 (Reads.nil W cs) a0 Aa;have c1:=GG hT h1 s1 c0 a1 Aa;have c2:=GG hT h2 s2 c1 a2 Aa;have c3:=GG hT h3 s3 c2 a3 Aa;have c5:=GG hT h0 s0 c3 a5 Aa;rw[hb]at b5;refine⟨.mk x0 x1 x2 x3 x5,?_,.mk (OM b0) (OM b1) (dh b2) b3 b5.1 b5.2⟩;rw[PE.cells_eq];exact c5.all hl
theorem MK{t s s2 u p z:Nat}(hT:DP P T){i j0 j1 j2 j3 j4:AD}(hi:T t=some i)(hk:i.k=.struct [(0,p),(1,z),(2,u),(3,s),(4,s)])(hs:i.size=5)(hb:i.bytes=96)(h0:T s=some j0)(k0:j0.k=.slice t)(s0:j0.size=1)
 (h1:T p=some j1) (k1:j1.k=.int .i64) (s1:j1.size=1) (h2:T u=some j2) (k2:j2.k=.slice s2) (z2:j2.size=1) (h3:T s2=some j3) (z3:j3.size=5) (b3:j3.bytes=64) (h4:T z=some j4) (k4:j4.k=.string) (s4:j4.size=1)
 (hE:∀m,DecB m enc P W s2 PE.cells PE.Ok):∀m,DecB m enc P W t PSt.cells PSt.Ok
 |0=>fun fuel hm cs x h hw=>by
  have:fuel=0:=by omega
  subst this;simp[DataW.trod]at h
 |m+1=>fun fuel hm cs x h hw=>by
  obtain⟨hl,hp⟩:=Iw hT hi hk hm h hw;rw[hs]at hl;have ih:=(MK hT hi hk hs hb h0 k0 s0 h1 k1 s1 h2 k2 z2 h3 z3 b3 h4 k4 s4 hE m).less (Nat.sub_le m 1);have hsS:DecB m enc P W s (fun l:List PSt=>[.lst false (l.map PSt.cells)]) (fun l=>l.length*i.bytes<=reachBytes/\∀a∈l,PSt.Ok a):=(DecB.slice' hT h0 k0 hi Aa ih).less Aa;have hsE:DecB m enc P W u (fun l:List PE=>[.lst false (l.map PE.cells)]) (fun l=>l.length*j3.bytes<=reachBytes/\∀a∈l,PE.Ok a):=(DecB.slice' hT h2 k2 h3 Aa (hE m)).less Aa;obtain⟨x0,a0,b0⟩:=hp 0 _ _ rfl ((HU hT h1 k1).bound _);obtain⟨x1,a1,b1⟩:=hp 1 _ _ rfl ((D3 hT h4 k4).bound _);obtain⟨x3,a3,b3'⟩:=hp 2 _ _ rfl hsE;obtain⟨x4,a4,b4⟩:=hp 3 _ _ rfl hsS;obtain⟨x5,a5,b5⟩:=hp 4 _ _ rfl hsS;have c0:=GG hT h1 s1 (Reads.nil W cs) a0 Aa;have c1:=GG hT h4 s4 c0 a1 Aa;have c3:=GG hT h2 z2 c1 a3 Aa;have c4:=GG hT h0 s0 c3 a4 Aa
  have c5:=GG hT h0 s0 c4 a5 Aa;rw[hb]at b4 b5;rw[b3]at b3';refine⟨.mk x0 x1 x3 x4 x5,?_,.mk (OM b0) b1 b3'.1 b3'.2 b4.1 b4.2 b5.1 b5.2⟩;rw[PSt.cells_eq];exact c5.all hl
theorem Kd{t z:Nat}(hT:DP P T){j1 j2:AD}(h1:T t=some j1)(k1:j1.k=.slice z)(h2:T z=some j2)(k2:j2.k=.string)(s2:j2.size=1)(b2:j2.bytes=16):
 Dec enc P W t (fun l:List ByteArray=>[.lst false (l.map D6)]) ks:=by
 have h:=Dec.slice' hT h1 k1 h2 Aa (D3 (enc:=enc) (W:=W) hT h2 k2);rw[b2]at h;exact h
theorem Z4{t z p:Nat}(hT:DP P T){i j1 j2:AD}(hi:T t=some i)(hk:i.k=.struct [(0,z),(1,p)])(hs:i.size=2)(h1:T p=some j1)(k1:j1.k=.int .i64)(s1:j1.size=1)(h2:T z=some j2)(k2:j2.k=.string)(s2:j2.size=1):
 Dec enc P W t Rr (fun a=>cg a.1/\GJ a.2):=fun fuel cs x h hw=>by
 obtain⟨hl,hp⟩:=GN hT hi hk h hw;rw[hs]at hl;obtain⟨x0,a0,b0⟩:=hp 0 _ _ rfl (D3 hT h2 k2);obtain⟨x1,a1,b1⟩:=hp 1 _ _ rfl (HU hT h1 k1);have c0:=GG hT h2 s2 (Reads.nil W cs) a0 Aa;have c1:=GG hT h1 s1 c0 a1 Aa;exact⟨(x0,x1),c1.all hl,b0,OM b1⟩
theorem Z3{t z n q s u:Nat}(hT:DP P T){i j1 j2 j3 j4 j5:AD}(hi:T t=some i)(hk:i.k=.struct [(0,z),(1,n),(2,n),(3,q),(4,s)])(hs:i.size=5)(h1:T z=some j1)(k1:j1.k=.string)(s1:j1.size=1)(b1':j1.bytes=16)
 (h5:T n=some j5) (k5:j5.k=.slice z) (s5:j5.size=1) (h4:T q=some j4) (k4:j4.k=.bool) (s4:j4.size=1) (h2:T s=some j2) (k2:j2.k=.slice u) (s2:j2.size=1) (h3:T u=some j3) (s3:j3.size=5) (b3:j3.bytes=96) (hd:Dec enc P W u PSt.cells PSt.Ok):
 Dec enc P W t PFn.cells PFn.Ok:=fun fuel cs x h hw=>by
 obtain⟨hl,hp⟩:=GN hT hi hk h hw;rw[hs]at hl;obtain⟨x0,a0,b0⟩:=hp 0 _ _ rfl (D3 hT h1 k1);obtain⟨x1,a1,b1⟩:=hp 1 _ _ rfl (Kd hT h5 k5 h1 k1 s1 b1');obtain⟨x2,a2,b2⟩:=hp 2 _ _ rfl (Kd hT h5 k5 h1 k1 s1 b1');obtain⟨x3,a3,b3'⟩:=hp 3 _ _ rfl (VY hT h4 k4);obtain⟨x4,a4,b4⟩:=hp 4 _ _ rfl (Dec.slice' hT h2 k2 h3 Aa hd);have c0:=GG hT h1 s1 (Reads.nil W cs) a0 Aa;have c1:=GG hT h5 s5 c0 a1 Aa;have c2:=GG hT h5 s5 c1 a2 Aa;have c3:=GG hT h4 s4 c2 a3 Aa;have c4:=GG hT h2 s2 c3 a4 Aa;rw[b3]at b4;exact⟨⟨x0,x1,x2,x3,x4⟩,c4.all hl,⟨b0,b1,b2,b4.1,b4.2⟩⟩
theorem X9{t n s a f r z:Nat}(hT:DP P T){i j1 j2 j3 j4 j5 j6:AD}(hi:T t=some i)(hk:i.k=.struct [(0,n),(1,a),(2,f)])(hs:i.size=3)(h1:T z=some j1)(k1:j1.k=.string)(s1:j1.size=1)(b1':j1.bytes=16)
 (h5:T n=some j5) (k5:j5.k=.slice z) (s5:j5.size=1) (h2:T a=some j2) (k2:j2.k=.slice s) (s2:j2.size=1) (h3:T s=some j3) (s3:j3.size=2) (b3:j3.bytes=24) (h4:T f=some j4) (k4:j4.k=.slice r) (s4:j4.size=1) (h6:T r=some j6) (s6:j6.size=5) (b6:j6.bytes=96)
 (hA:Dec enc P W s Rr (fun a=>cg a.1/\GJ a.2)) (hF:Dec enc P W r PFn.cells PFn.Ok):Dec enc P W t PProg.cells PProg.Ok:=fun fuel cs x h hw=>by
 obtain⟨hl,hp⟩:=GN hT hi hk h hw;rw[hs]at hl;obtain⟨x0,a0,b0⟩:=hp 0 _ _ rfl (Kd hT h5 k5 h1 k1 s1 b1');obtain⟨x1,a1,b1⟩:=hp 1 _ _ rfl (Dec.slice' hT h2 k2 h3 Aa hA);obtain⟨x2,a2,b2⟩:=hp 2 _ _ rfl (Dec.slice' hT h4 k4 h6 Aa hF);have c0:=GG hT h5 s5 (Reads.nil W cs) a0 Aa;have c1:=GG hT h2 s2 c0 a1 Aa;have c2:=GG hT h4 s4 c1 a2 Aa;rw[b3]at b1;rw[b6]at b2;exact⟨⟨x0,x1,x2⟩,c2.all hl,⟨b0,b1.1,b1.2,b2.1,b2.2⟩⟩
end
end Go.Proofs.YtmfihmkopmgelaaGreat.Sv
namespace Go.Proofs.YtmfihmkopmgelaaGreat
open Go.ChangeShapes Go.WideShapes Go.ChangeAt Go.RowKit Sv
section
variable {H : Type} {enc : TypeId × Value -> H} {W : World}
theorem decPExprB(m:Nat):DecB m enc Tryz.prog W 124 PE.cells PE.Ok:=ML (s:=95) (p:=3) (q:=52) (z:=9) Aj rfl rfl rfl rfl rfl rfl rfl rfl rfl rfl rfl rfl rfl rfl rfl rfl m
theorem decPStmtB(m:Nat):DecB m enc Tryz.prog W 97 PSt.cells PSt.Ok:=MK (s:=62) (s2:=124) (u:=95) (p:=3) (z:=9) Aj rfl rfl rfl rfl rfl rfl rfl rfl rfl rfl rfl rfl rfl rfl rfl rfl rfl rfl rfl decPExprB m
theorem decPArr:Dec enc Tryz.prog W 61 Rr (fun a=>cg a.1/\GJ a.2):=Z4 (z:=9) (p:=3) Aj rfl rfl rfl rfl rfl rfl rfl rfl rfl
theorem decPFn:Dec enc Tryz.prog W 64 PFn.cells PFn.Ok:=Z3 (z:=9) (n:=22) (q:=4) (s:=62) (u:=97) Aj rfl rfl rfl rfl rfl rfl rfl rfl rfl rfl rfl rfl rfl rfl rfl rfl rfl rfl rfl (YA decPStmtB)
theorem decProg:Dec enc Tryz.prog W 26 PProg.cells PProg.Ok:=X9 (z:=9) (n:=22) (a:=23) (s:=61) (f:=24) (r:=64) Aj rfl rfl rfl rfl rfl rfl rfl rfl rfl rfl rfl rfl rfl rfl rfl rfl rfl rfl rfl rfl rfl rfl decPArr decPFn
end
end Go.Proofs.YtmfihmkopmgelaaGreat
namespace Go.Proofs.YtmfihmkopmgelaaGreat.Sv
open Go
def CK(c:UInt8):Bool:=(decide (97<=c)&&decide (c<=122))||(decide (65<=c)&&decide (c<=90))
def G8(c:UInt8):Bool:=decide (48<=c)&&decide (c<=57)
def words13:List ByteArray:=[⟨#[118,97,114]⟩,⟨#[97,114,114,97,121]⟩,⟨#[102,117,110,99]⟩,⟨#[119,111,114,100]⟩,⟨#[105,102]⟩,⟨#[101,108,115,101]⟩,⟨#[119,104,105,108,101]⟩,⟨#[114,101,116,117,114,110]⟩,⟨#[112,117,116]⟩,⟨#[103,101,116]⟩]
def Ix(l:List ByteArray)(s:ByteArray):Bool:=l.any fun x=>decide (x=s)
def Xo(s:ByteArray):Bool:=(!(s.size==0)&&(decide (s.size<=20)&&(CK (FE s 0)&& !Ix words13 s)))&&s.data.toList.all fun c=>CK c||(G8 c||c==95)
def FC(s:ByteArray):Bool:= !Ix words13 s&&Xo s
def Mg(k:Int):Bool:=k==2||(k==3||k==4)
def PE.bare(e:PE)(level:Int):Bool:=decide (level<=24)&&((e.kind==6||e.op==0)&&(e.kind==1||e.num==0))
def PE.callme(e:PE):Bool:=(Mg e.kind== !(e.name.size==0))&&(!Mg e.kind||FC e.name)
mutual
def PE.right:PE->Int->Bool
  | .mk k o n nm kids,level=>PE.bare (.mk k o n nm kids) level&&(PE.callme (.mk k o n nm kids)&&
     (bif k==1||(k==2||k==5)then(kids.length:Int)==0
      else bif k==3||k==7 then(kids.length:Int)==1&&PE.rightL kids (level+1)
      else bif k==4 then decide ((kids.length:Int)<=6)&&PE.rightL kids (level+1)
      else bif k==6 then decide (4<=o)&&(decide (o<=15)&&((kids.length:Int)==2&&PE.rightL kids (level+1)))
      else bif k==8||k==9 then(kids.length:Int)==2&&PE.rightL kids (level+1)
      else false))
def PE.rightL:List PE->Int->Bool
  | [],_=>true
  |e::l,level=>e.right level&&PE.rightL l level
end
def Mf(k:Int):Bool:=k==1||(k==2||k==6)
def PSt.bare(e:PSt)(level:Int):Bool:=decide (level<=24)&&((e.kind==4||(e.els.length:Int)==0)&&(e.kind==4||(e.kind==5||(e.thn.length:Int)==0)))
def PSt.callme(e:PSt):Bool:=(Mf e.kind== !(e.name.size==0))&&(!Mf e.kind||FC e.name)
def Q5(k n:Int):Bool:=
  bif k==1||(k==3||(k==4||k==5))then n==1 else bif k==2 then n==2 else bif k==6 then decide (n<=6)else bif k==7 then decide (n<=1)else false
mutual
def PSt.right:PSt->Int->Bool
  | .mk k nm es thn els,level=>PSt.bare (.mk k nm es thn els) level&&(PSt.callme (.mk k nm es thn els)&&(Q5 k es.length&&(PE.rightL es (level+1)&&(PSt.rightL thn (level+1)&&PSt.rightL els (level+1)))))
def PSt.rightL:List PSt->Int->Bool
  | [],_=>true
  |e::l,level=>e.right level&&PSt.rightL l level
end
def IW(l:List ByteArray):Bool:=l.all FC
def PFn.right(f:PFn):Bool:=FC f.name&&(decide ((f.params.length:Int)<=6)&&(IW f.params&&(IW f.locals&&PSt.rightL f.body 1)))
def EO(a:ByteArray×Int):Bool:=FC a.1&&(decide (1<=a.2)&&decide (a.2<=4096))
def PProg.right(p:PProg):Bool:=(IW p.vars&&(decide (1<=(p.funcs.length:Int))&&decide ((p.funcs.length:Int)<=64)))&&(p.arrays.all EO&&p.funcs.all PFn.right)
mutual
def PE.left:PE->Int->Int->Int
  | .mk _ _ _ nm kids,left,deep=>bif decide (deep<=0)||decide ((nm.size:Int)>60)then -1 else PE.leftL kids (left-1) (deep-1)
def PE.leftL:List PE->Int->Int->Int
  | [],left,_=>left
  |e::l,left,deep=>bif decide (left>=0)then PE.leftL l (e.left left deep) deep else left
end
mutual
def PSt.left:PSt->Int->Int->Int
  | .mk _ nm es thn els,left,deep=>bif decide (deep<=0)||decide ((nm.size:Int)>60)then -1 else PSt.leftL els (PSt.leftL thn (PE.leftL es (left-1) (deep-1)) (deep-1)) (deep-1)
def PSt.leftL:List PSt->Int->Int->Int
  | [],left,_=>left
  |e::l,left,deep=>bif decide (left>=0)then PSt.leftL l (e.left left deep) deep else left
end
def Ft(l:List ByteArray):Bool:=(l.all fun s=>decide ((s.size:Int)<=60))&&decide ((l.length:Int)<=200)
def PFn.short(f:PFn):Bool:=Ft f.params&&(Ft f.locals&&decide ((f.name.size:Int)<=60))
def CX(l:List PFn)(left:Int):Int:=l.foldl (fun a f=>PSt.leftL f.body (a-f.params.length-f.locals.length) 60) left
def PProg.few(p:PProg)(most:Int):Bool:=(Ft p.vars&&(decide ((p.arrays.length:Int)<=200)&&decide ((p.funcs.length:Int)<=70)))&&
  ((p.arrays.all fun a=>decide ((a.1.size:Int)<=60))&&(p.funcs.all PFn.short&&decide (0<=CX p.funcs (most-p.vars.length-p.arrays.length-p.funcs.length))))
structure Use where
  name:ByteArray
  kd:Int
  ar:Int
def PE.use(k:Int)(nm:ByteArray)(n:Nat):List Use:=bif k==2 then [⟨nm,1,0⟩]else bif k==3 then [⟨nm,3,0⟩]else bif k==4 then [⟨nm,4,n⟩]else []
mutual
def PE.uses:PE->List Use
  | .mk k _ _ nm kids=>PE.use k nm kids.length++PE.usesL kids
def PE.usesL:List PE->List Use
  | []=>[]
  |e::l=>e.uses++PE.usesL l
end
def PSt.use(k:Int)(nm:ByteArray)(n:Nat):List Use:=bif k==1 then [⟨nm,1,0⟩]else bif k==2 then [⟨nm,3,0⟩]else bif k==6 then [⟨nm,4,n⟩]else []
mutual
def PSt.uses:PSt->List Use
  | .mk k nm es thn els=>PSt.use k nm es.length++(PE.usesL es++(PSt.usesL thn++PSt.usesL els))
def PSt.usesL:List PSt->List Use
  | []=>[]
  |e::l=>e.uses++PSt.usesL l
end
def Eb(l:List ByteArray):Bool:=(List.range l.length).all fun i=>placeOf ((l[i]?).getD ⟨#[]⟩) l 0==(i:Int)
def Fq(p:PProg)(f:Nat)(u:Use):Bool:=match p.find f u.name with
  |(k,n)=> !((u.kd==1&&(!(k==1)&& !(k==2)))||((u.kd==3&& !(k==3))||(u.kd==4&&(!(k==4)||decide (n>=(f:Int))))))
def PProg.names16(p:PProg):Bool:=Eb p.globals&&(p.funcs.zipIdx.all fun x=>Eb x.1.names&&(PSt.usesL x.1.body).all (Fq p x.2))
def Eo(p:PProg)(f:Nat)(u:Use):Bool:= !(u.kd==4)||(match p.funcs[(p.find f u.name).2.toNat]? with
  |some g=>(g.params.length:Int)==u.ar
  |none=>false)
def jS:ByteArray:=⟨#[109,97,105,110]⟩
def PProg.numbers(p:PProg):Bool:=(p.funcs.zipIdx.all fun x=>(PSt.usesL x.1.body).all (Eo p x.2))&&(match p.funcs[p.funcs.length-1]? with
  |some g=>decide (g.name=jS)&&((g.params.length:Int)==0&& !g.word)
  |none=>false)
def PProg.check16(p:PProg):Int:=bif !p.names16 then 4 else bif !p.numbers then 1 else 0
def PProg.fnum(p:PProg)(s:ByteArray):Int:=placeOf s (p.funcs.map (·.name)) 0
mutual
def PE.known(p:PProg):PE->Bool
  | .mk k _ _ nm kids=> !(k==4&&decide (p.fnum nm<0))&&PE.knownL p kids
def PE.knownL(p:PProg):List PE->Bool
  | []=>true
  |e::l=>e.known p&&PE.knownL p l
end
mutual
def PSt.known(p:PProg):PSt->Bool
  | .mk k nm es thn els=> !(k==6&&decide (p.fnum nm<0))&&(PE.knownL p es&&(PSt.knownL p thn&&PSt.knownL p els))
def PSt.knownL(p:PProg):List PSt->Bool
  | []=>true
  |e::l=>e.known p&&PSt.knownL p l
end
def PProg.wordF(p:PProg)(i:Int):Bool:=((p.funcs[i.toNat]?).map PFn.word).getD false
mutual
def PE.ty(p:PProg):PE->Int
  | .mk k o _ nm kids=>
    bif k==1||(k==2||k==5)then 1
    else bif k==3 then(bif AW p 1 kids then 1 else 0)
    else bif k==4 then(bif decide (p.fnum nm>=0)&&(p.wordF (p.fnum nm)&&AW p 1 kids)then 1 else 0)
    else bif k==6 then(bif AW p 1 kids then(bif o==14||o==15 then 2 else 1)else 0)
    else bif k==7||(k==8||k==9)then(bif AW p 2 kids then 2 else 0)
    else 0
def AW(p:PProg)(t:Int):List PE->Bool
  | []=>true
  |e::l=>e.ty p==t&&AW p t l
end
mutual
def PSt.fits(p:PProg)(w:Bool):PSt->Bool
  | .mk k nm es thn els=>(bif k==4||k==5 then AW p 2 es else AW p 1 es)&&(!(k==6&&p.wordF (p.fnum nm))&&(!(k==7&&(decide ((es.length:Int)>0)&& !w))&&(Bj p w thn&&Bj p w els)))
def Bj(p:PProg)(w:Bool):List PSt->Bool
  | []=>true
  |e::l=>e.fits p w&&Bj p w l
end
def PProg.check17(p:PProg):Int:=bif !(p.funcs.all fun f=>PSt.knownL p f.body)then 4 else bif !(p.funcs.all fun f=>Bj p f.word f.body)then 5 else 0
def PProg.sound(p:PProg):Int:=bif !p.right then 7 else bif !(p.check16==0)then p.check16 else p.check17
section
variable {P : Program} {o : Oper} {e : AN} {h : Ag}
def BJ(κ:Nat->Bool)(h g:Ag):Ag:=fun c=>bif κ c then g c else h c
theorem EJ{κ:Nat->Bool}{h g:Ag}{c:Nat}(hc:κ c=true):BJ κ h g c=g c:=by unfold BJ;rw[hc];rfl
theorem TO{κ:Nat->Bool}{h g:Ag}{c:Nat}(hc:κ c=false):BJ κ h g c=h c:=by unfold BJ;rw[hc];rfl
theorem Qv{κ:Nat->Bool}{W h:Ag}(hH:∀b,κ b=true->h b=W b):HSub (BJ κ hNone W) h:=fun c o ho=>by
 cases e:κ c with
 |true=>rw[EJ e]at ho;rw[hH c e];exact ho
 |false=>rw[TO e]at ho;cases ho
theorem XI{κ:Nat->Bool}{W h:Ag}(hH:∀b,κ b=true->h b=W b)(hN:∀b,κ b=false->W b=some .free):En h κ=W:=funext fun b=>by
 unfold En
 cases e:κ b with
 |true=>rw[cond_true];exact hH b e
 |false=>rw[cond_false];exact(hN b e).symm
theorem Mb{f:FuncId}{fn:Func}{args:Array Operand}{tys:Array TypeId}{xs:List AV}{r:AV}{W W':Ag}(κ:Nat->Bool)(ho:o.op=.call {callee:=.value (.func f),args:=args,argTypes:=tys})(hf:P.funcs[f]?=some fn)(hnm:(fn.name== "runtime.NumGoroutine")=false)(hb:fn.body.isSome=true)
 (hx:Bo e args.toList=some xs) (hxa:xs.all (AV.avoid κ)=true) (hH:∀b,κ b=true->h b=W b) (hA:∀b,κ b=true->∃q,W b=some q/\q.avoid κ=true) (hN:∀b,κ b=false->W b=some .free) (hA':∀b,κ b=true->∃q,W' b=some q/\q.avoid κ=true) (hra:r.avoid κ=true)
 (hcall:ACall P f xs W (fun r' h'=>r'=r/\HSub (BJ κ hNone W') h')):HT P o e h (BJ κ h W') r:=
 TR (hw:=BJ κ hNone W') κ ho hf hnm hb hx hxa (fun b hb=>by rw[hH b hb];exact hA b hb) (XI hH hN) (fun _ hb=>TO hb)
  (fun b hb=>by obtain⟨q,q1,q2⟩:=hA' b hb;exact⟨q,(EJ hb).trans q1,(EJ hb).trans q1,q2⟩) hra hcall
theorem Xg{f:FuncId}{fn:Func}{x:Operand}{args:Array Operand}{tys:Array TypeId}{fs xs cs:List AV}{r:AV}{hc hw hn:Ag}(κ:Nat->Bool)(ho:o.op=.call {callee:=.value x,args:=args,argTypes:=tys})(hfn:AA e x=some (.fn (.func f) fs cs))(hf:P.funcs[f]?=some fn)(hnm:(fn.name== "runtime.NumGoroutine")=false)(hb:fn.body.isSome=true)
 (hx:Bo e args.toList=some xs) (hxa:(fs++xs++cs).all (AV.avoid κ)=true) (hL:∀b,κ b=true->∃q,h b=some q/\q.avoid κ=true) (hres':En h κ=hc) (hW:∀b,κ b=false->hn b=h b)
 (hk:∀b,κ b=true->∃q,hw b=some q/\hn b=some q/\q.avoid κ=true) (hra:r.avoid κ=true)
 (hcall:ACall P f (fs++xs++cs) hc (fun r' h'=>r'=r/\HSub hw h')):HT P o e h hn r:=by
 intro H ι a w n Q hs;have hvf:=AH hs hfn;obtain⟨us,vs,hve,k1,k2,k3,k4⟩:=hvf.fn_inv;have hraa:=Iy (Iy ⟨k1,k3⟩ (Et hs hx)) ⟨k2,k4⟩;have hra':RelAll H (CR ι κ) (fs++xs++cs) (us++args.map a.eval++vs):=⟨hraa.1,fun j x v h1 h2=>DZ (hraa.2 j x v h1 h2) (EH hxa h1)⟩;have hrc:HeapRel H (CR ι κ) (En h κ) w:=by
  exact fI
 have hcalls:=hcall H (CR ι κ) w _ hra' (hres'▸hrc);have hexec:(execOp a.eval o).run P w=.ok (.enter f (us++args.map a.eval++vs)) w:=by
  simp only[execOp,ho,resolve,hve,Deferred.ofValue,invoke,Sem.run_bind,Sem.run_pure,Result.andThen_ok,E4 hf hnm hb]
 exact fD
end
section
variable {P : Program} {T : Nat -> Option AD} {o : Oper} {e : AN} {h : Ag}
theorem jx{t t':TypeId}{x y:Operand}{k k':IntKind}{m n:Int}(ho:o.op=.call {callee:=.builtin .max,args:= #[x,y],argTypes:= #[t,t']})(hx:AA e x=some (.int k m))(hy:AA e y=some (.int k' n)):QLoc P o e h [] (.int k (max m n)):=by
 intro H ι a w s hs h1 h2;have hx':AA s.env x=some (.int k m):=by rw[h1 x Lk,hx]
 have hy':AA s.env y=some (.int k' n):=by rw[h1 y Lk,hy]
 have hvx:=(AH hs hx').int_inv;have hvy:=(AH hs hy').int_inv;refine⟨.int k (max m n),.int _ _ _,?_⟩;have e1:(if n>m then n else m)=max m n:=by
  rw[Int.max_def];split<;>split<;>omega
 have key:(Builtin.max_ #[t,t'] o.type #[.int k m,.int k' n]).run P w=.ok (.int k (max m n)) w:=by
  show(List.foldlM Builtin.max2 (Value.int k m) [Value.int k' n]).run P w=_;simp only[List.foldlM,Builtin.max2,Sem.run_bind,Sem.run_pure,Result.andThen_ok,e1]
 exact bv
end
section
variable {P : Program}
theorem Tq{ops:Array Oper}{o:Oper}{rest:List Oper}{n:Nat}{e:AN}{h:Ag}{K:An->Prop}(d:Nat){v:Value}(hd:o.dst=some d)(ho:o.op=.assign (.const v))(hg:o.guard=none)(he:e d=none)(hr:AOps P ops rest ⟨n,e,h⟩ K):AOps P ops (o::rest) ⟨n,e,h⟩ K:=by
 intro H ι a w hs;unfold wpList;rw[if_pos (by simp[Region.wanted,hg])];refine .inl ?_;unfold Oper.wp;simp only[execOp,ho,Sem.run_pure];refine hr H ι _ w ?_;rw[hd];refine⟨by simp[Act.put,hs.n],hs.d,fun t x hx=>?_,hs.heap⟩;have hne:d≠t:=fun e2=>by subst e2;rw[show e d=some x from hx]at he;cases he
 obtain⟨v',e1,e2⟩:=hs.env t x hx;exact⟨v',by simp only[Act.put];rw[Array.getElem?_setIfInBounds_ne hne];exact e1,e2⟩
end
section
variable {call call' : Cr} {s s' : ByteArray} {p : Nat}
variable {fuel : Int}
end
abbrev Vn(n:Int):CE:=.mk 1 0 n 0 0 []
abbrev WJ(e:CE):CS:=.mk 3 0 0 [e] [] []
theorem Z1{C:Core}{k:Nat}{n:Int}(hn:CW n):(Vn n).ok C k:=by rw[CE.ok];exact⟨trivial,.inl ⟨rfl,hn⟩⟩
theorem Zd{C:Core}{k:Nat}{w:Bool}{e:CE}(he:e.ok C k):(WJ e).ok C k w:=by
 rw[CS.ok];exact⟨⟨he,trivial⟩,trivial,trivial,.inr (.inr (.inl ⟨rfl,rfl⟩))⟩
section
variable {call : Cr} {s : ByteArray} {fuel : Int}
end
def St(w:Int)(body:List CS):Core:=⟨w,[⟨0,0,0,false,body⟩]⟩
theorem QJ{C:Core}{k:Nat}{w:Bool}:∀{l:List CS},(∀st∈l,st.ok C k w)->CS.okL C k w l
 | [],_=>trivial
 |st::l,h=>⟨h st (List.mem_cons.2 (.inl rfl)),QJ fun e he=>h e (List.mem_cons.2 (.inr he))⟩
theorem Zr{w:Int}(h0:0<=w)(h1:w<=1000000){body:List CS}(hb:∀st∈body,st.ok (St w body) 0 false)(hp:∀st∈body,st.parts<=3000):In (St w body):=by
 have hg:∀(i:Nat) fn,(St w body).funcs[i]?=some fn->i=0/\fn=⟨0,0,0,false,body⟩:=fun i fn h=>by
  cases i with
  |zero=>exact⟨rfl,(Option.some.inj h).symm⟩
  |succ i=>simp[St]at h
 refine⟨⟨h0,fun e=>by simp[St]at e,fun i fn h=>?_,fun fn h=>?_⟩,h1,fun fn h st hs=>?_⟩
 . obtain⟨rfl,rfl⟩:=hg i fn h;exact⟨Int.le_refl _,(show(0:Int)<=6 by decide),Int.le_refl _,Int.le_refl _,h0,QJ hb⟩
 . rw[(hg _ fn h).2];exact⟨rfl,rfl⟩
 . obtain⟨i,hi⟩:=List.mem_iff_getElem?.1 h;rw[(hg i fn hi).2]at hs;exact hp st hs
section
variable {call : Cr} {s : ByteArray}
end
abbrev CE.row(e:CE):List AV:=[.int .i64 e.kind,.int .i64 e.op,.int .u32 e.num,.int .i64 e.slot,.int .i64 e.size,.lst false (e.kids.map CE.cells)]
abbrev CS.row(e:CS):List AV:=[.int .i64 e.kind,.int .i64 e.slot,.int .i64 e.size,.lst false (e.es.map CE.cells),.lst false (e.thn.map CS.cells),.lst false (e.els.map CS.cells)]
theorem ZI{l:List CE}{k:Nat}{x:CE}(h:l[k]?=some x):(l.map CE.cells)[((k:Nat):Int).toNat]?=some x.row:=by
 rw[Int.toNat_natCast,List.getElem?_map,h];exact congrArg some (CE.cells_eq x)
theorem IB{l:List CE}{x:CE}(h:l[0]?=some x):(l.map CE.cells)[(0:Int).toNat]?=some x.row:=ZI (k:=0) h
theorem XG{l:List CE}{x:CE}(h:l[1]?=some x):(l.map CE.cells)[(1:Int).toNat]?=some x.row:=ZI (k:=1) h
theorem ZH{l:List CS}{k:Nat}{x:CS}(h:l[k]?=some x):(l.map CS.cells)[((k:Nat):Int).toNat]?=some x.row:=by
 rw[Int.toNat_natCast,List.getElem?_map,h];exact congrArg some (CS.cells_eq x)
theorem CE.Ok.kidsOk{e:CE}(h:e.Ok):(∀x∈e.kids,x.Ok)/\e.kids.length*64<=reachBytes:=by
 cases h with
 |mk i1 i2 i3 i4 i5 i6 i7=>exact⟨i7,i6⟩
theorem CS.Ok.esOk{e:CS}(h:e.Ok):(∀x∈e.es,x.Ok)/\e.es.length*64<=reachBytes:=by
 cases h with
 |mk i1 i2 i3 i4 i5 i6 i7 i8 i9=>exact⟨i5,i4⟩
theorem CS.Ok.thnOk{e:CS}(h:e.Ok):(∀x∈e.thn,x.Ok)/\e.thn.length*96<=reachBytes:=by
 cases h with
 |mk i1 i2 i3 i4 i5 i6 i7 i8 i9=>exact⟨i7,i6⟩
theorem CS.Ok.elsOk{e:CS}(h:e.Ok):(∀x∈e.els,x.Ok)/\e.els.length*96<=reachBytes:=by
 cases h with
 |mk i1 i2 i3 i4 i5 i6 i7 i8 i9=>exact⟨i9,i8⟩
theorem ca{n:Nat}(h:n*64<=reachBytes):n<=maxLen:=by simp only[reachBytes]at h;simp only[maxLen];omega
theorem Xy{n:Nat}(h:n*96<=reachBytes):n<=maxLen:=by simp only[reachBytes]at h;simp only[maxLen];omega
theorem jU{n:Nat}(h:n*56<=reachBytes):n<=maxLen:=by simp only[reachBytes]at h;simp only[maxLen];omega
theorem F4{α:Type}{l:List α}{k:Nat}{x:α}(h:l[k]?=some x):l.drop k=x::l.drop (k+1):=by
 rw[List.drop_eq_getElem_cons (List.getElem?_eq_some_iff.1 h).1,(List.getElem?_eq_some_iff.1 h).2]
theorem KH(e:CE):∀l:List CE,CE.partsL (l++[e])=CE.partsL l+e.parts
 | []=>by simp[CE.partsL]
 |x::l=>by rw[List.cons_append,CE.partsL,CE.partsL,KH e l];omega
theorem KG{l:List CE}{k:Nat}{x:CE}(h:l[k]?=some x):CE.partsL (l.take (k+1))=CE.partsL (l.take k)+x.parts:=by rw[AZ h,KH]
theorem Bu(e:CE):e.parts=1+CE.partsL e.kids:=by cases e;rw[CE.parts];rfl
theorem IT(r:List CE):∀l:List CE,CE.partsL (l++r)=CE.partsL l+CE.partsL r
 | []=>by simp[CE.partsL]
 |x::l=>by rw[List.cons_append,CE.partsL,CE.partsL,IT r l];omega
theorem NZ{l:List CE}(k:Nat):CE.partsL (l.take k)<=CE.partsL l:=by
 have:=IT (l.drop k) (l.take k);rw[List.take_append_drop]at this;omega
theorem DM:∀l:List CE,l.length<=CE.partsL l
 | []=>by simp[CE.partsL]
 |x::l=>by have:=DM l;rw[CE.partsL,List.length_cons,Bu];omega
theorem Jk(e:CS):∀l:List CS,CS.partsL (l++[e])=CS.partsL l+e.parts
 | []=>by simp[CS.partsL]
 |x::l=>by rw[List.cons_append,CS.partsL,CS.partsL,Jk e l];omega
theorem Jj{l:List CS}{k:Nat}{x:CS}(h:l[k]?=some x):CS.partsL (l.take (k+1))=CS.partsL (l.take k)+x.parts:=by rw[AZ h,Jk]
theorem C6(e:CS):e.parts=1+CE.partsL e.es+CS.partsL e.thn+CS.partsL e.els:=by cases e;rw[CS.parts];rfl
theorem Hs(r:List CS):∀l:List CS,CS.partsL (l++r)=CS.partsL l+CS.partsL r
 | []=>by simp[CS.partsL]
 |x::l=>by rw[List.cons_append,CS.partsL,CS.partsL,Hs r l];omega
theorem R6{l:List CS}(k:Nat):CS.partsL (l.take k)<=CS.partsL l:=by
 have:=Hs (l.drop k) (l.take k);rw[List.take_append_drop]at this;omega
theorem Kx:∀l:List CS,l.length<=CS.partsL l
 | []=>by simp[CS.partsL]
 |x::l=>by have:=Kx l;rw[CS.partsL,List.length_cons,C6];omega
theorem Zi(k:Nat)(C:Core):((C.funcs.take k).map fun f=>CS.partsL f.body).sum<=C.parts:=by
 have e:C.parts=((C.funcs.take k++C.funcs.drop k).map fun f=>CS.partsL f.body).sum:=by rw[List.take_append_drop];rfl
 rw[e,List.map_append,List.sum_append];omega
theorem ZN{C:Core}(h0:0<=C.words)(t:Int):(t+1)*8*((C.parts:Int)+C.words+1)=(t+1)*(C.k:Int):=by
 have e:((C.words.toNat:Nat):Int)=C.words:=Int.toNat_of_nonneg h0;unfold Core.k;rw[Int.mul_assoc];congr 1;rw[Int.natCast_mul,Int.natCast_add,Int.natCast_add,e];rfl
theorem T2{C:Core}{t:Int}(hp:C.parts<=1000000)(h0:0<=C.words)(h1:C.words<=1000000)(h2:0<=t)(h3:t<=100000): -9223372036854775808<=(t+1)*(C.k:Int)/\(t+1)*(C.k:Int)<=9223372036854775807:=by
 have hk:(C.k:Int)<=100000000:=by unfold Core.k;omega
 have a:=Int.mul_nonneg (show 0<=t+1 by omega) (Int.natCast_nonneg C.k);have b:=Int.mul_le_mul (show t+1<=100001 by omega) hk (Int.natCast_nonneg _) Ab;omega
section
variable {C : Core} {f level : Int} {w : Bool}
end
section
variable {C : Core} {n : Nat} {e x y : CE}
theorem eG(h:e.ok C n)(hk:e.kind=3):e.kids.length=1/\1<=e.size/\e.size<=4096/\0<=e.slot/\e.slot+e.size<=C.words:=by
 cases e with
 |mk k o num s z kids=>
 rw[CE.ok]at h;simp only[CE.kind]at hk;simp only[CE.slot,CE.size,CE.kids];exact aK
theorem XZ(h:e.ok C n)(hk:e.kind=4):0<=e.slot/\e.slot<n/\∃g,C.funcs[e.slot.toNat]?=some g/\g.word=true/\g.params=e.kids.length/\e.kids.length<=6:=by
 cases e with
 |mk k o num s z kids=>
 rw[CE.ok]at h;simp only[CE.kind]at hk;simp only[CE.slot,CE.kids];exact aK
theorem XY(h:e.ok C n)(h1:e.kind≠1)(h2:e.kind≠2)(h3:e.kind≠3)(h4:e.kind≠4)(h5:e.kind≠5):(e.kind=7/\e.kids.length=1)\/(e.kind=6/\4<=e.op/\e.op<=15/\e.kids.length=2)\/(e.kind=8/\e.kids.length=2)\/(e.kind=9/\e.kids.length=2):=by
 cases e with
 |mk k o num s z kids=>
 rw[CE.ok]at h;simp only[CE.kind]at h1 h2 h3 h4 h5;simp only[CE.kind,CE.op,CE.kids];obtain⟨_,g⟩:=h;rcases g with g|g|g|g|g|g|g|g|g
 . exact absurd g.1 h1
 . exact absurd g.1 h2
 . exact absurd g.1 h3
 . exact absurd g.1 h4
 . exact absurd g h5
 . exact .inr (.inl ⟨g.1,g.2.2.1,g.2.2.2,g.2.1⟩)
 . exact .inl g
 . exact .inr (.inr (.inl g))
 . exact .inr (.inr (.inr g))
theorem T9(h:e.ok C n){x:CE}(hx:x∈e.kids):x.ok C n:=by
 cases e with
 |mk k o num s z kids=>
 rw[CE.ok]at h;exact fd
variable {cl : Cr} {s : ByteArray} {c : CM}
theorem Nk{l:List CE}(h:0<l.length):∃x,l[0]?=some x/\x∈l:=by
 obtain⟨x,hx⟩:=Ah h;exact⟨x,hx,List.mem_of_getElem? hx⟩
theorem ep{l:List CE}(h:1<l.length):∃x,l[1]?=some x/\x∈l:=by
 obtain⟨x,hx⟩:=Ah h;exact⟨x,hx,List.mem_of_getElem? hx⟩
end
section
variable {C : Core} {n : Nat} {w : Bool} {e : CS} {x y : CE} {cl : Cr} {s : ByteArray} {fuel : Int} {c : CM}
theorem Iz(l:List Int)(v:Int):Au l++[[AV.int .u32 v]]=Au (l++[v]):=by simp[Au]
theorem jn(h:e.ok C n w)(hk:e.kind=1):e.es.length=1/\0<=e.slot/\e.slot<C.words:=by
 exact bd
theorem jm(h:e.ok C n w)(hk:e.kind=2):e.es.length=2/\1<=e.size/\e.size<=4096/\0<=e.slot/\e.slot+e.size<=C.words:=by
 cases e with
 |mk k sl z es thn els=>
 rw[CS.ok]at h;simp only[CS.kind]at hk;simp only[CS.slot,CS.size,CS.es];exact cv
theorem jl(h:e.ok C n w)(hk:e.kind=5):e.es.length=1:=by
 exact aS
theorem jk(h:e.ok C n w)(hk:e.kind=6):0<=e.slot/\e.slot<n/\∃g,C.funcs[e.slot.toNat]?=some g/\g.word=false/\g.params=e.es.length/\e.es.length<=6:=by
 exact bd
theorem ji(h:e.ok C n w)(h5:e.kind≠5)(h6:e.kind≠6)(h7:e.kind≠7):0<e.es.length/\(e.kind=1\/e.kind=2\/e.kind=3\/e.kind=4):=by
 cases e with
 |mk k sl z es thn els=>
 rw[CS.ok]at h;simp only[CS.kind]at h5 h6 h7;simp only[CS.kind,CS.es];obtain⟨_,_,_,h2⟩:=h;rcases h2 with h2|h2|h2|h2|h2|h2|h2
 . exact⟨by omega,.inl h2.1⟩
 . exact⟨by omega,.inr (.inl h2.1)⟩
 . exact⟨by omega,.inr (.inr (.inl h2.1))⟩
 . exact⟨by omega,.inr (.inr (.inr h2.1))⟩
 . exact absurd h2.1 h5
 . exact absurd h2.1 h6
 . exact absurd h2.1 h7
theorem Ht(h:e.ok C n w){x:CE}(hx:x∈e.es):x.ok C n:=by
 cases e with
 |mk k sl z es thn els=>
 rw[CS.ok]at h;exact fd
theorem LD{l:List CS}(ho:CS.okL C n w l){x:CS}(hx:x∈l):x.ok C n w:=by
 induction l with
 |nil=>cases hx
 |cons a l ih=>
  rw[CS.okL]at ho;rcases List.mem_cons.1 hx with rfl|hx
  . exact ho.1
  . exact ih ho.2 hx
theorem K4(h:e.ok C n w):CS.okL C n w e.thn:=by cases e;rw[CS.ok]at h;exact h.2.1
theorem K5(h:e.ok C n w):CS.okL C n w e.els:=by cases e;rw[CS.ok]at h;exact h.2.2.1
section
variable {W : Nat} {cond : CM -> Int × CM} {body : CM -> CM} {t : CM} {q : Nat × CM}
end
end
def LowR(h:Ag):Nat->List AObj->Prop
  |_,[]=>True
  |i,o::L=>h i=some o/\LowR h (i+1) L
theorem LowR.get{h:Ag}:∀{L:List AObj} {i c:Nat},LowR h i L->c<L.length->h (i+c)=some (U5 L c)
 |o::L,i,0,hl,_=>hl.1
 |o::L,i,c+1,hl,hc=>by
  have:=LowR.get hl.2 (c:=c) (by simp at hc;omega);rw[show i+(c+1)=i+1+c by omega];exact this
theorem QM:∀{L:List AObj} {c:Nat},L.length<=c->U5 L c=.free
 | [],_,_=>rfl
 |_::L,0,h=>by simp at h
 |_::L,c+1,h=>QM (L:=L) (by simp at h;omega)
def kR(m:Nat):Nat->Bool:=fun c=>(Nat.ble 2 c&&Nat.blt c (m+2))||Nat.ble 16 c
def Az(m:Nat)(h g:Ag):Ag:=fun c=>bif kR m c then g c else h c
theorem QV(m x:Nat):kR m (x+16)=true:=by
 unfold kR;rw[show Nat.ble 16 (x+16)=true by rw[Nat.ble_eq];omega];simp
theorem XA{m c:Nat}(h:kR m c=false):c=0\/c=1\/(m+2<=c/\c<16):=by
 unfold kR at h;simp only[Bool.or_eq_false_iff,Bool.and_eq_false_iff]at h;obtain⟨h1,h2⟩:=h;have h3:¬16<=c:=fun e=>by rw[<-Nat.ble_eq]at e;rw[e]at h2;cases h2
 rcases h1 with h1|h1
 . have:¬2<=c:=fun e=>by rw[<-Nat.ble_eq]at e;rw[e]at h1;cases h1
   omega
 . have:¬c<m+2:=fun e=>by
    have:Nat.blt c (m+2)=true:=by unfold Nat.blt;rw[Nat.ble_eq];omega
    rw[this]at h1;cases h1
   omega
theorem Pb{m c:Nat}(h:kR m c=true):(2<=c/\c<m+2)\/16<=c:=by
 unfold kR at h;simp only[Bool.or_eq_true,Bool.and_eq_true,Nat.ble_eq]at h;rcases h with⟨h1,h2⟩|h
 . left;refine⟨h1,?_⟩;unfold Nat.blt at h2;rw[Nat.ble_eq]at h2;omega
 . exact .inr h
theorem BL(m:Nat)(h g:Ag)(x:Nat):Az m h g (x+16)=g (x+16):=by unfold Az;rw[QV];rfl
theorem BV{m:Nat}{h g:Ag}{c:Nat}(hc:kR m c=true):Az m h g c=g c:=by unfold Az;rw[hc];rfl
theorem K8{m:Nat}{h g:Ag}{c:Nat}(hc:kR m c=false):Az m h g c=h c:=by unfold Az;rw[hc];rfl
abbrev RH(L:List AObj)(F:Nat->AObj):Ag:=Gj (nb (.free:: .free::L)) F
section
variable {m : Nat} {L L' : List AObj} {F F' : Nat -> AObj} {h : Ag}
theorem Yx(F:Nat->AObj)(hL:L.length=m)(hm:m<=14){i:Nat}(hi:i<m):RH L F (2+i)=some (U5 L i):=by
 show Gj (nb _) F (2+i)=_;rw[Gi _ _ Aa];unfold nb;congr 1;rw[Nat.add_comm 2 i];rfl
theorem N0{p:AObj->Prop}(h:∀o∈L,p o)(hf:p .free):∀i,p (U5 L i):=by
 induction L with
 |nil=>intro i;exact hf
 |cons o L ih=>
  intro i
  cases i with
  |zero=>exact h o (List.mem_cons.2 (.inl rfl))
  |succ i=>exact ih (fun q hq=>h q (List.mem_cons.2 (.inr hq))) i
theorem M4(hL:L.length=m)(hm:m<=14)(hA:∀o∈L,o.avoid (kR m)=true)(hF:∀x,(F x).avoid (kR m)=true){c:Nat}(hc:kR m c=true):∃q,RH L F c=some q/\q.avoid (kR m)=true:=by
 rcases Pb hc with h|h
 . obtain⟨i,rfl⟩:∃i,c=2+i:=⟨c-2,by omega⟩
   exact⟨_,Yx F hL hm Aa,N0 hA rfl i⟩
 . obtain⟨x,rfl⟩:∃x,c=x+16:=⟨c-16,by omega⟩
   exact⟨_,Ax _ _ _,hF x⟩
theorem Uh(hL:L.length=m)(hm:m<=14)(h1:LowR h 2 L)(h2:∀x,h (x+16)=some (F x)){c:Nat}(hc:kR m c=true):h c=RH L F c:=by
 rcases Pb hc with hh|hh
 . obtain⟨i,rfl⟩:∃i,c=2+i:=⟨c-2,by omega⟩
   rw[Yx F hL hm Aa];exact h1.get Aa
 . obtain⟨x,rfl⟩:∃x,c=x+16:=⟨c-16,by omega⟩
   rw[h2];exact(Ax _ _ _).symm
theorem QW(hL:L.length=m)(hm:m<=14)(h1:LowR h 2 L)(h2:∀x,h (x+16)=some (F x)):En h (kR m)=RH L F:=funext fun c=>by
 unfold En
 cases e:kR m c with
 |true=>exact Uh hL hm h1 h2 e
 |false=>
  rcases XA e with rfl|rfl|hc
  . rfl
  . rfl
  . show some AObj.free=Gj (nb (.free:: .free::L)) F c;rw[Gi _ _ Aa];show some AObj.free=some (U5 (.free:: .free::L) c);rw[QM (by show L.length+1+1<=c;omega)]
theorem Am{P:Program}{o:Oper}{e:AN}{g:FuncId}{fn:Func}{args:Array Operand}{tys:Array TypeId}{xs:List AV}{r:AV}(m:Nat)(L L':List AObj){F:Nat->AObj}(F':Nat->AObj)
 (ho:o.op=.call {callee:=.value (.func g),args:=args,argTypes:=tys}) (hf:P.funcs[g]?=some fn) (hn:(fn.name== "runtime.NumGoroutine")=false) (hb:fn.body.isSome=true) (hx:Bo e args.toList=some xs)
 (hxa:xs.all (AV.avoid (kR m))=true) (hL:L.length=m) (hL':L'.length=m) (hm:m<=14) (hA:∀o∈L,o.avoid (kR m)=true) (hA':∀o∈L',o.avoid (kR m)=true) (h1:LowR h 2 L) (h2:∀x,h (x+16)=some (F x)) (hF:∀x,(F x).avoid (kR m)=true) (hF':∀x,(F' x).avoid (kR m)=true) (hra:r.avoid (kR m)=true)
 (hcall:ACall P g xs (RH L F) (fun r' h'=>r'=r/\HSub (Az m hNone (RH L' F')) h')):HT P o e h (Az m h (RH L' F')) r:=
 TR (hw:=Az m hNone (RH L' F')) (kR m) ho hf hn hb hx hxa (fun b hb=>by rw[Uh hL hm h1 h2 hb];exact M4 hL hm hA hF hb) (QW hL hm h1 h2) (fun b hb=>K8 hb)
  gd hra hcall
theorem L9{P:Program}{o:Oper}{e:AN}{g:FuncId}{fn:Func}{x:Operand}{args:Array Operand}{tys:Array TypeId}{fs xs cs:List AV}{r:AV}(m:Nat)(L L':List AObj){F:Nat->AObj}(F':Nat->AObj)
 (ho:o.op=.call {callee:=.value x,args:=args,argTypes:=tys}) (hfn:AA e x=some (.fn (.func g) fs cs)) (hf:P.funcs[g]?=some fn) (hn:(fn.name== "runtime.NumGoroutine")=false) (hb:fn.body.isSome=true) (hx:Bo e args.toList=some xs)
 (hxa:(fs++xs++cs).all (AV.avoid (kR m))=true) (hL:L.length=m) (hL':L'.length=m) (hm:m<=14) (hA:∀o∈L,o.avoid (kR m)=true) (hA':∀o∈L',o.avoid (kR m)=true) (h1:LowR h 2 L) (h2:∀x,h (x+16)=some (F x)) (hF:∀x,(F x).avoid (kR m)=true) (hF':∀x,(F' x).avoid (kR m)=true) (hra:r.avoid (kR m)=true)
 (hcall:ACall P g (fs++xs++cs) (RH L F) (fun r' h'=>r'=r/\HSub (Az m hNone (RH L' F')) h')):HT P o e h (Az m h (RH L' F')) r:=
 Xg (hw:=Az m hNone (RH L' F')) (kR m) ho hfn hf hn hb hx hxa (fun b hb=>by rw[Uh hL hm h1 h2 hb];exact M4 hL hm hA hF hb) (QW hL hm h1 h2) (fun b hb=>K8 hb)
  gd hra hcall
theorem B6(hL:L.length=m)(hm:m<=14)(h1:LowR h 2 L)(h2:∀x,h (x+16)=some (F x)):HSub (Az m hNone (RH L F)) h:=fun c o ho=>by
 cases e:kR m c with
 |true=>rw[BV e]at ho;rw[Uh hL hm h1 h2 e];exact ho
 |false=>rw[K8 e]at ho;cases ho
end
structure M8(C:Core):Prop where
  w0:0<=C.words
  w1:C.words<=32768
  n0:1<=C.funcs.length
  n1:C.funcs.length<=64
  fn:∀g∈C.funcs,0<=g.params/\g.params<=6/\g.params<=g.slots/\0<=g.first/\g.first+g.slots<=C.words
def FP(i:Nat)(x:Block):List AV:=[IJ (i+16) (x.ins.map Tac.cells),.int .i64 x.fin,.int .i64 x.v,.int .i64 x.to,.int .i64 x.els]
def By(l:List Block):List (List AV):=l.zipIdx.map fun p=>FP p.2 p.1
def JN(l:List Block)(i:Nat):List Tac:=((l[i]?).map Block.ins).getD []
def Ai(l:List Block):Nat->AObj:=fun i=>NG 8 ((JN l i).map Tac.cells)
abbrev DY(C:Core)(w:Bool)(b:Bd):List AV:=[.lst false (C.funcs.map CFn.cells),.int .i64 C.words,.bool w,.int .i64 b.regs,.ref 3 b.blocks.length 0 b.blocks.length,.int .i64 (b.now:Int)]
abbrev bL(C:Core)(w:Bool)(b:Bd):List AObj:=[.row false 6 [DY C w b],.row false 5 (By b.blocks)]
theorem BR(l:List Block):(By l).length=l.length:=by simp[By]
theorem DX{l:List Block}{i:Nat}{x:Block}(h:l[i]?=some x):(By l)[i]?=some (FP i x):=by
 unfold By;rw[List.getElem?_map,BK h];rfl
theorem Ii{l:List Block}{i:Nat}{x:Block}{g:Block->Block}(h:l[i]?=some x):(By l).set i (FP i (g x))=By (l.modify i g):=by
 refine List.ext_getElem? fun j=>?_
 rw[List.getElem?_set,BR];have hi:=(List.getElem?_eq_some_iff.1 h).1
 by_cases hj:i=j
 . subst hj;rw[if_pos rfl,if_pos hi];refine(DX ?_).symm;rw[List.getElem?_modify,h];simp
 . rw[if_neg hj]
   cases e:l[j]? with
   |none=>
    rw[List.getElem?_eq_none (by rw[BR];exact List.getElem?_eq_none_iff.1 e),List.getElem?_eq_none (by rw[BR,List.length_modify];exact List.getElem?_eq_none_iff.1 e)]
   |some y=>
    rw[DX e,DX (x:=y) (by rw[List.getElem?_modify,e];simp[hj])]
theorem Tf(l:List Block)(x:Block):By (l++[x])=By l++[FP l.length x]:=by
 refine List.ext_getElem? fun j=>?_
 by_cases hj:j<l.length
 . obtain⟨y,hy⟩:=Ah hj;rw[DX (x:=y) (by rw[List.getElem?_append_left hj];exact hy),List.getElem?_append_left (by rw[BR];exact hj),DX hy]
 . by_cases hj2:j=l.length
   . subst hj2;rw[DX (x:=x) (by rw[List.getElem?_append_right (Nat.le_refl _),Nat.sub_self];rfl),List.getElem?_append_right (by rw[BR];omega),BR,Nat.sub_self];rfl
   . rw[List.getElem?_eq_none (by rw[BR,List.length_append];simp;omega),List.getElem?_eq_none (by rw[List.length_append,BR];simp;omega)]
theorem ay{l:List Block}{i:Nat}{x:Block}(h:l[i]?=some x):JN l i=x.ins:=by unfold JN;rw[h];rfl
theorem Uc{l:List Block}{i:Nat}{x:Block}(h:l[i]?=some x):Ai l i=NG 8 (x.ins.map Tac.cells):=by unfold Ai;rw[ay h]
theorem OD{l l':List Block}(h:∀i,JN l' i=JN l i):Ai l'=Ai l:=funext fun i=>by unfold Ai;rw[h]
theorem VI{l:List Block}{x:Block}(hx:x.ins=[])(i:Nat):JN (l++[x]) i=JN l i:=by
 unfold JN
 by_cases hj:i<l.length
 . rw[List.getElem?_append_left hj]
 . rw[List.getElem?_eq_none (l:=l) Aa]
   by_cases hj2:i=l.length
   . subst hj2;rw[List.getElem?_append_right (Nat.le_refl _),Nat.sub_self];show((some x).map Block.ins).getD []=_;exact hx
   . rw[List.getElem?_eq_none (by rw[List.length_append];simp;omega)]
theorem Yq{l:List Block}{k:Nat}{g:Block->Block}(hg:∀x,(g x).ins=x.ins)(i:Nat):JN (l.modify k g) i=JN l i:=by
 unfold JN;rw[List.getElem?_modify]
 cases l[i]? with
 |none=>rfl
 |some x=>by_cases h:k=i<;>simp[h,hg]
theorem Ys{l:List Block}{k:Nat}{x:Block}{t:Tac}(h:l[k]?=some x)(y:Nat):Ai (l.modify k fun x=>x.mid (x.ins++[t])) y=if y=k then NG 8 (x.ins.map Tac.cells++[t.cells])else Ai l y:=by
 unfold Ai JN;rw[List.getElem?_modify]
 by_cases hy:y=k
 . subst hy;rw[if_pos rfl,h];simp[Block.mid]
 . rw[if_neg hy]
   cases l[y]? with
   |none=>rfl
   |some z=>simp[Ne.symm hy]
theorem Tg{k:Nat->Bool}(hk:∀x,k (x+16)=true)(i:Nat)(x:Block):(FP i x).all (AV.avoid k)=true:=by
 simp only[FP,List.all_cons,List.all_nil,Bool.and_true,Bool.and_eq_true];exact⟨Gp _ (hk _),rfl,rfl,rfl,rfl⟩
theorem CC{k:Nat->Bool}(hk:∀x,k (x+16)=true)(l:List Block):(AObj.row false 5 (By l)).avoid k=true:=by
 show(By l).all (fun cs=>cs.all (AV.avoid k))=true;refine List.all_eq_true.2 fun cs hc=>?_
 obtain⟨p,_,rfl⟩:=List.mem_map.1 hc;exact Tg hk _ _
theorem Ac{k:Nat->Bool}(l:List Block)(x:Nat):(Ai l x).avoid k=true:=DT _ _
theorem Af(C:Core)(w:Bool)(b:Bd):∀o∈bL C w b,o.avoid (kR 2)=true:=fun o ho=>by
 simp only[bL,List.mem_cons,List.not_mem_nil,or_false]at ho;rcases ho with rfl|rfl
 . rfl
 . exact CC (QV 2) _
theorem VJ{l:List Block}{i:Nat}(h:l.length<=i):JN l i=[]:=by unfold JN;rw[List.getElem?_eq_none h];rfl
theorem UG(l:List Tac):∀cs∈l.map Tac.cells,cs.length=8:=fun cs hc=>by
 obtain⟨t,_,rfl⟩:=List.mem_map.1 hc;rfl
theorem RZ(l:List Tac):∀cs∈l.map Tac.cells,cs.all AV.isPure1=true:=fun cs hc=>by
 obtain⟨t,_,rfl⟩:=List.mem_map.1 hc;rfl
theorem OG(C:Core)(w:Bool)(b:Bd)(t:Tac):DY C w (b.put t)=[.lst false (C.funcs.map CFn.cells),.int .i64 C.words,.bool w,.int .i64 (max b.regs (t.d+1)),.ref 3 b.blocks.length 0 b.blocks.length,.int .i64 (b.now:Int)]:=by
 have e:(b.put t).blocks.length=b.blocks.length:=List.length_modify ..;show([AV.lst false (C.funcs.map CFn.cells),AV.int .i64 C.words,AV.bool w,AV.int .i64 (max b.regs (t.d+1)),AV.ref 3 (b.put t).blocks.length 0 (b.put t).blocks.length,AV.int .i64 (b.now:Int)]:List AV)=_;rw[e]
theorem Yp{b:Bd}{x:Block}(t:Tac)(hx:b.blocks[b.now]?=some x):(By b.blocks).set b.now ((FP b.now x).set 0 (IJ (b.now+16) (x.ins.map Tac.cells++[t.cells])))=By (b.put t).blocks:=by
 have h:=Ii (g:=fun x=>x.mid (x.ins++[t])) hx;refine Eq.trans ?_ h;congr 1;show [IJ (b.now+16) (x.ins.map Tac.cells++[t.cells]),_,_,_,_]=[IJ (b.now+16) ((x.ins++[t]).map Tac.cells),_,_,_,_];rw[List.map_append];rfl
theorem OC{b:Bd}{x:Block}(t:Tac)(hx:b.blocks[b.now]?=some x):(By b.blocks).set b.now ((FP b.now x).set 0 (.ref (b.now+16) ((x.ins.map Tac.cells).length+1) 0 ((x.ins.map Tac.cells).length+1)))=By (b.put t).blocks:=by
 rw[<-Yp t hx,P9]
theorem VM{b:Bd}{x:Block}{t:Tac}(h:b.blocks[b.now]?=some x)(y:Nat):Ai (b.put t).blocks y=if y=b.now then .row true 8 (x.ins.map Tac.cells++[t.cells])else Ai b.blocks y:=by
 rw[<-P8];exact Ys h y
def Wkb(x y:AV):Prop:=(x.cell1=true->y.cell1=true)/\∀H ι v,Rel H ι x v->Rel H ι y v
theorem Wkb.refl(x:AV):Wkb x x:=⟨fun h=>h,fun _ _ _ h=>h⟩
theorem Wkb.nil(b:Nat):Wkb .nil (IJ b []):=⟨fun _=>rfl,fun H ι v h=>by
 rw[h.nil_inv];exact .lst0 _ _ _ _ (fun _=>rfl) (Nat.zero_le _) (fun _=>rfl) trivial⟩
theorem Wo{es:List (List AV)}{f v t l x:AV}(b:Nat):∀(i:Nat) (ds ds':List AV),(es++[[.nil,f,v,t,l]])[i]?=some ds->(es++[[IJ b [],f,v,t,l]])[i]?=some ds'->ds'.length=ds.length/\∀(j:Nat) (a c:AV),ds[j]?=some a->ds'[j]?=some c->(a.cell1=true->c.cell1=true)/\∀H ι v,Rel H ι a v->Rel H ι c v:=fun i ds ds' h1 h2=>by
 rcases Nat.lt_or_ge i es.length with hi|hi
 . rw[List.getElem?_append_left hi]at h1 h2;rw[h1]at h2;cases h2;exact⟨rfl,fun j a c g1 g2=>by rw[g1]at g2;cases g2;exact Wkb.refl a⟩
 . rw[List.getElem?_append_right hi]at h1 h2
   cases e:i-es.length with
   |zero=>
    rw[e]at h1 h2
    cases h1;cases h2
    refine⟨rfl,fun j a c g1 g2=>?_⟩
    cases j with
    |zero=>cases g1;cases g2;exact Wkb.nil b
    |succ j=>
     have:[AV.nil,f,v,t,l][j+1]?=[IJ b [],f,v,t,l][j+1]?:=rfl;rw[this,g2]at g1;cases g1;exact Wkb.refl _
   |succ k=>rw[e]at h1;simp at h1
theorem OE(C:Core)(w:Bool)(b:Bd)(g:Block->Block):DY C w (b.upd g)=DY C w b:=by
 have e:(b.upd g).blocks.length=b.blocks.length:=List.length_modify ..;show([AV.lst false (C.funcs.map CFn.cells),AV.int .i64 C.words,AV.bool w,AV.int .i64 b.regs,AV.ref 3 (b.upd g).blocks.length 0 (b.upd g).blocks.length,AV.int .i64 (b.now:Int)]:List AV)=_;rw[e]
theorem M1(b:Bd){g:Block->Block}(hg:∀x,(g x).ins=x.ins):Ai (b.upd g).blocks=Ai b.blocks:=OD fun i=>Yq hg i
theorem VO(b:Bd)(to:Nat):Ai (b.jump to).blocks=Ai b.blocks:=M1 b (g:=fun x=>{x with fin:=1,to:=(to:Int)}) fun _=>rfl
theorem VP(b:Bd)(v to els:Nat):Ai (b.fork v to els).blocks=Ai b.blocks:=M1 b (g:=fun x=>{x with fin:=2,v:=(v:Int),to:=(to:Int),els:=(els:Int)}) fun _=>rfl
theorem Yr(b:Bd):Ai b.ret.blocks=Ai b.blocks:=M1 b (g:=fun x=>{x with fin:=3}) fun _=>rfl
theorem VN(b:Bd):Ai b.opened.blocks=Ai b.blocks:=OD fun i=>VI rfl i
theorem VE(b:Bd):By b.blocks++[FP b.blocks.length blk0]=By b.opened.blocks:=(Tf _ _).symm
theorem Tj(C:Core)(w:Bool)(b:Bd):DY C w b.opened=[.lst false (C.funcs.map CFn.cells),.int .i64 C.words,.bool w,.int .i64 b.regs,.ref 3 (b.blocks.length+1) 0 (b.blocks.length+1),.int .i64 (b.now:Int)]:=by
 show([AV.lst false (C.funcs.map CFn.cells),AV.int .i64 C.words,AV.bool w,AV.int .i64 b.regs,AV.ref 3 b.opened.blocks.length 0 b.opened.blocks.length,AV.int .i64 (b.now:Int)]:List AV)=_;rw[Aq]
section
variable {b : Bd} {x : Block} (hx : b.blocks[b.now]? = some x)
include hx
theorem VF(to:Nat):((By b.blocks).set b.now ((FP b.now x).set 1 (.int .i64 1))).set b.now (((FP b.now x).set 1 (.int .i64 1)).set 3 (.int .i64 (to:Int)))=By (b.jump to).blocks:=by
 rw[List.set_set];exact Ii (g:=fun x=>{x with fin:=1,to:=(to:Int)}) hx
theorem VG(v to els:Nat):((((By b.blocks).set b.now ((FP b.now x).set 1 (.int .i64 2))).set b.now (((FP b.now x).set 1 (.int .i64 2)).set 2 (.int .i64 (v:Int)))).set b.now ((((FP b.now x).set 1 (.int .i64 2)).set 2 (.int .i64 (v:Int))).set 3 (.int .i64 (to:Int)))).set b.now (((((FP b.now x).set 1 (.int .i64 2)).set 2 (.int .i64 (v:Int))).set 3 (.int .i64 (to:Int))).set 4 (.int .i64 (els:Int)))=By (b.fork v to els).blocks:=by
 rw[List.set_set,List.set_set,List.set_set];exact Ii (g:=fun x=>{x with fin:=2,v:=(v:Int),to:=(to:Int),els:=(els:Int)}) hx
theorem Yo:(By b.blocks).set b.now ((FP b.now x).set 1 (.int .i64 3))=By b.ret.blocks:=Ii (g:=fun x=>{x with fin:=3}) hx
end
def Bd.cnt(b:Bd):Nat:=b.blocks.length+(b.blocks.map fun x=>x.ins.length).sum
theorem DK{b:Bd}{i:Nat}{x:Block}(h:b.blocks[i]?=some x):x.ins.length<=b.cnt:=by
 have:=SL (p:=fun x:Block=>x.ins.length) (List.mem_of_getElem? h);unfold Bd.cnt;omega
theorem If(b:Bd):b.blocks.length<=b.cnt:=by unfold Bd.cnt;omega
theorem R0{l:List Block}{k:Nat}{x:Block}{g:Block->Block}(h:l[k]?=some x):((l.modify k g).map fun x=>x.ins.length).sum+x.ins.length=(l.map fun x=>x.ins.length).sum+(g x).ins.length:=by
 induction l generalizing k with
 |nil=>simp at h
 |cons y l ih=>
  cases k with
  |zero=>simp at h;subst h;simp[List.modify];omega
  |succ k=>
   have:=ih (k:=k) Ko;simp only[List.modify_succ_cons,List.map_cons,List.sum_cons];omega
theorem JI{b:Bd}{x:Block}(t:Tac)(h:b.blocks[b.now]?=some x):(b.put t).cnt=b.cnt+1:=by
 have h1:((b.blocks.modify b.now fun x=>x.mid (x.ins++[t])).map fun x=>x.ins.length).sum+x.ins.length=(b.blocks.map fun x=>x.ins.length).sum+(x.mid (x.ins++[t])).ins.length:=R0 (g:=fun x=>x.mid (x.ins++[t])) h;have h2:(b.put t).blocks.length=b.blocks.length:=List.length_modify ..;unfold Bd.cnt;rw[h2];show _+((b.blocks.modify b.now fun x=>x.mid (x.ins++[t])).map fun x=>x.ins.length).sum=_;have h3:(x.mid (x.ins++[t])).ins.length=x.ins.length+1:=by simp[Block.mid]
 omega
theorem Pq{b:Bd}{g:Block->Block}(hg:∀x,(g x).ins=x.ins):(b.upd g).cnt=b.cnt:=by
 have h2:(b.upd g).blocks.length=b.blocks.length:=List.length_modify ..;unfold Bd.cnt;rw[h2];congr 1;show((b.blocks.modify b.now g).map fun x=>x.ins.length).sum=_;have key:∀(l:List Block) (k:Nat),(l.modify k g).map (fun x=>x.ins.length)=l.map fun x=>x.ins.length:=fun l=>by
  induction l with
  |nil=>intro k;simp
  |cons y l ih=>
   intro k
   cases k with
   |zero=>simp[List.modify,hg]
   |succ k=>simp[List.modify_succ_cons,ih]
 rw[key]
theorem A0(b:Bd):b.opened.cnt=b.cnt+1:=by
 unfold Bd.cnt;rw[Aq];show _+((b.blocks++[blk0]).map fun x=>x.ins.length).sum=_
 simp;omega
theorem Pk{F G:Nat->AObj}(h:F=G)(x:Nat):some (F x)=some (G x):=by rw[h]
abbrev r8:AObj:=.row false 1 [[.ptr 2 1 0 0]]
abbrev Gl(C:Core)(w:Bool)(b:Bd)(o4 o5 o6:AObj):List AObj:=[.row false 6 [DY C w b],.row false 5 (By b.blocks),o4,o5,o6]
abbrev V1(C:Core)(w:Bool)(b:Bd)(o4 o5 o6 o9:AObj):List AObj:=[.row false 6 [DY C w b],.row false 5 (By b.blocks),o4,o5,o6,.free,r8,o9]
structure cm(o4 o5 o6:AObj):Prop where
  a5:o4.avoid (kR 5)=true/\o5.avoid (kR 5)=true/\o6.avoid (kR 5)=true
  a8:o4.avoid (kR 8)=true/\o5.avoid (kR 8)=true/\o6.avoid (kR 8)=true
theorem C9(C:Core)(w:Bool)(b:Bd){o4 o5 o6:AObj}(h:cm o4 o5 o6):∀o∈Gl C w b o4 o5 o6,o.avoid (kR 5)=true:=fun o ho=>by
 simp only[Gl,List.mem_cons,List.not_mem_nil,or_false]at ho;rcases ho with rfl|rfl|rfl|rfl|rfl
 . rfl
 . exact CC (QV 5) _
 . exact h.a5.1
 . exact h.a5.2.1
 . exact h.a5.2.2
theorem Ij(C:Core)(w:Bool)(b:Bd){o4 o5 o6 o9:AObj}(h:cm o4 o5 o6)(h9:o9.avoid (kR 8)=true):∀o∈V1 C w b o4 o5 o6 o9,o.avoid (kR 8)=true:=fun o ho=>by
 simp only[V1,List.mem_cons,List.not_mem_nil,or_false]at ho;rcases ho with rfl|rfl|rfl|rfl|rfl|rfl|rfl|rfl
 . rfl
 . exact CC (QV 8) _
 . exact h.a8.1
 . exact h.a8.2.1
 . exact h.a8.2.2
 . rfl
 . rfl
 . exact h9
def rL(N:Nat):List Nat:=2::3::eC (fun x=>x+16) N
def rW(o2 o3:AObj)(F:Nat->AObj)(N:Nat):List (Nat×AObj):=(2,o2)::(3,o3)::K0 (fun x=>x+16) F N
theorem TM(N:Nat):mem (rL N) 2=true/\mem (rL N) 3=true:=⟨mem_iff.2 (by simp[rL]),mem_iff.2 (by simp[rL])⟩
theorem WW{N x:Nat}(h:x<N):mem (rL N) (x+16)=true:=mem_iff.2 (by unfold rL;exact List.mem_cons_of_mem _ (List.mem_cons_of_mem _ (famL_mem.2 ⟨x,h,rfl⟩)))
theorem O5{N b:Nat}(h:b∈rL N):b=2\/b=3\/∃x,x<N/\b=x+16:=by
 unfold rL at h;rcases List.mem_cons.1 h with h|h
 . exact .inl h
 rcases List.mem_cons.1 h with h|h
 . exact .inr (.inl h)
 . exact .inr (.inr (famL_mem.1 h))
theorem IA{h:Ag}{o2 o3:AObj}{F:Nat->AObj}{N c:Nat}(hc:c<16):AB h (rW o2 o3 F N) c=if c=2 then some o2 else if c=3 then some o3 else h c:=by
 show AB (Ar (Ar h 2 o2) 3 o3) (K0 (fun x=>x+16) F N) c=_;rw[HJ _ (fun i _=>by omega)]
 by_cases h2:c=2
 . subst h2;rfl
 . by_cases h3:c=3
   . subst h3;rfl
   . rw[if_neg h2,if_neg h3,Bb _ _ h3,Bb _ _ h2]
theorem Fx{h:Ag}{o2 o3:AObj}{F:Nat->AObj}{N c:Nat}(hc:c<16)(h2:c≠2)(h3:c≠3):AB h (rW o2 o3 F N) c=h c:=by rw[IA hc,if_neg h2,if_neg h3]
theorem LW{h:Ag}{o2 o3:AObj}{F F':Nat->AObj}{N:Nat}(hh:∀x,h (x+16)=some (F x))(h1:∀x,N<=x->F x=.free)(h2:∀x,N<=x->F' x=.free)(x:Nat):AB h (rW o2 o3 F' N) (x+16)=some (F' x):=by
 show AB (Ar (Ar h 2 o2) 3 o3) (K0 (fun x=>x+16) F' N) (x+16)=_
 by_cases hx:x<N
 . exact T6 (fun i j e=>by omega) _ hx
 . rw[HJ _ (fun i hi=>by omega),Bb _ _ Aa,Bb _ _ Aa,hh,h1 x Aa,h2 x Aa]
theorem B3{l:List Block}{x:Nat}(h:l.length<=x):Ai l x=.free:=by unfold Ai;rw[VJ h];rfl
theorem JM{l:List Block}{N:Nat}(h:l.length<=N):(AObj.row false 5 (By l)).avoid (mem (rL N))=true:=by
 show(By l).all (fun cs=>cs.all (AV.avoid (mem (rL N))))=true;refine List.all_eq_true.2 fun cs hc=>?_
 obtain⟨i,hi⟩:=List.mem_iff_getElem?.1 hc;have hil:=(List.getElem?_eq_some_iff.1 hi).1;rw[BR]at hil;obtain⟨x,hx⟩:=Ah hil;rw[DX hx]at hi
 cases hi
 simp only[FP,List.all_cons,List.all_nil,Bool.and_true,Bool.and_eq_true];exact⟨Gp _ (WW Aa),rfl,rfl,rfl,rfl⟩
theorem BW{P:Program}{o:Oper}{e:AN}{h:Ag}{g:FuncId}{fn:Func}{args:Array Operand}{tys:Array TypeId}{xs:List AV}{r:AV}(C:Core)(w:Bool)(b b':Bd)(N:Nat)(hN:b.blocks.length<=N)(hN':b'.blocks.length<=N)
 (ho:o.op=.call {callee:=.value (.func g),args:=args,argTypes:=tys}) (hf:P.funcs[g]?=some fn) (hn:(fn.name== "runtime.NumGoroutine")=false) (hb:fn.body.isSome=true) (hx:Bo e args.toList=some xs)
 (hxa:xs.all (AV.avoid (mem (rL N)))=true) (h1:LowR h 2 (bL C w b)) (h2:∀x,h (x+16)=some (Ai b.blocks x)) (hra:r.avoid (mem (rL N))=true)
 (hcall:ACall P g xs (RH (bL C w b) (Ai b.blocks)) (fun r' h'=>r'=r/\HSub (Az 2 hNone (RH (bL C w b') (Ai b'.blocks))) h')):
 OLoc P o e h (rL N) (rW (.row false 6 [DY C w b']) (.row false 5 (By b'.blocks)) (Ai b'.blocks) N) (some r):=by
 refine Xi (hc:=RH (bL C w b) (Ai b.blocks)) (hw:=Az 2 hNone (RH (bL C w b') (Ai b'.blocks))) (rL N) (rW (.row false 6 [DY C w b']) (.row false 5 (By b'.blocks)) (Ai b'.blocks) N) ho hf hn hb hx hxa (PH fun c hc=>?_) ?_ ?_ (PH fun c hc=>?_) hra hcall
 . rcases O5 hc with rfl|rfl|⟨x,hx,rfl⟩
   . exact⟨_,h1.1,rfl⟩
   . exact⟨_,h1.2.1,JM hN⟩
   . exact⟨_,h2 x,DT _ _⟩
 . show(rW _ _ _ N).all (fun p=>mem (rL N) p.1)=true;unfold rW;rw[List.all_cons,List.all_cons,Bool.and_eq_true,Bool.and_eq_true];exact⟨(TM N).1,(TM N).2,XT _ _ _ _ fun i hi=>WW hi⟩
 . funext c;unfold hres
   cases hm:mem (rL N) c with
   |true=>
    rcases O5 (mem_iff.1 hm)with rfl|rfl|⟨x,hx,rfl⟩
    . exact h1.1
    . exact h1.2.1
    . exact(h2 x).trans (Ax _ _ _).symm
   |false=>
    show some AObj.free=RH (bL C w b) (Ai b.blocks) c
    by_cases hc:c<16
    . have c2:c≠2:=fun e=>by subst e;rw[(TM N).1]at hm;cases hm
      have c3:c≠3:=fun e=>by subst e;rw[(TM N).2]at hm;cases hm
      show _=Gj (nb _) _ c;rw[Gi _ _ hc];unfold nb;congr 1
      match c,c2,c3 with
      |0,_,_=>rfl
      |1,_,_=>rfl
      |2,h,_=>exact absurd rfl h
      |3,_,h=>exact absurd rfl h
      |c+4,_,_=>rfl
    . obtain⟨x,rfl⟩:∃x,c=x+16:=⟨c-16,by omega⟩
      have hxN:N<=x:=by
       rcases Nat.lt_or_ge x N with hx|hx
       . rw[WW hx]at hm;cases hm
       . exact hx
      exact((Ax _ _ _).trans (congrArg some (B3 (Nat.le_trans hN hxN)))).symm
 . rcases O5 hc with rfl|rfl|⟨x,hx,rfl⟩
   . exact⟨_,BV rfl,IA Aa,rfl⟩
   . exact⟨_,BV rfl,IA Aa,JM hN'⟩
   . exact⟨_,(BL _ _ _ x).trans (Ax _ _ _),LW h2 (fun y hy=>B3 (Nat.le_trans hN hy)) (fun y hy=>B3 (Nat.le_trans hN' hy)) x,DT _ _⟩
def GC(b:Nat):Nat:=if b=3 then 2 else if b<16 then b else 2
theorem Sg(N:Nat):IE GC (rL N) [2]:=fun b hb=>by
 rcases O5 hb with rfl|rfl|⟨x,hx,rfl⟩
 . simp[GC]
 . simp[GC]
 . have:GC (x+16)=2:=by unfold GC;rw[if_neg Aa,if_neg Aa]
   rw[this];simp
theorem WV(o2 o3:AObj)(F:Nat->AObj)(N:Nat):IE GC ((rW o2 o3 F N).map (·.1)) [2]:=fun b hb=>by
 refine Sg N b ?_;unfold rW at hb;unfold rL;rw[List.map_cons,List.map_cons]at hb;rcases List.mem_cons.1 hb with hb|hb
 . exact List.mem_cons.2 (.inl hb)
 rcases List.mem_cons.1 hb with hb|hb
 . exact List.mem_cons_of_mem _ (List.mem_cons.2 (.inl hb))
 . refine List.mem_cons_of_mem _ (List.mem_cons_of_mem _ ?_);obtain⟨p,hp,rfl⟩:=List.mem_map.1 hb;unfold K0 at hp;obtain⟨i,hi,rfl⟩:=List.mem_map.1 hp;exact famL_mem.2 ⟨i,List.mem_range.1 hi,rfl⟩
theorem Bl(b:Bd)(t:Tac):(b.put t).cnt<=b.cnt+1:=by
 cases h:b.blocks[b.now]? with
 |some x=>rw[JI t h];omega
 |none=>
  have e:(b.put t).blocks=b.blocks:=by
   show b.blocks.modify b.now _=b.blocks;refine List.ext_getElem? fun i=>?_
   rw[List.getElem?_modify]
   by_cases hi:b.now=i
   . subst hi;rw[h];rfl
   . cases b.blocks[i]?<;>simp[hi]
  unfold Bd.cnt;rw[e];omega
theorem B8(b:Bd)(n:Nat):(b.go n).cnt=b.cnt:=rfl
theorem JJ(b:Bd)(to:Nat):(b.jump to).cnt=b.cnt:=Pq (b:=b) (g:=fun x=>{x with fin:=1,to:=(to:Int)}) fun _=>rfl
theorem EN(b:Bd)(v to els:Nat):(b.fork v to els).cnt=b.cnt:=Pq (b:=b) (g:=fun x=>{x with fin:=2,v:=(v:Int),to:=(to:Int),els:=(els:Int)}) fun _=>rfl
theorem Z7(b:Bd):b.ret.cnt=b.cnt:=Pq (b:=b) (g:=fun x=>{x with fin:=3}) fun _=>rfl
theorem JK(b:Bd)(first:Int)(d:Nat):∀n,(b.args first d n).cnt<=b.cnt+n
 |0=>Nat.le_refl _
 |n+1=>by rw[Bd.args];have:=Bl (b.args first d n) (AL (first+n) (d+n));have:=JK b first d n;omega
theorem I3(b:Bd)(C:Core)(g:Int)(n d:Nat):(b.called C g n d).cnt<=b.cnt+n+1:=by
 unfold Bd.called;have:=Bl (b.args (C.first g) d n) (E1 g);have:=JK b (C.first g) d n;omega
theorem Pr(b:Bd)(d:Nat):(b.not d).cnt<=b.cnt+2:=by
 unfold Bd.not;have:=Bl (b.put (AY (d+1) 0)) (AP 15 d d (d+1));have:=Bl b (AY (d+1) 0);omega
theorem Kf(b:Bd)(e:CE)(d:Nat):(b.truth e d).cnt<=b.cnt+3:=by
 unfold Bd.truth
 cases e.flagged with
 |true=>show b.cnt<=_;omega
 |false=>
  show((b.not d).put _).cnt<=_;have:=Bl (b.not d) (AP 15 d d (d+1));have:=Pr b d;omega
theorem KR(b:Bd)(k:Int)(d:Nat):(b.either0 k d).cnt=b.cnt+2:=by
 unfold Bd.either0
 cases k==8 with
 |true=>show(Bd.fork _ _ _ _).cnt=_;rw[EN,A0,A0]
 |false=>show(Bd.fork _ _ _ _).cnt=_;rw[EN,A0,A0]
theorem EA(b:Bd)(i to:Nat)(f:Bd->Bd):(b.inside i to f).cnt=(f (b.go i)).cnt:=by
 unfold Bd.inside;rw[B8,JJ]
section
variable {C : Core}
theorem Ig{m:Nat}{l:List CE}(hI:∀e∈l,∀d b,(e.build C d b).cnt+1<=b.cnt+11*e.parts):∀(d:Nat) (b:Bd),(CE.buildL C l d b).cnt+l.length<=b.cnt+11*CE.partsL l:=by
 induction l with
 |nil=>intro d b;rw[CE.buildL,List.length_nil];omega
 |cons e l ih=>
  intro d b;rw[CE.buildL,CE.partsL,List.length_cons];have h1:=ih (fun x hx=>hI x (List.mem_cons.2 (.inr hx))) (d+1) (e.build C d b);have h2:=hI e (List.mem_cons.2 (.inl rfl)) d b;omega
theorem B9:∀(m:Nat) (e:CE),e.parts<=m->∀d b,(e.build C d b).cnt+1<=b.cnt+11*e.parts
 |0,e,hm=>absurd hm (by have:=Bu e;omega)
 |m+1,.mk k o n s z kids,hm=>by
  rw[CE.parts]at hm;have hI:∀e∈kids,∀d b,(e.build C d b).cnt+1<=b.cnt+11*e.parts:=fun e he=>B9 m e RJ
  intro d b;have hL:=Ig (m:=0) hI d b;have hlen:=DM kids;rw[CE.build,CE.parts]
  by_cases k1:k=1
  . rw[if_pos k1];have:=Bl b (AY d n);omega
  rw[if_neg k1]
  by_cases k2:k=2
  . rw[if_pos k2];have:=Bl b (Dx d s);omega
  rw[if_neg k2]
  by_cases k3:k=3
  . rw[if_pos k3];have:=Bl (CE.buildL C kids d b) (GZ d d s z);omega
  rw[if_neg k3]
  by_cases k4:k=4
  . rw[if_pos k4];have h1:=Bl ((CE.buildL C kids d b).called C s kids.length d) (Dx d C.words);have h2:=I3 (CE.buildL C kids d b) C s kids.length d;omega
  rw[if_neg k4]
  by_cases k5:k=5
  . rw[if_pos k5];have:=Bl b (Mv d);omega
  rw[if_neg k5]
  by_cases k6:k=6
  . rw[if_pos k6];have:=Bl (CE.buildL C kids d b) (AP o d d (d+1));omega
  rw[if_neg k6]
  by_cases k7:k=7
  . rw[if_pos k7];have:=Pr (CE.buildL C kids d b) d;omega
  rw[if_neg k7]
  by_cases k8:k=8\/k=9
  . rw[if_pos k8]
    cases kids with
    |nil=>rw[D5];omega
    |cons e l=>
     have h1:=hI e (List.mem_cons.2 (.inl rfl)) d b;have h2:=Kf (e.build C d b) e d;rw[D5,CE.partsL]
     cases l with
     |nil=>rw[D4,CE.partsL];omega
     |cons y l=>
      rw[D4,CE.partsL,B8,EA];have h3:=Kf (y.build C d ((((e.build C d b).truth e d).either0 k d).go ((e.build C d b).truth e d).blocks.length)) y d;have h4:=hI y (List.mem_cons.2 (.inr (List.mem_cons.2 (.inl rfl)))) d ((((e.build C d b).truth e d).either0 k d).go ((e.build C d b).truth e d).blocks.length);rw[B8,KR]at h4;omega
  . rw[if_neg k8];omega
end
section
variable {C : Core} {e x y : CE} {d : Nat} {b : Bd}
theorem nn(hk:e.kind=1):e.build C d b=b.put (AY d e.num):=by
 cases e;simp only[CE.kind]at hk;subst hk;rw[CE.build,if_pos rfl];rfl
theorem nl(hk:e.kind=2):e.build C d b=b.put (Dx d e.slot):=by
 cases e;simp only[CE.kind]at hk;subst hk;rw[CE.build,if_neg Ab,if_pos rfl];rfl
theorem FB{l:List CE}(h:l.length=1)(hx:l[0]?=some x):l=[x]:=by
 obtain⟨a,rfl⟩:=Dd h;simp at hx;rw[hx]
theorem Gz{l:List CE}(h:l.length=2)(hx:l[0]?=some x)(hy:l[1]?=some y):l=[x,y]:=by
 obtain⟨a,c,rfl⟩:=FY h;simp at hx hy;rw[hx,hy]
theorem nk(hk:e.kind=3)(hl:e.kids.length=1)(hx:e.kids[0]?=some x):e.build C d b=(x.build C d b).put (GZ d d e.slot e.size):=by
 cases e with
 |mk k o n s z kids=>
 simp only[CE.kind]at hk;subst hk;have:=FB hl hx;simp only[CE.kids]at this;subst this;rw[CE.build,if_neg Ab,if_neg Ab,if_pos rfl,CE.buildL,CE.buildL];rfl
theorem nj(hk:e.kind=4):e.build C d b=((CE.buildL C e.kids d b).called C e.slot e.kids.length d).put (Dx d C.words):=by
 cases e;simp only[CE.kind]at hk;subst hk;rw[CE.build,if_neg Ab,if_neg Ab,if_neg Ab,if_pos rfl];rfl
theorem ni(hk:e.kind=5):e.build C d b=b.put (Mv d):=by
 cases e;simp only[CE.kind]at hk;subst hk;rw[CE.build,if_neg Ab,if_neg Ab,if_neg Ab,if_neg Ab,if_pos rfl]
theorem nh(hk:e.kind=6)(hl:e.kids.length=2)(hx:e.kids[0]?=some x)(hy:e.kids[1]?=some y):e.build C d b=(y.build C (d+1) (x.build C d b)).put (AP e.op d d (d+1)):=by
 cases e with
 |mk k o n s z kids=>
 simp only[CE.kind]at hk;subst hk;have:=Gz hl hx hy;simp only[CE.kids]at this;subst this;rw[CE.build,if_neg Ab,if_neg Ab,if_neg Ab,if_neg Ab,if_neg Ab,if_pos rfl,CE.buildL,CE.buildL,CE.buildL];rfl
theorem ng(hk:e.kind=7)(hl:e.kids.length=1)(hx:e.kids[0]?=some x):e.build C d b=(x.build C d b).not d:=by
 cases e with
 |mk k o n s z kids=>
 simp only[CE.kind]at hk;subst hk;have:=FB hl hx;simp only[CE.kids]at this;subst this;rw[CE.build,if_neg Ab,if_neg Ab,if_neg Ab,if_neg Ab,if_neg Ab,if_neg Ab,if_pos rfl,CE.buildL,CE.buildL]
def Z0(C:Core)(k:Int)(x y:CE)(d:Nat)(b:Bd):Bd:=((((x.build C d b).truth x d).either0 k d).inside ((x.build C d b).truth x d).blocks.length (((x.build C d b).truth x d).blocks.length+1) fun z=>(y.build C d z).truth y d).go (((x.build C d b).truth x d).blocks.length+1)
theorem mD(hk:e.kind=8\/e.kind=9)(hl:e.kids.length=2)(hx:e.kids[0]?=some x)(hy:e.kids[1]?=some y):e.build C d b=Z0 C e.kind x y d b:=by
 cases e with
 |mk k o n s z kids=>
 simp only[CE.kind]at hk|-;have:=Gz hl hx hy;simp only[CE.kids]at this;subst this;have h1:k≠1/\k≠2/\k≠3/\k≠4/\k≠5/\k≠6/\k≠7:=by omega
 rw[CE.build,if_neg h1.1,if_neg h1.2.1,if_neg h1.2.2.1,if_neg h1.2.2.2.1,if_neg h1.2.2.2.2.1,if_neg h1.2.2.2.2.2.1,if_neg h1.2.2.2.2.2.2,if_pos hk,D5,D4];rfl
theorem UE{b:Bd}{d:Nat}(h:e.flagged=true):b.truth e d=b:=by unfold Bd.truth;rw[h];rfl
theorem Wy{b:Bd}{d:Nat}(h:e.flagged=false):b.truth e d=(b.not d).put (AP 15 d d (d+1)):=by unfold Bd.truth;rw[h];rfl
end
theorem KT{C:Core}(x:CE):∀(l:List CE) (d:Nat) (b:Bd),CE.buildL C (l++[x]) d b=x.build C (d+l.length) (CE.buildL C l d b)
 | [],d,b=>by rw[List.nil_append,CE.buildL,CE.buildL,CE.buildL];rfl
 |y::l,d,b=>by
  rw[List.cons_append,CE.buildL,CE.buildL,KT x l,List.length_cons];congr 1;omega
theorem Rj{C:Core}{l:List CE}{k:Nat}{x:CE}(h:l[k]?=some x)(d:Nat)(b:Bd):CE.buildL C (l.take (k+1)) d b=x.build C (d+k) (CE.buildL C (l.take k) d b):=by
 have hk:=(List.getElem?_eq_some_iff.1 h).1;rw[AZ h,KT,List.length_take,Nat.min_eq_left Aa]
theorem Pw{b:Bd}(h:Pl b)(first:Int)(d:Nat):∀n,Pl (b.args first d n)
 |0=>h
 |n+1=>(AO (Pw h first d n) _).pl
theorem QK{C:Core}{n:Nat}:∀{l:List CE} (k:Nat),CE.okL C n l->CE.okL C n (l.take k)
 | [],k,h=>by rw[List.take_nil];exact h
 |e::l,0,h=>trivial
 |e::l,k+1,h=>by rw[CE.okL]at h;rw[List.take_succ_cons,CE.okL];exact⟨h.1,QK k h.2⟩
theorem Rb{C:Core}{n:Nat}{e:CE}(h:e.ok C n):CE.okL C n e.kids:=by cases e;rw[CE.ok]at h;exact h.1
theorem SX{b:Bd}(h:Pl b)(k:Int)(d:Nat):Pl ((b.either0 k d).go b.blocks.length):=by
 have hlt:=h.lt;have key:∀v to els:Nat,(b.opened.opened.fork v to els).blocks[b.blocks.length]?=some blk0:=fun v to els=>by
  show(b.opened.opened.upd _).blocks[b.blocks.length]?=_;rw[CP (show b.blocks.length≠b.opened.opened.now by show b.blocks.length≠b.now;omega),AF EZ,C7]
 refine⟨blk0,?_,rfl,rfl,rfl,rfl⟩;show(b.either0 k d).blocks[b.blocks.length]?=_;unfold Bd.either0
 cases k==8 with
 |true=>exact key _ _ _
 |false=>exact key _ _ _
theorem O7{l:List CE}{k:Nat}{x:CE}(h:l[k]?=some x):CE.partsL (l.take k)+x.parts<=CE.partsL l/\k<=CE.partsL (l.take k):=by
 have h1:=KG h;have h2:=NZ (l:=l) (k+1);have h3:=DM (l.take k);rw[List.length_take,Nat.min_eq_left (by have:=(List.getElem?_eq_some_iff.1 h).1;omega)]at h3;omega
theorem Pl.cur{b:Bd}(h:Pl b):∃x,b.blocks[b.now]?=some x:=by
 obtain⟨x,hx,_⟩:=h;exact⟨x,hx⟩
theorem Kg(b:Bd)(C:Core)(w:Bool):(b.leave C w).cnt<=b.cnt+2:=by
 unfold Bd.leave;rw[Z7]
 cases w with
 |true=>
  show((b.put (AY 0 0)).put (AL C.words 0)).cnt<=_;have:=Bl (b.put (AY 0 0)) (AL C.words 0);have:=Bl b (AY 0 0);omega
 |false=>show b.cnt<=_;omega
theorem Ya(b:Bd):b.next.cnt=b.cnt+1:=by unfold Bd.next;rw[B8,A0]
section
variable {C : Core} {w : Bool}
theorem Ez{l:List CS}(hI:∀e∈l,∀b,(e.build C w b).cnt+1<=b.cnt+11*e.parts):∀(b:Bd),(CS.buildL C w l b).cnt+l.length<=b.cnt+11*CS.partsL l:=by
 induction l with
 |nil=>intro b;rw[CS.buildL,List.length_nil];omega
 |cons e l ih=>
  intro b;rw[CS.buildL,CS.partsL,List.length_cons];have h1:=ih (fun x hx=>hI x (List.mem_cons.2 (.inr hx))) (e.build C w b);have h2:=hI e (List.mem_cons.2 (.inl rfl)) b;omega
theorem FL:∀(m:Nat) (e:CS),e.parts<=m->∀b,(e.build C w b).cnt+1<=b.cnt+11*e.parts
 |0,e,hm=>absurd hm (by have:=C6 e;omega)
 |m+1,.mk k s z es thn els,hm=>by
  rw[CS.parts]at hm;have hT:∀b,(CS.buildL C w thn b).cnt+thn.length<=b.cnt+11*CS.partsL thn:=Ez fun e he=>FL m e Y0
  have hL:∀b,(CS.buildL C w els b).cnt+els.length<=b.cnt+11*CS.partsL els:=Ez fun e he=>FL m e YZ
  intro b;have hE:∀b,(CE.buildL C es 0 b).cnt+es.length<=b.cnt+11*CE.partsL es:=fun b=>Ig (m:=0) (fun e _=>B9 e.parts e (Nat.le_refl _)) 0 b
  have hEb:=hE b;rw[CS.build,CS.parts]
  by_cases k1:k=1
  . rw[if_pos k1];have:=Bl (CE.buildL C es 0 b) (AL s 0);omega
  rw[if_neg k1]
  by_cases k2:k=2
  . rw[if_pos k2];have:=Bl (CE.buildL C es 0 b) (BN 0 1 s z);omega
  rw[if_neg k2]
  by_cases k3:k=3
  . rw[if_pos k3];have:=Bl (CE.buildL C es 0 b) (J8 0);omega
  rw[if_neg k3]
  by_cases k6:k=6
  . rw[if_pos k6];have:=I3 (CE.buildL C es 0 b) C s es.length 0;omega
  rw[if_neg k6]
  by_cases k7:k=7
  . rw[if_pos k7,Ya]
    by_cases he:es=[]
    . rw[if_pos he];have:=Kg b C w;omega
    . rw[if_neg he];have:=Bl (CE.buildL C es 0 b) (AL C.words 0);omega
  rw[if_neg k7]
  by_cases k4:k=4
  . rw[if_pos k4];dsimp only;rw[B8,EA];have h1:=hT ((if els=[]then(((CE.buildL C es 0 b).opened.opened).fork 0 (CE.buildL C es 0 b).blocks.length ((CE.buildL C es 0 b).blocks.length+1))else(((CE.buildL C es 0 b).opened.opened.opened.inside ((CE.buildL C es 0 b).blocks.length+2) ((CE.buildL C es 0 b).blocks.length+1) fun x=>CS.buildL C w els x).fork 0 (CE.buildL C es 0 b).blocks.length ((CE.buildL C es 0 b).blocks.length+2))).go (CE.buildL C es 0 b).blocks.length);rw[B8]at h1
    by_cases he:els=[]
    . rw[if_pos he]at h1|-;rw[EN,A0,A0]at h1;omega
    . rw[if_neg he]at h1|-;rw[EN,EA]at h1;have h2:=hL ((CE.buildL C es 0 b).opened.opened.opened.go ((CE.buildL C es 0 b).blocks.length+2));rw[B8,A0,A0,A0]at h2;omega
  rw[if_neg k4]
  by_cases k5:k=5
  . rw[if_pos k5];dsimp only;rw[B8,EA];have h1:=hT (((CE.buildL C es 0 ((b.opened.opened.opened.inside b.now b.blocks.length fun x=>x).go b.blocks.length)).fork 0 (b.blocks.length+1) (b.blocks.length+2)).go (b.blocks.length+1));rw[B8,EN]at h1;have h2:=hE ((b.opened.opened.opened.inside b.now b.blocks.length fun x=>x).go b.blocks.length);rw[B8,EA,B8,A0,A0,A0]at h2;omega
  . rw[if_neg k5];omega
theorem Jl(x:CS):∀(l:List CS) (b:Bd),CS.buildL C w (l++[x]) b=x.build C w (CS.buildL C w l b)
 | [],b=>by rw[List.nil_append,CS.buildL,CS.buildL,CS.buildL]
 |y::l,b=>by rw[List.cons_append,CS.buildL,CS.buildL,Jl x l]
theorem OY{l:List CS}{k:Nat}{x:CS}(h:l[k]?=some x)(b:Bd):CS.buildL C w (l.take (k+1)) b=x.build C w (CS.buildL C w (l.take k) b):=by
 rw[AZ h,Jl]
end
section
variable {C : Core} {w : Bool} {e : CS} {x y : CE} {b : Bd}
theorem mz(hk:e.kind=1)(hl:e.es.length=1)(hx:e.es[0]?=some x):e.build C w b=(x.build C 0 b).put (AL e.slot 0):=by
 cases e with
 |mk k s z es thn els=>
 simp only[CS.kind]at hk;subst hk;have:=FB hl hx;simp only[CS.es]at this;subst this;rw[CS.build,if_pos rfl,CE.buildL,CE.buildL];rfl
theorem my(hk:e.kind=2)(hl:e.es.length=2)(hx:e.es[0]?=some x)(hy:e.es[1]?=some y):e.build C w b=(y.build C 1 (x.build C 0 b)).put (BN 0 1 e.slot e.size):=by
 cases e with
 |mk k s z es thn els=>
 simp only[CS.kind]at hk;subst hk;have:=Gz hl hx hy;simp only[CS.es]at this;subst this;rw[CS.build,if_neg Ab,if_pos rfl,CE.buildL,CE.buildL,CE.buildL];rfl
theorem mx(hk:e.kind=3)(hl:e.es.length=1)(hx:e.es[0]?=some x):e.build C w b=(x.build C 0 b).put (J8 0):=by
 cases e with
 |mk k s z es thn els=>
 simp only[CS.kind]at hk;subst hk;have:=FB hl hx;simp only[CS.es]at this;subst this;rw[CS.build,if_neg Ab,if_neg Ab,if_pos rfl,CE.buildL,CE.buildL]
theorem mu(hk:e.kind=6):e.build C w b=(CE.buildL C e.es 0 b).called C e.slot e.es.length 0:=by
 cases e;simp only[CS.kind]at hk;subst hk;rw[CS.build,if_neg Ab,if_neg Ab,if_neg Ab,if_pos rfl];rfl
theorem jt(hk:e.kind=7)(hl:e.es.length=1)(hx:e.es[0]?=some x):e.build C w b=((x.build C 0 b).put (AL C.words 0)).next:=by
 cases e with
 |mk k s z es thn els=>
 simp only[CS.kind]at hk;subst hk;have:=FB hl hx;simp only[CS.es]at this;subst this;rw[CS.build,if_neg Ab,if_neg Ab,if_neg Ab,if_neg Ab,if_pos rfl,if_neg At,CE.buildL,CE.buildL]
theorem js(hk:e.kind=7)(hl:e.es.length=0):e.build C w b=(b.leave C w).next:=by
 cases e with
 |mk k s z es thn els=>
 simp only[CS.kind]at hk;subst hk;simp only[CS.es]at hl;rw[CS.build,if_neg Ab,if_neg Ab,if_neg Ab,if_neg Ab,if_pos rfl,if_pos (List.length_eq_zero_iff.1 hl)]
end
theorem bW{C:Core}{n:Nat}{w:Bool}{e:CS}(h:e.ok C n w)(hk:e.kind=3\/e.kind=4):e.es.length=1:=by
 exact aS
theorem jj{C:Core}{n:Nat}{w:Bool}{e:CS}(h:e.ok C n w)(hk:e.kind=7):e.es.length=0\/e.es.length=1:=by
 cases e with
 |mk k sl z es thn els=>
 rw[CS.ok]at h;simp only[CS.kind]at hk;simp only[CS.es];obtain⟨_,_,_,h2⟩:=h;rcases h2 with h2|h2|h2|h2|h2|h2|h2
 . omega
 . omega
 . omega
 . omega
 . omega
 . omega
 . rcases h2.2 with e|e
   . exact .inl (by rw[e];rfl)
   . exact .inr e.1
theorem Za{C:Core}{n:Nat}{w:Bool}{e:CS}(h:e.ok C n w):CE.okL C n e.es:=by cases e;rw[CS.ok]at h;exact h.1
section
variable {C : Core} {w : Bool} {e : CS} {x : CE} {b : Bd}
def F2(C:Core)(w:Bool)(els:List CS)(b1:Bd):Bd:=if els=[]then b1.opened.opened else b1.opened.opened.opened.inside (b1.blocks.length+2) (b1.blocks.length+1) fun x=>CS.buildL C w els x
def CJ(els:List CS)(b1:Bd):Nat:=if els=[]then b1.blocks.length+1 else b1.blocks.length+2
theorem mw(hk:e.kind=4)(hl:e.es.length=1)(hx:e.es[0]?=some x):e.build C w b=(((F2 C w e.els (x.build C 0 b)).fork 0 (x.build C 0 b).blocks.length (CJ e.els (x.build C 0 b))).inside (x.build C 0 b).blocks.length ((x.build C 0 b).blocks.length+1) fun z=>CS.buildL C w e.thn z).go ((x.build C 0 b).blocks.length+1):=by
 cases e with
 |mk k s z es thn els=>
 simp only[CS.kind]at hk;subst hk;have:=FB hl hx;simp only[CS.es]at this;subst this;rw[CS.build,if_neg Ab,if_neg Ab,if_neg Ab,if_neg Ab,if_neg Ab,if_pos rfl,CE.buildL,CE.buildL];dsimp only;unfold F2 CJ;simp only[CS.els,CS.thn]
 cases els with
 |nil=>rfl
 |cons a l=>rfl
theorem mv(hk:e.kind=5)(hl:e.es.length=1)(hx:e.es[0]?=some x):e.build C w b=(((x.build C 0 ((b.opened.opened.opened.inside b.now b.blocks.length fun z=>z).go b.blocks.length)).fork 0 (b.blocks.length+1) (b.blocks.length+2)).inside (b.blocks.length+1) b.blocks.length fun z=>CS.buildL C w e.thn z).go (b.blocks.length+2):=by
 cases e with
 |mk k s z es thn els=>
 simp only[CS.kind]at hk;subst hk;have:=FB hl hx;simp only[CS.es]at this;subst this;rw[CS.build,if_neg Ab,if_neg Ab,if_neg Ab,if_neg Ab,if_neg Ab,if_neg Ab,if_pos rfl];dsimp only;rw[CE.buildL,CE.buildL];rfl
end
theorem Rp(C:Core)(w:Bool)(b:Bd)(F:Nat->AObj):RH (Gl C w b .free .free .free) F=RH (bL C w b) F:=funext fun c=>by
 by_cases hc:c<16
 . show Gj (nb _) F c=Gj (nb _) F c;rw[Gi _ _ hc,Gi _ _ hc];unfold nb;congr 1
   match c with
   |0=>rfl
   |1=>rfl
   |2=>rfl
   |3=>rfl
   |4=>rfl
   |5=>rfl
   |6=>rfl
   |c+7=>rfl
 . obtain⟨x,rfl⟩:∃x,c=x+16:=⟨c-16,by omega⟩
   exact(Ax _ _ _).trans (Ax _ _ _).symm
theorem jV{c:Nat}(h:kR 2 c=true):kR 5 c=true:=by
 rcases Pb h with h|h
 . have:c=2\/c=3:=by omega
   rcases this with rfl|rfl<;>rfl
 . obtain⟨x,rfl⟩:∃x,c=x+16:=⟨c-16,by omega⟩
   exact QV 5 x
theorem UU{h h':Ag}(hh:HSub (Az 5 hNone h) h'):HSub (Az 2 hNone h) h':=fun c o ho=>by
 cases e:kR 2 c with
 |true=>rw[BV e]at ho;exact hh c o (by rw[BV (jV e)];exact ho)
 |false=>rw[K8 e]at ho;cases ho
theorem Lg{b:Bd}{i:Nat}(h:b.blocks[i]?=some blk0):Pl (b.go i):=⟨blk0,h,rfl,rfl,rfl,rfl⟩
theorem QI(b:Bd):b.opened.opened.blocks[b.blocks.length]?=some blk0:=by rw[AF EZ,C7]
theorem U3(b:Bd):b.opened.opened.blocks[b.blocks.length+1]?=some blk0:=by
 have:=C7 b.opened;rwa[Aq]at this
theorem QH(b:Bd):b.opened.opened.opened.blocks[b.blocks.length]?=some blk0:=by rw[AF PQ,QI]
theorem U2(b:Bd):b.opened.opened.opened.blocks[b.blocks.length+1]?=some blk0:=by rw[AF PQ,U3]
theorem J4(b:Bd):b.opened.opened.opened.blocks[b.blocks.length+2]?=some blk0:=by
 exact Tu
section
variable {C : Core} {n : Nat} {w : Bool}
theorem Hr{l:List CS}(hok:CS.okL C n w l){b:Bd}(h:Pl b):Pl (CS.buildL C w l b):=(B7 l (fun st _=>CF st.parts st (Nat.le_refl _)) hok b h).pl
theorem NE:∀{l:List CS} (k:Nat),CS.okL C n w l->CS.okL C n w (l.take k)
 | [],k,h=>by rw[List.take_nil];exact h
 |e::l,0,h=>trivial
 |e::l,k+1,h=>by rw[CS.okL]at h;rw[List.take_succ_cons,CS.okL];exact⟨h.1,NE k h.2⟩
theorem X0{els:List CS}(hok:CS.okL C n w els){b:Bd}(h:Pl b):(F2 C w els b).now=b.now/\(∃x,(F2 C w els b).blocks[b.now]?=some x)/\(F2 C w els b).blocks[b.blocks.length]?=some blk0/\(F2 C w els b).cnt<=b.cnt+3+11*CS.partsL els:=by
 have hlt:=h.lt;obtain⟨x,hx⟩:=h.cur;unfold F2
 by_cases he:els=[]
 . rw[if_pos he];refine⟨rfl,⟨x,by rw[AF EZ,AF hlt];exact hx⟩,QI b,?_⟩;rw[A0,A0];omega
 . rw[if_neg he];have hi:=Fj (to:=b.blocks.length+1) (f:=fun z=>CS.buildL C w els z) (J4 b) (B7 els (fun st _=>CF st.parts st (Nat.le_refl _)) hok _ (Lg (J4 b)));have hl3:b.opened.opened.opened.blocks.length=b.blocks.length+3:=by rw[Aq,Aq,Aq]
   refine⟨hi.now,⟨x,?_⟩,?_,?_⟩
   . rw[hi.old b.now Aa Aa,AF PQ,AF EZ,AF hlt];exact hx
   . rw[hi.old b.blocks.length Aa Aa,QH]
   . rw[EA];have:=Ez (C:=C) (w:=w) (l:=els) (fun e _=>FL e.parts e (Nat.le_refl _)) (b.opened.opened.opened.go (b.blocks.length+2));rw[B8,A0,A0,A0]at this;omega
end
theorem J9{q:Bd}{i v to els:Nat}(h:q.blocks[i]?=some blk0)(hn:i≠q.now):Pl ((q.fork v to els).go i):=Lg (by
 show(q.upd _).blocks[i]?=_;rw[CP hn];exact h)
theorem J6{q:Bd}{i to:Nat}(h:q.blocks[i]?=some blk0)(hn:i≠q.now):(q.jump to).blocks[i]?=some blk0:=by
 show(q.upd _).blocks[i]?=_;rw[CP hn];exact h
theorem Oy(a b:List UInt8):((⟨a.toArray⟩:ByteArray)==⟨b.toArray⟩)=(a==b):=by
 show(a.toArray==b.toArray)=(a==b)
 simp
structure NoI(t:Bd)(to:Int)(q:Nat×Bd×Int):Prop where
  eq:Bm q.1 q.2.1 q.2.2 (to-q.2.2).toNat=t
  gas:(to-q.2.2).toNat<=q.1
  pos:0<q.1
theorem Rf{n:Nat}(h:64<n):8<=chunkN n/\chunkN n<=n/\chunkN n<=4096:=by
 unfold chunkN;have h1:min n 4096<=n:=Nat.min_le_left _ _;have h2:min n 4096<=4096:=Nat.min_le_right _ _;have h3:64<=min n 4096:=by rw[Nat.le_min];omega
 omega
theorem NoI.next{t:Bd}{to:Int}{q:Nat×Bd×Int}(h:NoI t to q)(hn:64<(to-q.2.2).toNat):NoI t to (q.1-1,q.2.1.chunk q.2.2 (chunkN (to-q.2.2).toNat),q.2.2+chunkN (to-q.2.2).toNat)/\(to-(q.2.2+chunkN (to-q.2.2).toNat)).toNat<(to-q.2.2).toNat:=by
 obtain⟨g,b,a⟩:=q;obtain⟨e1,e2,e3⟩:=h;dsimp only at e1 e2 e3 hn|-;obtain⟨c1,c2,c3⟩:=Rf hn;have hsub:(to-(a+(chunkN (to-a).toNat:Int))).toNat=(to-a).toNat-chunkN (to-a).toNat:=by omega
 cases g with
 |zero=>omega
 |succ g=>
  refine⟨⟨?_,by dsimp only;omega,by dsimp only;omega⟩,by omega⟩;dsimp only;rw[<-e1,Bm,if_pos hn,hsub];rfl
theorem NoI.last{t:Bd}{to:Int}{q:Nat×Bd×Int}(h:NoI t to q)(hn:¬64<(to-q.2.2).toNat):t=q.2.1.zeros q.2.2 (to-q.2.2).toNat:=by
 obtain⟨g,b,a⟩:=q;obtain⟨e1,e2,e3⟩:=h;dsimp only at e1 e2 e3 hn|-
 cases g with
 |zero=>omega
 |succ g=>rw[<-e1,Bm,if_neg hn]
def Bd.Cur(b:Bd):Prop:=∃x,b.blocks[b.now]?=some x
theorem Bd.Cur.put{b:Bd}(h:b.Cur)(t:Tac):(b.put t).Cur:=by obtain⟨x,hx⟩:=h;exact⟨_,EU hx⟩
theorem Bd.Cur.cnt{b:Bd}(h:b.Cur)(t:Tac):(b.put t).cnt=b.cnt+1:=by obtain⟨x,hx⟩:=h;exact JI t hx
theorem Bd.Cur.opened{b:Bd}(h:b.Cur):b.opened.Cur:=by
 obtain⟨x,hx⟩:=h;exact⟨x,by show b.opened.blocks[b.now]?=_;rw[AF (List.getElem?_eq_some_iff.1 hx).1];exact hx⟩
theorem L7(b:Bd):b.opened.blocks[b.blocks.length]?=some blk0:=by
 show(b.blocks++[blk0])[b.blocks.length]?=_;rw[List.getElem?_append_right (Nat.le_refl _),Nat.sub_self];rfl
theorem MM{b:Bd}(h:b.Cur):b.chunk2.Cur:=by
 obtain⟨x,hx⟩:=h;have hlt:=(List.getElem?_eq_some_iff.1 hx).1;exact⟨blk0,J6 (q:=b.opened) (L7 b) PR⟩
theorem MQ(b:Bd):b.chunk2.cnt=b.cnt+1:=by
 unfold Bd.chunk2;rw[B8,JJ,A0]
theorem SY{b:Bd}(h:b.Cur)(l:Nat):(b.chunk3 l).Cur:=by
 obtain⟨x,hx⟩:=h;have hlt:=(List.getElem?_eq_some_iff.1 hx).1;obtain⟨y,hy,_⟩:=J9 (q:=b.opened) (v:=4) (to:=l) (els:=b.blocks.length) (L7 b) PR;exact⟨y,hy⟩
theorem S3(b:Bd)(l:Nat):(b.chunk3 l).cnt=b.cnt+1:=by
 unfold Bd.chunk3;rw[B8,EN,A0]
theorem EM{b:Bd}(h:b.Cur)(a z:Int):∀n,(b.astores a z n).Cur
 |0=>h
 |n+1=>(EM h a z n).put _
theorem F6{b:Bd}(h:b.Cur)(a z:Int):∀n,(b.astores a z n).cnt=b.cnt+n
 |0=>rfl
 |n+1=>by rw[Bd.astores,(EM h a z n).cnt,F6 h a z n];omega
theorem Ie{b:Bd}(h:b.Cur)(a:Int):∀n,(b.zeros a n).Cur
 |0=>h
 |n+1=>(Ie h a n).put _
theorem Ke{b:Bd}(h:b.Cur)(a:Int):∀n,(b.zeros a n).cnt=b.cnt+n
 |0=>rfl
 |n+1=>by rw[Bd.zeros,(Ie h a n).cnt,Ke h a n];omega
theorem Ou{b:Bd}(h:b.Cur)(a:Int)(n:Nat):(b.chunk a n).Cur/\(b.chunk a n).cnt=b.cnt+15:=by
 have h1:(b.chunk1 n).Cur:=((h.put _).put _).put _;have c1:(b.chunk1 n).cnt=b.cnt+3:=by unfold Bd.chunk1;rw[((h.put _).put _).cnt,(h.put _).cnt,h.cnt]
 have h2:=MM h1;have c2:=MQ (b.chunk1 n);have h3:=EM h2 a (n-7) 8;have c3:=F6 h2 a (n-7) 8;have h4:=(h3.put (AP 4 1 1 2)).put (AP 14 4 1 3);have c4:=(h3.put (AP 4 1 1 2)).cnt (AP 14 4 1 3);have c5:=h3.cnt (AP 4 1 1 2);refine⟨SY h4 _,?_⟩;unfold Bd.chunk;rw[S3];omega
structure NoW(t:Bd)(to:Int)(K:Nat)(q:Nat×Bd×Int):Prop where
  i:NoI t to q
  cur:q.2.1.Cur
  cnt:q.2.1.cnt+(to-q.2.2).toNat<=K
  a0:0<=q.2.2
  a1:q.2.2<=to
theorem NoW.next{t:Bd}{to:Int}{K:Nat}{q:Nat×Bd×Int}(h:NoW t to K q)(hn:64<(to-q.2.2).toNat):NoW t to K (q.1-1,q.2.1.chunk q.2.2 (chunkN (to-q.2.2).toNat),q.2.2+chunkN (to-q.2.2).toNat):=by
 have h1:=h.i.next hn;have h2:=Ou h.cur q.2.2 (chunkN (to-q.2.2).toNat);have h3:=Fl hn;have h4:=h.cnt;have h5:=h.a0;have h6:=h.a1;refine⟨h1.1,h2.1,?_,?_,?_⟩<;>dsimp only
 . rw[h2.2];omega
 . omega
 . omega
theorem NoW.first{b:Bd}(h:b.Cur){a to:Int}(ha:0<=a)(hto:a<to):NoW (b.nought a (to-a).toNat) to (b.cnt+1+(to-a).toNat) ((to-a).toNat,b.put (AY 0 0),a):=
 ⟨⟨by unfold Bd.nought;rw[if_neg Aa],Nat.le_refl _,by show 0<(to-a).toNat;omega⟩,h.put _,by show(b.put (AY 0 0)).cnt+_<=_;rw[h.cnt];exact Nat.le_refl _,ha,by show a<=to;omega⟩
theorem MP{b:Bd}(h:b.Cur){a:Int}(n:Nat):(b.nought a n).cnt<=b.cnt+1+n/\(b.nought a n).Cur:=by
 unfold Bd.nought
 by_cases hn:n=0
 . rw[if_pos hn];exact⟨by omega,h⟩
 . rw[if_neg hn];have key:∀(g:Nat) (b:Bd) (a:Int) (n:Nat),b.Cur->(Bm g b a n).cnt<=b.cnt+n/\(Bm g b a n).Cur:=fun g=>by
    induction g with
    |zero=>intro b a n h;rw[Bm];exact⟨by omega,h⟩
    |succ g ih=>
     intro b a n h;rw[Bm]
     by_cases h64:64<n
     . rw[if_pos h64];have h1:=Ou h a (chunkN n);have h2:=ih _ (a+chunkN n) (n-chunkN n) h1.1;have h3:=Fl h64;exact⟨by omega,h2.2⟩
     . rw[if_neg h64];exact⟨by rw[Ke h];exact Nat.le_refl _,Ie h a n⟩
   have h1:=key n (b.put (AY 0 0)) a n (h.put _);rw[h.cnt]at h1;exact h1
def Bd.wd(b:Bd):Prop:=∀x∈b.blocks,XE x.ins
theorem RR{b:Bd}(h:b.wd){g:Block->Block}(hg:∀x,(g x).ins=x.ins):(b.upd g).wd:=fun y hy=>by
 rcases Ev hy with⟨x,hx,rfl⟩|hy
 . rw[hg];exact h x (List.mem_of_getElem? hx)
 . exact h y hy
theorem OP{b:Bd}(h:b.wd){t:Tac}(ht:CW t.n):(b.put t).wd:=fun y hy=>by
 rcases Ev (b:=b) (g:=fun x=>x.mid (x.ins++[t])) hy with⟨x,hx,rfl⟩|hy
 . intro u hu;have hu:u∈x.ins++[t]:=hu;rcases List.mem_append.1 hu with hu|hu
   . exact h x (List.mem_of_getElem? hx) u hu
   . rw[List.mem_singleton]at hu;subst hu;exact ht
 . exact h y hy
theorem BT{b:Bd}(h:b.wd){t:Tac}(ht:t.n=0):(b.put t).wd:=OP h (by rw[ht];exact isW_zero)
theorem CY{b:Bd}(h:b.wd):b.opened.wd:=fun y hy=>by
 have hy:y∈b.blocks++[blk0]:=hy;rcases List.mem_append.1 hy with hy|hy
 . exact h y hy
 . rw[List.mem_singleton]at hy;subst hy;intro t ht;cases ht
theorem Iu{b:Bd}(h:b.wd)(n:Nat):(b.go n).wd:=h
theorem Tx{b:Bd}(h:b.wd)(to:Nat):(b.jump to).wd:=RR (g:=fun x=>{x with fin:=1,to:=(to:Int)}) h fun _=>rfl
theorem HX{b:Bd}(h:b.wd)(v to els:Nat):(b.fork v to els).wd:=RR (g:=fun x=>{x with fin:=2,v:=(v:Int),to:=(to:Int),els:=(els:Int)}) h fun _=>rfl
theorem Wp{b:Bd}(h:b.wd):b.ret.wd:=RR (g:=fun x=>{x with fin:=3}) h fun _=>rfl
theorem Fc{b:Bd}(h:b.wd)(i to:Nat){f:Bd->Bd}(hf:∀c,Bd.wd c->(f c).wd):(b.inside i to f).wd:=Iu (Tx (hf _ (Iu h i)) to) _
theorem Tz{b:Bd}(h:b.wd)(first:Int)(d:Nat):∀n,(b.args first d n).wd
 |0=>h
 |n+1=>BT (Tz h first d n) rfl
theorem Nt{b:Bd}(h:b.wd)(C:Core)(g:Int)(n d:Nat):(b.called C g n d).wd:=BT (Tz h _ d n) rfl
theorem Wq{b:Bd}(h:b.wd)(d:Nat):(b.not d).wd:=BT (BT h rfl) rfl
theorem P0{b:Bd}(h:b.wd)(e:CE)(d:Nat):(b.truth e d).wd:=by
 unfold Bd.truth
 cases e.flagged with
 |true=>exact h
 |false=>exact BT (Wq h d) rfl
theorem RS{b:Bd}(h:b.wd)(k:Int)(d:Nat):(b.either0 k d).wd:=by
 unfold Bd.either0
 cases k==8 with
 |true=>exact HX (CY (CY h)) _ _ _
 |false=>exact HX (CY (CY h)) _ _ _
section
variable {C : Core}
theorem P2{l:List CE}(hI:∀e∈l,∀d b,Bd.wd b->(e.build C d b).wd):∀(d:Nat) (b:Bd),b.wd->(CE.buildL C l d b).wd:=by
 induction l with
 |nil=>intro d b h;rw[CE.buildL];exact h
 |cons e l ih=>
  intro d b h;rw[CE.buildL];exact ih (fun x hx=>hI x (List.mem_cons.2 (.inr hx))) (d+1) _ (hI e (List.mem_cons.2 (.inl rfl)) d b h)
theorem Ty:∀(m:Nat) (e:CE),e.parts<=m->e.Ok->∀d b,Bd.wd b->(e.build C d b).wd
 |0,e,hm,_=>absurd hm (by have:=Bu e;omega)
 |m+1,.mk k o n s z kids,hm,hk=>by
  rw[CE.parts]at hm
  cases hk with
  |mk _ _ hn _ _ _ hks=>
  have hI:∀e∈kids,∀d b,Bd.wd b->(e.build C d b).wd:=fun e he=>Ty m e RJ (hks e he)
  intro d b h;have hL:=P2 hI d b h;rw[CE.build]
  by_cases k1:k=1
  . rw[if_pos k1];exact OP h hn
  rw[if_neg k1]
  by_cases k2:k=2
  . rw[if_pos k2];exact BT h rfl
  rw[if_neg k2]
  by_cases k3:k=3
  . rw[if_pos k3];exact BT hL rfl
  rw[if_neg k3]
  by_cases k4:k=4
  . rw[if_pos k4];exact BT (Nt hL C _ _ _) rfl
  rw[if_neg k4]
  by_cases k5:k=5
  . rw[if_pos k5];exact BT h rfl
  rw[if_neg k5]
  by_cases k6:k=6
  . rw[if_pos k6];exact BT hL rfl
  rw[if_neg k6]
  by_cases k7:k=7
  . rw[if_pos k7];exact Wq hL d
  rw[if_neg k7]
  by_cases k8:k=8\/k=9
  . rw[if_pos k8]
    cases kids with
    |nil=>rw[D5];exact h
    |cons e l=>
     have h1:=P0 (hI e (List.mem_cons.2 (.inl rfl)) d b h) e d;rw[D5]
     cases l with
     |nil=>rw[D4];exact h1
     |cons y l=>
      rw[D4];exact Iu (Fc (RS h1 k d) _ _ fun c hc=>P0 (hI y (List.mem_cons.2 (.inr (List.mem_cons.2 (.inl rfl)))) d c hc) y d) _
  . rw[if_neg k8];exact h
end
theorem P1{b:Bd}(h:b.wd)(C:Core)(w:Bool):(b.leave C w).wd:=by
 unfold Bd.leave
 cases w with
 |true=>exact Wp (BT (BT h rfl) rfl)
 |false=>exact Wp h
theorem Tw{b:Bd}(h:b.wd):b.next.wd:=Iu (CY h) _
section
variable {C : Core} {w : Bool}
theorem Lr{l:List CS}(hI:∀e∈l,∀b,Bd.wd b->(e.build C w b).wd):∀(b:Bd),b.wd->(CS.buildL C w l b).wd:=by
 induction l with
 |nil=>intro b h;rw[CS.buildL];exact h
 |cons e l ih=>
  intro b h;rw[CS.buildL];exact ih (fun x hx=>hI x (List.mem_cons.2 (.inr hx))) _ (hI e (List.mem_cons.2 (.inl rfl)) b h)
theorem OO:∀(m:Nat) (e:CS),e.parts<=m->e.Ok->∀b,Bd.wd b->(e.build C w b).wd
 |0,e,hm,_=>absurd hm (by have:=C6 e;omega)
 |m+1,.mk k s z es thn els,hm,hk=>by
  rw[CS.parts]at hm
  cases hk with
  |mk _ _ _ _ hes _ hth _ hel=>
  have hT:∀b,Bd.wd b->(CS.buildL C w thn b).wd:=Lr fun e he=>OO m e Y0 (hth e he)
  have hL:∀b,Bd.wd b->(CS.buildL C w els b).wd:=Lr fun e he=>OO m e YZ (hel e he)
  have hE:∀b,Bd.wd b->(CE.buildL C es 0 b).wd:=fun b h=>P2 (fun e he=>Ty e.parts e (Nat.le_refl _) (hes e he)) 0 b h
  intro b h;have h1:=hE b h;rw[CS.build]
  by_cases k1:k=1
  . rw[if_pos k1];exact BT h1 rfl
  rw[if_neg k1]
  by_cases k2:k=2
  . rw[if_pos k2];exact BT h1 rfl
  rw[if_neg k2]
  by_cases k3:k=3
  . rw[if_pos k3];exact BT h1 rfl
  rw[if_neg k3]
  by_cases k6:k=6
  . rw[if_pos k6];exact Nt h1 C _ _ _
  rw[if_neg k6]
  by_cases k7:k=7
  . rw[if_pos k7]
    by_cases he:es=[]
    . rw[if_pos he];exact Tw (P1 h C w)
    . rw[if_neg he];exact Tw (BT h1 rfl)
  rw[if_neg k7]
  by_cases k4:k=4
  . rw[if_pos k4];dsimp only
    by_cases he:els=[]
    . rw[if_pos he];exact Iu (Fc (HX (CY (CY h1)) _ _ _) _ _ hT) _
    . rw[if_neg he];exact Iu (Fc (HX (Fc (CY (CY (CY h1))) _ _ hL) _ _ _) _ _ hT) _
  rw[if_neg k4]
  by_cases k5:k=5
  . rw[if_pos k5];dsimp only;exact Iu (Fc (HX (hE _ (Iu (Fc (CY (CY (CY h))) _ _ fun _ h=>h) _)) _ _ _) _ _ hT) _
  . rw[if_neg k5];exact h
end
theorem PZ{b:Bd}(h:b.wd)(a:Int):∀n,(b.zeros a n).wd
 |0=>h
 |n+1=>BT (PZ h a n) rfl
theorem Lt{b:Bd}(h:b.wd)(a z:Int):∀n,(b.astores a z n).wd
 |0=>h
 |n+1=>BT (Lt h a z n) rfl
theorem Wr{b:Bd}(h:b.wd)(a:Int){n:Nat}(hn:n<=4096):(b.chunk a n).wd:=by
 have h1:(b.chunk1 n).wd:=OP (OP (BT h rfl) (by exact⟨by decide,by decide⟩)) (by show CW (n:Int);exact⟨by omega,by omega⟩);exact Iu (HX (CY (BT (BT (Lt (Iu (Tx (CY h1) _) _) a _ 8) rfl) rfl)) _ _ _) _
theorem Ls:∀(g:Nat) {b:Bd} (h:b.wd) (a:Int) (n:Nat),(Bm g b a n).wd
 |0,b,h,a,n=>by rw[Bm];exact h
 |g+1,b,h,a,n=>by
  rw[Bm]
  by_cases h64:64<n
  . rw[if_pos h64];exact Ls g (Wr h a (Fl h64).2.2.1) _ _
  . rw[if_neg h64];exact PZ h a n
theorem Ux{b:Bd}(h:b.wd)(a:Int)(n:Nat):(b.nought a n).wd:=by
 unfold Bd.nought
 by_cases hn:n=0
 . rw[if_pos hn];exact h
 . rw[if_neg hn];exact Ls n (BT h rfl) a n
theorem mO:bd0.wd:=fun x hx=>by
 have hx:x∈[blk0]:=hx;rw[List.mem_singleton]at hx;subst hx;intro t ht;cases ht
theorem gq{C:Core}{fn:CFn}(h:fn.Ok)(last:Bool):(I0 C fn last).wd:=by
 unfold I0;refine P1 (Lr (fun e he=>OO e.parts e (Nat.le_refl _) (h.body e he)) _ ?_) C fn.word
 cases last with
 |true=>exact mO
 |false=>exact Ux mO _ _
theorem Yb:bd0.cnt=1:=rfl
theorem eJ:bd0.Cur:=⟨_,rfl⟩
theorem eK(C:Core)(fn:CFn)(last:Bool){n:Nat}(hn:(fn.slots-fn.params).toNat<=n):(I0 C fn last).cnt<=11*CS.partsL fn.body+n+4:=by
 unfold I0;have h1:=Kg (CS.buildL C fn.word fn.body (bif last then bd0 else bd0.nought (fn.first+fn.params) (fn.slots-fn.params).toNat)) C fn.word;have h2:=Ez (C:=C) (w:=fn.word) (l:=fn.body) (fun e _=>FL e.parts e (Nat.le_refl _)) (bif last then bd0 else bd0.nought (fn.first+fn.params) (fn.slots-fn.params).toNat);have h3:(bif last then bd0 else bd0.nought (fn.first+fn.params) (fn.slots-fn.params).toNat).cnt<=2+n:=by
  cases last with
  |true=>show bd0.cnt<=_;rw[Yb];omega
  |false=>
   have:=(MP eJ (a:=fn.first+fn.params) (fn.slots-fn.params).toNat).1;rw[Yb]at this;show(bd0.nought _ _).cnt<=_;omega
 omega
theorem S9{C:Core}(h:C.Ok):C.build.insW:=fun f hf x hx=>by
 obtain⟨i,hi⟩:=List.mem_iff_getElem?.1 hf;obtain⟨fn,h1,rfl⟩:=MV hi;exact gq (h.funcs fn (List.mem_of_getElem? h1)) _ x hx
theorem Vx{C:Core}{N:Nat}(hN:∀fn∈C.funcs,11*CS.partsL fn.body+(fn.slots-fn.params).toNat+4<=N):∀f∈C.build.funcs,∀x∈f.blocks,x.ins.length<=N:=fun f hf x hx=>by
 obtain⟨i,hi⟩:=List.mem_iff_getElem?.1 hf;obtain⟨fn,h1,rfl⟩:=MV hi;obtain⟨j,hj⟩:=List.mem_iff_getElem?.1 hx;have h2:=DK (b:=I0 C fn (i+1==C.funcs.length)) hj;have h3:=eK C fn (i+1==C.funcs.length) (Nat.le_refl (fn.slots-fn.params).toNat);have h4:=hN fn (List.mem_of_getElem? h1);omega
def Rs(fuel:Int)(c c':CM):Prop:=(c.m.steps:Int)<=max fuel 0->(c'.m.steps:Int)<=max fuel 0
theorem Rs.refl(fuel:Int)(c:CM):Rs fuel c c:=fun h=>h
theorem Rs.trans{fuel:Int}{a b c:CM}(h1:Rs fuel a b)(h2:Rs fuel b c):Rs fuel a c:=fun h=>h2 (h1 h)
def M9(fuel:Int)(call:Cr):Prop:=∀f args c,Rs fuel c (call f args c).2
section
variable {fuel : Int} {call : Cr} {s : ByteArray}
def VX(fuel:Int)(call:Cr)(s:ByteArray)(e:CE):Prop:=∀c,Rs fuel c (e.ev call s c).2
theorem eF{sl z:Int}{l:List CE}(hI:∀e∈l,VX fuel call s e)(c:CM):Rs fuel c (CE.evI call s sl z l c).2:=by
 cases l with
 |nil=>rw[CE.evI];exact Rs.refl _ _
 |cons e l=>
  rw[CE.evI];have h:=hI e (List.mem_cons.2 (.inl rfl)) c;generalize e.ev call s c=p at h|-;obtain⟨i,c1⟩:=p;dsimp only at h|-
  cases c1.fin==0 with
  |false=>exact h
  |true=>cases decide (i>=z)<;>exact h
theorem SV(hcall:M9 fuel call){f:Int}:∀{l:List CE},(∀e∈l,VX fuel call s e)->∀(args:List Int) (c:CM),Rs fuel c (CE.evC call s f l args c).2
 | [],_,args,c=>by rw[CE.evC];exact hcall _ _ _
 |e::l,hI,args,c=>by
  rw[CE.evC];have h:=hI e (List.mem_cons.2 (.inl rfl)) c;generalize e.ev call s c=p at h|-;obtain⟨x,c1⟩:=p;dsimp only at h|-
  cases c1.fin==0 with
  |false=>exact h
  |true=>exact Rs.trans h (SV hcall (fun e he=>hI e (List.mem_cons.2 (.inr he))) _ c1)
theorem eD{k o:Int}{l:List CE}(hI:∀e∈l,VX fuel call s e)(x:Int)(c:CM):Rs fuel c (CE.evR call s k o l x c).2:=by
 cases l with
 |nil=>rw[CE.evR];exact Rs.refl _ _
 |cons e l=>
  rw[CE.evR];have h:=hI e (List.mem_cons.2 (.inl rfl)) c;generalize e.ev call s c=p at h|-;obtain⟨y,c1⟩:=p;dsimp only at h|-
  cases (k==8||k==9)with
  |true=>exact h
  |false=>
   cases c1.fin==0 with
   |false=>exact h
   |true=>cases (BG o x y).2==0<;>exact h
theorem eE{k o:Int}{l:List CE}(hI:∀e∈l,VX fuel call s e)(c:CM):Rs fuel c (Dm call s k o l c).2:=by
 cases l with
 |nil=>rw[Dm];exact Rs.refl _ _
 |cons e l=>
  rw[Dm];have h:=hI e (List.mem_cons.2 (.inl rfl)) c;generalize e.ev call s c=p at h|-;obtain⟨x,c1⟩:=p;dsimp only at h|-
  cases c1.fin==0 with
  |false=>exact h
  |true=>
   cases k==7 with
   |true=>exact h
   |false=>
    cases (k==8&&x==0)with
    |true=>exact h
    |false=>
     cases (k==9&& !(x==0))with
     |true=>exact h
     |false=>exact Rs.trans h (eD (fun e he=>hI e (List.mem_cons.2 (.inr he))) x c1)
theorem XU(hcall:M9 fuel call):∀(m:Nat) (e:CE),e.parts<=m->VX fuel call s e
 |0,e,hm=>by cases e;rw[CE.parts]at hm;omega
 |m+1,.mk k o n sl z kids,hm=>by
  rw[CE.parts]at hm;have hI:∀e∈kids,VX fuel call s e:=fun e he=>XU hcall m e RJ
  intro c;rw[CE.ev]
  by_cases k1:k=1
  . rw[if_pos k1];exact Rs.refl _ _
  rw[if_neg k1]
  by_cases k2:k=2
  . rw[if_pos k2];exact Rs.refl _ _
  rw[if_neg k2]
  by_cases k3:k=3
  . rw[if_pos k3];exact eF hI c
  rw[if_neg k3]
  by_cases k4:k=4
  . rw[if_pos k4];exact SV hcall hI [] c
  rw[if_neg k4]
  by_cases k5:k=5
  . rw[if_pos k5]
    cases decide (c.m.read<s.size)<;>exact Rs.refl _ _
  rw[if_neg k5];exact eE hI c
theorem SU(hcall:M9 fuel call)(l:List CE)(c:CM):Rs fuel c (Cu call s l c).2:=by
 cases l with
 |nil=>exact Rs.refl _ _
 |cons e l=>exact XU hcall e.parts e (Nat.le_refl _) c
theorem Jg(c:CM):Rs fuel c (BH fuel c).2:=by
 unfold BH AI
 cases h:decide ((c.m.steps:Int)>=fuel)with
 |true=>exact Rs.refl _ _
 |false=>
  have h:=of_decide_eq_false h;intro h1;show((c.m.steps+1:Nat):Int)<=max fuel 0;omega
theorem Ns{cond:CM->Int×CM}{body:CM->CM}(h1:∀c,Rs fuel c (cond c).2)(h2:∀c,Rs fuel c (body c)):∀(g:Nat) (c:CM),Rs fuel c (De fuel cond body g c)
 |0,c=>Rs.refl _ _
 |g+1,c=>by
  rw[De]
  cases (c.fin==0&& !c.over)with
  |false=>exact Rs.refl _ _
  |true=>
   cases (BH fuel c).1 with
   |false=>exact Jg c
   |true=>
    have h:=Rs.trans (Jg (fuel:=fuel) c) (h1 (BH fuel c).2);simp only[cond_true];generalize cond (BH fuel c).2=p at h|-;obtain⟨x,c1⟩:=p;dsimp only at h|-
    cases (c1.fin==0&& !(x==0))with
    |false=>exact h
    |true=>exact Rs.trans h (Rs.trans (h2 c1) (Ns h1 h2 g _))
def Ug(call:Cr)(s:ByteArray)(fuel:Int)(st:CS):Prop:=∀c,Rs fuel c (st.run call s fuel c)
theorem H3:∀{l:List CS},(∀st∈l,Ug call s fuel st)->∀(c:CM),Rs fuel c (CS.runL call s fuel l c)
 | [],_,c=>by rw[CS.runL];exact Rs.refl _ _
 |st::l,hI,c=>by
  rw[CS.runL]
  cases (c.fin==0&& !c.over)with
  |false=>exact Rs.refl _ _
  |true=>exact Rs.trans (hI st (List.mem_cons.2 (.inl rfl)) c) (H3 (fun e he=>hI e (List.mem_cons.2 (.inr he))) _)
theorem OZ(hcall:M9 fuel call):∀(m:Nat) (st:CS),st.parts<=m->Ug call s fuel st
 |0,st,hm=>by cases st;rw[CS.parts]at hm;omega
 |m+1,.mk k sl z es thn els,hm=>by
  rw[CS.parts]at hm;have hT:∀e∈thn,Ug call s fuel e:=fun e he=>OZ hcall m e Y0
  have hL:∀e∈els,Ug call s fuel e:=fun e he=>OZ hcall m e YZ
  intro c;rw[CS.run]
  by_cases k6:k=6
  . rw[if_pos k6];exact SV hcall (fun e he=>XU hcall e.parts e (Nat.le_refl _)) [] c
  rw[if_neg k6]
  by_cases k5:k=5
  . rw[if_pos k5];exact Ns (fun c=>SU hcall _ c) (fun c=>H3 hT c) _ c
  rw[if_neg k5];have h:=SU (s:=s) hcall es c;generalize Cu call s es c=p at h|-;obtain⟨x,c1⟩:=p;dsimp only at h|-
  cases c1.fin==0 with
  |false=>exact h
  |true=>
   simp only[cond_true]
   by_cases k7:k=7
   . rw[if_pos k7];exact h
   rw[if_neg k7]
   by_cases k1:k=1
   . rw[if_pos k1];exact h
   rw[if_neg k1]
   by_cases k2:k=2
   . rw[if_pos k2];have h3:=Rs.trans h (SU (s:=s) hcall (es.drop 1) c1);generalize Cu call s (es.drop 1) c1=q at h3|-;obtain⟨y,c2⟩:=q;dsimp only at h3|-
     cases c2.fin==0 with
     |false=>exact h3
     |true=>cases decide (x>=z)<;>exact h3
   rw[if_neg k2]
   by_cases k3:k=3
   . rw[if_pos k3]
     cases decide (c1.m.out.length>=65536)<;>exact h
   rw[if_neg k3]
   cases x==0 with
   |true=>exact Rs.trans h (H3 hL c1)
   |false=>exact Rs.trans h (H3 hT c1)
end
theorem Ub{C:Core}{s:ByteArray}{fuel:Int}:∀n,M9 fuel (FM C s fuel n)
 |0=>fun f args c=>Rs.refl _ _
 |n+1=>fun f args c=>by
  rw[FM]
  cases (BH fuel c).1 with
  |false=>exact Jg c
  |true=>
   simp only[cond_true]
   cases e:C.funcs[f.toNat]? with
   |none=>exact Rs.refl _ _
   |some g=>
    dsimp only;have h:=H3 (call:=FM C s fuel n) (s:=s) (fuel:=fuel) (l:=g.body) (fun st hs=>OZ (Ub n) st.parts st (Nat.le_refl _)) ((BH fuel c).2.put {(BH fuel c).2.m with words:=CT (Bt c.m.words g.first g.slots.toNat) g.first args args.length});have h2:=Rs.trans (Jg (fuel:=fuel) c) h;generalize CS.runL (FM C s fuel n) s fuel g.body _=c1 at h2|-
    cases c1.over<;>exact h2
theorem Z5(C:Core)(s:ByteArray)(fuel:Int):((Iq C s fuel).steps:Int)<=max fuel 0:=by
 unfold Iq
 cases e:C.funcs[C.funcs.length-1]? with
 |none=>show((0:Nat):Int)<=_;omega
 |some g=>
  dsimp only;have h:Rs fuel (c0 C) _:=H3 (call:=FM C s fuel (C.funcs.length-1)) (s:=s) (l:=g.body) (fun st hs=>OZ (Ub _) st.parts st (Nat.le_refl _)) (c0 C);have h2:=h (by show((0:Nat):Int)<=_;omega);generalize CS.runL (FM C s fuel (C.funcs.length-1)) s fuel g.body (c0 C)=c1 at h2|-
  cases c1.m.fin==0<;>exact h2
section
variable {P : Program} {T : Nat -> Option AD} {o : Oper} {e : AN} {h : Ag}
theorem jv{t t':TypeId}{x y:Operand}{k k':IntKind}{m n:Int}(ho:o.op=.call {callee:=.builtin .min,args:= #[x,y],argTypes:= #[t,t']})(hx:AA e x=some (.int k m))(hy:AA e y=some (.int k' n)):QLoc P o e h [] (.int k (min m n)):=by
 intro H ι a w s hs h1 h2;have hx':AA s.env x=some (.int k m):=by rw[h1 x Lk,hx]
 have hy':AA s.env y=some (.int k' n):=by rw[h1 y Lk,hy]
 have hvx:=(AH hs hx').int_inv;have hvy:=(AH hs hy').int_inv;refine⟨.int k (min m n),.int _ _ _,?_⟩;have e1:(if n<m then n else m)=min m n:=by
  rw[Int.min_def];split<;>split<;>omega
 have key:(Builtin.min_ #[t,t'] o.type #[.int k m,.int k' n]).run P w=.ok (.int k (min m n)) w:=by
  show(List.foldlM Builtin.min2 (Value.int k m) [Value.int k' n]).run P w=_;simp only[List.foldlM,Builtin.min2,Sem.run_bind,Sem.run_pure,Result.andThen_ok,e1]
 exact bv
end
theorem Vr{x:Int}(h:64<x.toNat):Bh .quo (.int .i64 (min x 4096)) (.int .i64 8)=some (.int .i64 ((min x.toNat 4096/8:Nat):Int)):=by
 have e:min x 4096=((min x.toNat 4096:Nat):Int):=by omega
 rw[e];refine JH (b:=8) Ab (BF Aa Aa)
theorem Vs{x:Nat}:Bh .mul (.int .i64 ((min x 4096/8:Nat):Int)) (.int .i64 8)=some (.int .i64 (chunkN x:Int)):=by
 simp only[Bh,BP,isShift,cond_false,if_true];rw[BF Aa Aa];unfold chunkN;congr 2
theorem SA(b:Bd)(a:Int){n:Nat}(h:n=0):b.nought a n=b:=by unfold Bd.nought;rw[if_pos h]
section
variable {call call' : Int -> Mach -> Mach} {s : ByteArray} {fuel : Int}
end
def Xb(q n R:Nat):List (List AV):=(List.range n).map fun b=>[AV.ref (2*b+q+16) R 0 R]
theorem Jw(k0 q n R:Nat):(AObj.row false 1 (Xb q n R)).avoid (kf k0)=true:=by
 simp only[AObj.avoid,List.all_eq_true];intro cs h;unfold Xb at h;obtain⟨b,_,rfl⟩:=List.mem_map.1 h;intro x hx;simp only[List.mem_singleton]at hx;subst hx;exact Hj _ _
theorem Ghost.endCell{n:Nat}{e:AN}{h:Ag}(b0 j b:Nat){sz0 sz:Nat}{cs:List AV}{es:List (List AV)}(hb0:h b0=some (.row false sz0 [cs]))(hj:cs[j]?=some (IJ b es))(hb:h b=some (NG sz es))(hne:b0≠b):
 Ghost ⟨n,e,h⟩ ⟨n,e,Ar (hrm h b) b0 (.row false sz0 [cs.set j (.lst false es)])⟩:=by
 cases hes:es.isEmpty with
 |false=>
  have e1:IJ b es=.ref b es.length 0 es.length:=by simp[IJ,hes,TY]
  have e2:NG sz es=.row true sz es:=by simp[NG,hes,Mr]
  rw[e1]at hj;rw[e2]at hb;have:=Ghost.freezeCell (n:=n) (e:=e) b0 0 j b hb0 rfl hj hb rfl hne;rwa[List.drop_zero,List.take_length]at this
 |true=>
  have e0:es=[]:=List.isEmpty_iff.1 hes;subst e0;have hj':cs[j]?=some (.lst true []):=hj;refine(Ei b0 (es':=[cs.set j (.lst false [])]) hb0 rfl ?_).trans (.of_sub ⟨rfl,fun _ _ h=>h,fun c x hx=>?_⟩)
  . intro i ds ds' h1 h2
    cases i with
    |zero=>
     simp only[List.getElem?_cons_zero,Option.some.injEq]at h1 h2;subst h1;subst h2;exact fk
    |succ i=>simp at h1
  . have h1:Ar (hrm h b) b0 (.row false sz0 [cs.set j (.lst false [])]) c=some x:=hx;show Ar h b0 _ c=some x
    by_cases hc:c=b0
    . subst hc;rw[Br]at h1|-;exact h1
    . rw[Bb _ _ hc]at h1|-
      by_cases hcb:c=b
      . subst hcb;have:hrm h c c=some x:=h1;unfold hrm at this;rw[show Nat.beq c c=true from Nat.beq_refl c]at this
        cases this
      . rwa[IZ _ hcb]at h1
def kg(p:Nat->Bool):Nat->Nat
  |0=>0
  |n+1=>kg p n+(if p n then 2^n else 0)
def wd(p:Nat->Bool):Nat:=kg p 64
theorem Rz{n:Nat}{e:AN}{h:Ag}(b0 i j b:Nat){sz0 sz:Nat}{es0:List (List AV)}{cs:List AV}{es:List (List AV)}(hb0:h b0=some (.row false sz0 es0))(hi:es0[i]?=some cs)(hj:cs[j]?=some (IJ b es))(hb:h b=some (NG sz es))(hne:b0≠b):
 Ghost ⟨n,e,h⟩ ⟨n,e,Ar (hrm h b) b0 (.row false sz0 (es0.set i (cs.set j (.lst false es))))⟩:=by
 cases hes:es.isEmpty with
 |false=>
  have e1:IJ b es=.ref b es.length 0 es.length:=by simp[IJ,hes,TY]
  have e2:NG sz es=.row true sz es:=by simp[NG,hes,Mr]
  rw[e1]at hj;rw[e2]at hb;have:=Ghost.freezeCell (n:=n) (e:=e) b0 i j b hb0 hi hj hb rfl hne;rwa[List.drop_zero,List.take_length]at this
 |true=>
  have e0:es=[]:=List.isEmpty_iff.1 hes;subst e0;have hj':cs[j]?=some (.lst true []):=hj;have hilt:i<es0.length:=(List.getElem?_eq_some_iff.1 hi).1;refine(Ei b0 (es':=es0.set i (cs.set j (.lst false []))) hb0 At ?_).trans (.of_sub ⟨rfl,fun _ _ h=>h,fun c x hx=>?_⟩)
  . intro q ds ds' h1 h2
    by_cases hq:i=q
    . subst hq;rw[hi]at h1;cases h1;rw[List.getElem?_set_self hilt]at h2;cases h2;exact fk
    . rw[List.getElem?_set_ne hq,h1]at h2;cases h2;exact⟨rfl,fun k x y hx hy=>by rw[hx]at hy;cases hy;exact⟨fun h=>h,fun _ _ _ h=>h⟩⟩
  . have h1:Ar (hrm h b) b0 (.row false sz0 (es0.set i (cs.set j (.lst false [])))) c=some x:=hx;show Ar h b0 _ c=some x
    by_cases hc:c=b0
    . subst hc;rw[Br]at h1|-;exact h1
    . rw[Bb _ _ hc]at h1|-
      by_cases hcb:c=b
      . subst hcb;rw[Mw]at h1;cases h1
      . rwa[IZ _ hcb]at h1
def cd:Nat->AObj:=fun _=>.free
def kB(b:Nat):Bool:=decide (b<6)&&(!(b==2)&& !(b==3))
abbrev hB(o0 o1 o4 o5:AObj):Ag:=Gj (nb [o0,o1,.free,.free,o4,o5]) cd
theorem T1(o0 o1 o4 o5:AObj)(b:Nat)(hb:kB b=false):hB o0 o1 o4 o5 b=some .free:=by
 by_cases h16:b<16
 . rcases(by omega:b=0\/b=1\/b=2\/b=3\/b=4\/b=5\/b=6\/b=7\/b=8\/b=9\/b=10\/b=11\/b=12\/b=13\/b=14\/b=15)with rfl|rfl|rfl|rfl|rfl|rfl|rfl|rfl|rfl|rfl|rfl|rfl|rfl|rfl|rfl|rfl<;>first|rfl|cases hb
 . obtain⟨x,rfl⟩:∃x,b=x+16:=⟨b-16,by omega⟩
   exact Ax _ _ _
theorem ZK{h:Ag}{o0 o1 o4 o5:AObj}(h0:h 0=some o0)(h1:h 1=some o1)(h4:h 4=some o4)(h5:h 5=some o5)(a0:o0.avoid kB=true)(a1:o1.avoid kB=true)(a4:o4.avoid kB=true)(a5:o5.avoid kB=true):M5 kB (hB o0 o1 o4 o5) h:=fun b o ho=>by
 cases hk:kB b with
 |false=>rw[T1 _ _ _ _ b hk]at ho;cases ho;exact .inr ⟨rfl,rfl⟩
 |true=>
  left;have hb:b=0\/b=1\/b=4\/b=5:=by
   unfold kB at hk;simp at hk;omega
  rcases hb with rfl|rfl|rfl|rfl
  . cases ho;exact⟨h0,fun _=>⟨rfl,a0⟩⟩
  . cases ho;exact⟨h1,fun _=>⟨rfl,a1⟩⟩
  . cases ho;exact⟨h4,fun _=>⟨rfl,a4⟩⟩
  . cases ho;exact⟨h5,fun _=>⟨rfl,a5⟩⟩
def IH(l:List Block)(k:Nat):List (List AV):=l.zipIdx.map fun p=>if p.2<k then p.1.cells else FP p.2 p.1
theorem GF{l:List Block}{i:Nat}{x:Block}(h:l[i]?=some x)(k:Nat):(IH l k)[i]?=some (if i<k then x.cells else FP i x):=by
 unfold IH;rw[List.getElem?_map,BK h];rfl
theorem Ik(l:List Block)(k:Nat):(IH l k).length=l.length:=by simp[IH]
theorem Ti(l:List Block):IH l 0=By l:=by
 unfold IH By;exact List.map_congr_left fun p _=>if_neg (Nat.not_lt_zero _)
theorem VL(l:List Block):IH l l.length=l.map Block.cells:=by
 refine List.ext_getElem? fun j=>?_
 by_cases hj:j<l.length
 . obtain⟨x,hx⟩:=Ah hj;rw[GF hx,if_pos hj,List.getElem?_map,hx];rfl
 . rw[List.getElem?_eq_none (by rw[Ik];omega),List.getElem?_eq_none (by rw[List.length_map];omega)]
theorem VK{l:List Block}{k:Nat}{x:Block}(h:l[k]?=some x):(IH l k).set k ((FP k x).set 0 (XF x.ins))=IH l (k+1):=by
 refine List.ext_getElem? fun j=>?_
 rw[List.getElem?_set,Ik];have hk:=(List.getElem?_eq_some_iff.1 h).1
 by_cases hj:k=j
 . subst hj;rw[if_pos rfl,if_pos hk,GF h,if_pos Aa];rfl
 . rw[if_neg hj]
   by_cases hl:j<l.length
   . obtain⟨y,hy⟩:=Ah hl;rw[GF hy,GF hy]
     by_cases h2:j<k
     . rw[if_pos h2,if_pos Aa]
     . rw[if_neg h2,if_neg Aa]
   . rw[List.getElem?_eq_none (by rw[Ik];omega),List.getElem?_eq_none (by rw[Ik];omega)]
theorem M6{n0:Nat}{e:AN}{l:List Block}:∀(k:Nat) (h:Ag),k<=l.length->h 3=some (.row false 5 (By l))->(∀x,h (x+16)=some (Ai l x))->
 ∃h',Ghost ⟨n0,e,h⟩ ⟨n0,e,h'⟩/\h' 3=some (.row false 5 (IH l k))/\(∀c,c≠3->(∀b,b<k->c≠b+16)->h' c=h c)
 |0,h,_,h1,h2=>⟨h,.of_sub (Sub.refl _),by rw[h1,Ti],fun _ _ _=>rfl⟩
 |k+1,h,hk,h1,h2=>by
  obtain⟨h',g1,g2,g3⟩:=M6 (n0:=n0) (e:=e) k h Aa h1 h2;obtain⟨x,hx⟩:=Ah (show k<l.length by omega);have hr:h' (k+16)=some (NG 8 (x.ins.map Tac.cells)):=by rw[g3 _ Aa (fun b hb=>by omega),h2 k,Uc hx]
  have g:=Rz (n:=n0) (e:=e) 3 k 0 (k+16) g2 (show _=some (FP k x) by rw[GF hx,if_neg (Nat.lt_irrefl k)]) (show _=some (IJ (k+16) (x.ins.map Tac.cells))from rfl) hr Aa;refine⟨_,g1.trans g,?_,fun c hc hb=>?_⟩
  . rw[Br];congr 2;exact VK hx
  . rw[Bb _ _ hc,IZ _ (hb k Aa)];exact g3 c hc (fun b hb'=>hb b Aa)
def el(h:Ag):Ag:=fun c=>if c<16 then(if c=3 then none else h c)else none
theorem Ry{n:Nat}{e:AN}{h:Ag}(C:Core)(w:Bool)(b:Bd)(h2:h 2=some (.row false 6 [DY C w b]))(h3:h 3=some (.row false 5 (By b.blocks)))(hF:∀x,h (x+16)=some (Ai b.blocks x)):
 Ghost ⟨n,e,h⟩ ⟨n,e,Ar (el h) 2 (.row false 6 [[.lst false (C.funcs.map CFn.cells),.int .i64 C.words,.bool w,.int .i64 b.regs,MZ b.blocks,.int .i64 (b.now:Int)]])⟩:=by
 obtain⟨h',g1,g2,g3⟩:=M6 (n0:=n) (e:=e) (l:=b.blocks) b.blocks.length h (Nat.le_refl _) h3 hF;rw[VL]at g2;have h2':h' 2=some (.row false 6 [DY C w b]):=by rw[g3 2 Ab (fun b hb=>by omega)];exact h2
 have p1:∀cs∈b.blocks.map Block.cells,cs.all AV.isPure1=true:=fun cs hc=>by
  obtain⟨x,_,rfl⟩:=List.mem_map.1 hc;rfl
 have g4:=Ghost.plain (n:=n) (e:=e) 3 g2 p1;have g5:=Ghost.freezeCell (n:=n) (e:=e) (h:=Ar h' 3 (.row true 5 (b.blocks.map Block.cells))) 2 0 4 3 (m:=b.blocks.length) (off:=0) (len:=b.blocks.length) ((Bb _ _ Ab).trans h2') rfl rfl (Br _ _ _) (List.length_map _).symm Ab;have e1:((b.blocks.map Block.cells).drop 0).take b.blocks.length=b.blocks.map Block.cells:=by rw[List.drop_zero,List.take_of_length_le (by rw[List.length_map];exact Nat.le_refl _)]
 rw[e1]at g5;refine((g1.trans g4).trans g5).trans (.of_sub ⟨rfl,fun _ _ h=>h,fun c x hx=>?_⟩);have hx:Ar (el h) 2 _ c=some x:=hx;show Ar _ 2 _ c=some x
 by_cases hc:c=2
 . subst hc;rw[Br]at hx|-;exact hx
 . rw[Bb _ _ hc]at hx|-;unfold el at hx
   by_cases h16:c<16
   . rw[if_pos h16]at hx
     by_cases hc3:c=3
     . rw[if_pos hc3]at hx;cases hx
     . rw[if_neg hc3]at hx;rw[IZ _ hc3,Bb _ _ hc3,g3 c hc3 (fun b hb=>by omega)];exact hx
   . rw[if_neg h16]at hx;cases hx
def mW(C:Core)(k:Nat):Int:=if(C.funcs.take k).any CFn.word then C.words+1 else C.words
theorem ZD(C:Core):mW C 0=C.words:=rfl
theorem d9{C:Core}{k:Nat}{g:CFn}(h:C.funcs[k]?=some g)(hw:g.word=true):mW C (k+1)=C.words+1:=by
 unfold mW;rw[AZ h,List.any_append];simp[hw]
theorem jT{C:Core}{k:Nat}{g:CFn}(h:C.funcs[k]?=some g)(hw:g.word=false):mW C (k+1)=mW C k:=by
 unfold mW;rw[AZ h,List.any_append];simp[hw]
theorem ec{C:Core}{k:Nat}(h:C.funcs.length<=k):mW C k=C.m:=by unfold mW Core.m;rw[List.take_of_length_le h]
theorem Oz(C:Core):C.build.funcs.length=C.funcs.length:=by simp[Core.build]
abbrev bT(C:Core)(k:Nat):List (List AV):=(C.build.funcs.take k).map BFunc.cells
theorem Yn(C:Core)(k:Nat):(bT C k).length<=C.funcs.length:=by unfold bT;rw[List.length_map,List.length_take,Oz];omega
theorem au(C:Core)(k:Nat):∀cs∈bT C k,cs.length=2:=fun cs h=>by
 obtain⟨x,_,rfl⟩:=List.mem_map.1 h;rfl
theorem aj(C:Core)(k:Nat):∀cs∈bT C k,cs.all AV.isPure1=true:=fun cs h=>by
 obtain⟨x,_,rfl⟩:=List.mem_map.1 h;rfl
theorem ap{C:Core}{k:Nat}{g:CFn}(h:C.funcs[k]?=some g):bT C k++[(CL C g (k+1==C.funcs.length)).cells]=bT C (k+1):=by
 unfold bT;rw[AZ (Kh h),List.map_append];rfl
theorem eM{C:Core}{k:Nat}(h:C.funcs.length<=k):bT C k=C.build.funcs.map BFunc.cells:=by unfold bT;rw[List.take_of_length_le (by rw[Oz];exact h)]
def G3(C:Core)(g:CFn)(last:Bool):Bd:=bif last then bd0 else bd0.nought (g.first+g.params) (g.slots-g.params).toNat
theorem SS(C:Core)(g:CFn)(last:Bool):Pl (G3 C g last):=by
 unfold G3;cases last
 . exact(G9 pl0 _ _).pl
 . exact pl0
theorem Q4(C:Core)(g:CFn)(last:Bool):(G3 C g last).cnt<=2+(g.slots-g.params).toNat:=by
 unfold G3;cases last
 . have:=(MP eJ (a:=g.first+g.params) (g.slots-g.params).toNat).1;rw[Yb]at this;show(bd0.nought _ _).cnt<=_;omega
 . show bd0.cnt<=_;rw[Yb];omega
theorem IM{k:Nat->Bool}{m:Int}{b:Nat}{es:List (List AV)}(h:k b=true):(AObj.row false 2 [[.int .i64 m,IJ b es]]).avoid k=true:=by
 show(List.all [_,_] (AV.avoid k)&&true)=true;simp only[List.all_cons,List.all_nil,Bool.and_true,Bool.and_eq_true];exact⟨rfl,Gp _ h⟩
theorem Y5(m:Int)(b:Nat):∀(i:Nat) (ds ds':List AV),[[AV.int .i64 m,.nil]][i]?=some ds->[[AV.int .i64 m,IJ b []]][i]?=some ds'->ds'.length=ds.length/\∀(j:Nat) (a c:AV),ds[j]?=some a->ds'[j]?=some c->(a.cell1=true->c.cell1=true)/\∀H ι v,Rel H ι a v->Rel H ι c v:=fun i ds ds' h1 h2=>by
 cases i with
 |succ i=>simp at h1
 |zero=>
  cases h1;cases h2
  refine⟨rfl,fun j a c g1 g2=>?_⟩
  match j,g1,g2 with
  |0,g1,g2=>cases g1;cases g2;exact Wkb.refl _
  |1,g1,g2=>cases g1;cases g2;exact Wkb.nil b
  |j+2,g1,g2=>simp at g1
section
variable {P : Program} {T : Nat -> Option AD} {o : Oper} {e : AN} {h : Ag}
theorem Hc{R:List Nat}{x y:AV}(h0:QLoc P o e h R x)(hxy:∀H ι v,Rel H ι x v->Rel H ι y v):QLoc P o e h R y:=fun H ι a w s hs g1 g2=>by
 obtain⟨v,h1,h2⟩:=h0 H ι a w s hs g1 g2;exact⟨v,hxy _ _ _ h1,h2⟩
end
def jZ:AV->AV
  | .nil=>.lst false []
  |x=>x
theorem ZQ{H:AJ}{ι:Bi}{x:AV}{v:Value}(h:Rel H ι x v):Rel H ι (jZ x) v:=by
 cases x with
 |nil=>exact U7 h
 |_=>exact h
theorem Lj{H:AJ}{ι:Bi}{cs ds:List AV}{v:Value}(h:Rel H ι (.agg cs) v)(e:cs.map jZ=ds):Rel H ι (.agg ds) v:=by
 subst e;obtain⟨us,rfl,hl,hr⟩:=h.agg_inv;refine .agg _ _ _ (by rw[List.length_map];exact hl) fun j x u h1 h2=>?_
 rw[List.getElem?_map]at h1
 cases hc:cs[j]? with
 |none=>rw[hc]at h1;cases h1
 |some y=>rw[hc]at h1;cases h1;exact ZQ (hr j y u hc h2)
structure Bld(C:Core):Prop where
  ok:C.Ok
  fit:In C
  r:M8 C
  parts:C.parts<=100000
theorem Bld.okL{C:Core}(h:Bld C)(i:Nat)(g:CFn)(hg:C.funcs[i]?=some g):CS.okL C i g.word g.body:=(h.fit.ok.fn i g hg).body
theorem Bld.partsL{C:Core}(h:Bld C)(g:CFn)(hg:g∈C.funcs):CS.partsL g.body<=1000000:=by have:=GT hg;have:=h.parts;omega
theorem Bld.fn{C:Core}(h:Bld C)(g:CFn)(hg:g∈C.funcs):11*CS.partsL g.body+(g.slots-g.params).toNat+4<=2000000:=by
 have h1:=GT hg;have h2:=h.parts;obtain⟨f1,f2,f3,f4,f5⟩:=h.r.fn g hg;have h3:=h.r.w1;omega
theorem Bld.ins{C:Core}(h:Bld C):∀f∈C.build.funcs,∀x∈f.blocks,x.ins.length<=2000000:=Vx h.fn
theorem Bld.ins2{C:Core}(h:Bld C):∀f∈C.build.funcs,∀x∈f.blocks,x.ins.length<=maxLen:=fun f hf x hx=>by
 have:=h.ins f hf x hx;simp only[maxLen];omega
theorem Bld.right{C:Core}(h:Bld C):C.build.right=true:=Rh h.fit
theorem Bld.w{C:Core}(h:Bld C):C.build.insW:=S9 h.ok
theorem Bld.kle{C:Core}(h:Bld C):C.k<=10000000:=by
 have h1:=h.parts;have h2:=h.r.w0;have h3:=h.r.w1;unfold Core.k;omega
theorem Q2(n k:Nat):((n:Int)+1)*(k:Int)=(((n+1)*k:Nat):Int):=by
 rw[Int.natCast_mul];rfl
theorem T3{n k:Nat}(hn:n<=100000)(hk:k<=10000000):((n:Int)+1)*(k:Int)<=9223372036854775807:=by
 rw[Q2];have:(n+1)*k<=100001*10000000:=Nat.mul_le_mul Aa hk;omega
theorem Bld.ends{C:Core}(h:Bld C){s:ByteArray}{fuel:Int}(h5:(Iq C s fuel).fin≠5){n:Nat}(hn:(Iq C s fuel).steps<=n):(JA C.build s ((((n:Nat):Int)+1)*(C.k:Int))).fin=(Iq C s fuel).fin/\(JA C.build s ((((n:Nat):Int)+1)*(C.k:Int))).out=(Iq C s fuel).out:=by
 have:=Vw h.fit (s:=s) (fuel:=fuel) rfl h5 ((n+1)*C.k) (Nat.mul_le_mul_right _ Aa);rw[<-Q2]at this;exact this
theorem Oo{x y:Mach}(h1:x.fin=y.fin)(h2:x.out=y.out):(x.fin==y.fin&&(x.out==y.out))=true:=by rw[h1,h2];simp
def aliveC:Core:=⟨0,[⟨0,0,0,false,[WJ (Vn 65)]⟩]⟩
theorem Z2{n:Int}(h:CW n):(Vn n).Ok:=.mk ⟨by decide,by decide⟩ ⟨by decide,by decide⟩ h ⟨by decide,by decide⟩ ⟨by decide,by decide⟩ Ab (fun e he=>by cases he)
theorem isI_zero:GJ 0:=⟨by decide,by decide⟩
theorem rb:100000000<=reachBytes:=by decide
theorem XD{n:Int}(h0: -1000000<=n)(h1:n<=1000000):GJ n:=⟨by omega,by omega⟩
theorem Zt{e:CE}(h:e.Ok):∀x∈[e],x.Ok:=fun x hx=>by rw[List.mem_singleton]at hx;subst hx;exact h
theorem Ze{e:CE}(h:e.Ok):(WJ e).Ok:=.mk (XD Ab Ab) isI_zero isI_zero (Nat.le_trans (by show 1*64<=100000000;decide) rb) (Zt h) Ab (fun e he=>by cases he) Ab (fun e he=>by cases he)
theorem Zu{w:Int}(h0:0<=w)(h1:w<=1000000){body:List CS}(hl:body.length<=1000000)(hb:∀s∈body,s.Ok):(St w body).Ok where
 words:=XD (by show -1000000<=w;omega) h1
 len:=by show 1*56<=_;decide
 funcs:=fun f hf=>by
  have hf:f∈[(⟨0,0,0,false,body⟩:CFn)]:=hf;rw[List.mem_singleton]at hf;subst hf;have:=rb;exact⟨isI_zero,isI_zero,isI_zero,by show body.length*96<=_;omega,hb⟩
theorem dV{w:Int}(h0:0<=w)(h1:w<=32768)(body:List CS):M8 (St w body) where
 w0:=h0
 w1:=h1
 n0:=Nat.le_refl _
 n1:=by show 1<=64;decide
 fn:=fun g hg=>by
  have hg:g∈[(⟨0,0,0,false,body⟩:CFn)]:=hg;rw[List.mem_singleton]at hg;subst hg;exact⟨Int.le_refl 0,(by decide:(0:Int)<=6),Int.le_refl 0,Int.le_refl 0,(by omega:(0:Int)+0<=w)⟩
theorem alive_bld:Bld aliveC where
 ok:=Zu Ab Ab Ab (fun s hs=>by rw[List.mem_singleton]at hs;subst hs;exact Ze (Z2 ⟨by decide,by decide⟩))
 fit:=Zr Ab Ab (fun st hs=>by rw[List.mem_singleton]at hs;subst hs;exact Zd (Z1 ⟨by decide,by decide⟩)) (fun st hs=>by rw[List.mem_singleton]at hs;subst hs;decide)
 r:=dV Ab Ab _
 parts:=by decide
theorem VT(s:ByteArray):(Iq aliveC s 0).fin=1/\(Iq aliveC s 0).out=[65]/\(Iq aliveC s 0).steps=0:=⟨rfl,rfl,rfl⟩
theorem M3(s:ByteArray):(JA aliveC.build s ((0+1)*(aliveC.k:Int))).fin=1/\(JA aliveC.build s ((0+1)*(aliveC.k:Int))).out=[65]:=by
 have h1:=VT s;have h2:=alive_bld.ends (s:=s) (fuel:=0) (n:=0) (by rw[h1.1];decide) (by rw[h1.2.2];decide);rw[h1.1,h1.2.1]at h2;exact h2
theorem Dr(s x:ByteArray)(l:List ByteArray)(k:Nat):placeOf s (x::l) k=bif decide (x=s)then(k:Int)else placeOf s l (k+1):=rfl
theorem Gf(s:ByteArray):∀(l:List ByteArray) (k:Nat),placeOf s l k=if placeOf s l 0<0 then -1 else placeOf s l 0+k
 | [],k=>rfl
 |x::l,k=>by
  rw[Dr,Dr]
  cases decide (x=s)with
  |true=>simp
  |false=>
   simp only[cond_false];rw[Gf s l (k+1),Gf s l (0+1)];have:=C0 s l 0
   by_cases h:placeOf s l 0<0
   . simp[h]
   . rw[if_neg h,if_neg h,if_neg Aa];omega
theorem KF(s:ByteArray)(b:List ByteArray):∀(a:List ByteArray) (k:Nat),placeOf s (a++b) k=if 0<=placeOf s a k then placeOf s a k else placeOf s b (k+a.length)
 | [],k=>by
  have:placeOf s [] k= -1:=rfl;rw[this];rfl
 |x::a,k=>by
  rw[List.cons_append,Dr,Dr]
  cases decide (x=s)with
  |true=>simp
  |false=>
   simp only[cond_false];rw[KF s b a (k+1),List.length_cons,show k+1+a.length=k+(a.length+1) by omega]
theorem ZX(p:PProg)(f:Nat)(s:ByteArray):∃o:Int,p.find f s=(bif decide (0<=o)then(1,o)else(bif decide (placeOf s p.globals 0<0)then(0,-1)
 else bif decide (placeOf s p.globals 0<p.vars.length)then(2,placeOf s p.globals 0)else bif decide (placeOf s p.globals 0-p.vars.length<p.arrays.length)then(3,placeOf s p.globals 0-p.vars.length)else(4,placeOf s p.globals 0-p.vars.length-p.arrays.length))):=by
 cases hf:p.funcs[f]? with
 |none=>exact⟨-1,by unfold PProg.find;rw[hf]⟩
 |some g=>exact⟨placeOf s g.names 0,by unfold PProg.find;rw[hf]⟩
theorem On{p:PProg}{f:Nat}{s:ByteArray}(h:(p.find f s).1=4):p.fnum s=(p.find f s).2:=by
 have hs:(p.find f s).2=placeOf s p.globals 0-p.vars.length-p.arrays.length/\0<=placeOf s p.globals 0/\(p.vars.length:Int)+p.arrays.length<=placeOf s p.globals 0:=by
  obtain⟨o,ho⟩:=ZX p f s;rw[ho]at h|-;generalize placeOf s p.globals 0=k at h|-
  by_cases h0:0<=o
  . simp[h0]at h
  . by_cases h1:k<0
    . simp[h0,h1]at h
    . by_cases h2:k<p.vars.length
      . simp[h0,h1,h2]at h
      . by_cases h3:k-p.vars.length<p.arrays.length
        . simp[h0,h1,h2,h3]at h
        . simp[h0,h1,h2,h3];omega
 obtain⟨h1,h2,h3⟩:=hs;rw[h1];unfold PProg.globals at h2 h3|-;rw[KF]at h2 h3|-;have hb:=C0 s (p.vars++p.arrays.map (·.1)) 0;rw[List.length_append,List.length_map]at hb
 by_cases h0:0<=placeOf s (p.vars++p.arrays.map (·.1)) 0
 . rw[if_pos h0]at h3;omega
 . rw[if_neg h0]at h2 h3|-;rw[Gf]at h2 h3|-;unfold PProg.fnum
   by_cases h5:placeOf s (p.funcs.map (·.name)) 0<0
   . rw[if_pos h5]at h2;omega
   . rw[if_neg h5,List.length_append,List.length_map];omega
theorem N1{b:Bool}{n:Nat}(h:b= !(n==0)):(b=false->n=0)/\(b=true->n≠0):=by
 cases hz:n==0 with
 |true=>rw[hz]at h;exact⟨fun _=>by simpa using hz,fun e=>by rw[e]at h;cases h⟩
 |false=>rw[hz]at h;exact⟨fun e=>(by rw[e]at h;cases h),fun _=>by simpa using hz⟩
theorem PE.rightL_all(level:Int):∀l:List PE,PE.rightL l level=l.all fun e=>e.right level
 | []=>by rw[PE.rightL];rfl
 |e::l=>by rw[PE.rightL,PE.rightL_all level l];rfl
theorem PSt.rightL_all(level:Int):∀l:List PSt,PSt.rightL l level=l.all fun e=>e.right level
 | []=>by rw[PSt.rightL];rfl
 |e::l=>by rw[PSt.rightL,PSt.rightL_all level l];rfl
theorem D2(p:PProg)(t:Int):∀l:List PE,AW p t l=l.all fun e=>e.ty p==t
 | []=>by rw[AW];rfl
 |e::l=>by rw[AW,D2 p t l];rfl
theorem CG(p:PProg)(w:Bool):∀l:List PSt,Bj p w l=l.all fun e=>e.fits p w
 | []=>by rw[Bj];rfl
 |e::l=>by rw[Bj,CG p w l];rfl
theorem PE.usesL_mem{e:PE}{u:Use}:∀{l:List PE},e∈l->u∈e.uses->u∈PE.usesL l
 | [],h,_=>by cases h
 |x::l,h,hu=>by
  rw[PE.usesL,List.mem_append];rcases List.mem_cons.1 h with rfl|h
  . exact .inl hu
  . exact .inr (PE.usesL_mem h hu)
theorem PSt.usesL_mem{e:PSt}{u:Use}:∀{l:List PSt},e∈l->u∈e.uses->u∈PSt.usesL l
 | [],h,_=>by cases h
 |x::l,h,hu=>by
  rw[PSt.usesL,List.mem_append];rcases List.mem_cons.1 h with rfl|h
  . exact .inl hu
  . exact .inr (PSt.usesL_mem h hu)
theorem PE.fitL_of{p:PProg}{f:Nat}{b:Bool}:∀{l:List PE},(∀e∈l,e.fit p f b)->PE.fitL p f l b
 | [],_=>by rw[PE.fitL];trivial
 |e::l,h=>by rw[PE.fitL];exact⟨h e At,PE.fitL_of fun u hu=>h u Hq⟩
theorem PSt.fitL_of{p:PProg}{f:Nat}{w:Bool}:∀{l:List PSt},(∀e∈l,e.fit p f w)->PSt.fitL p f w l
 | [],_=>by rw[PSt.fitL];trivial
 |e::l,h=>by rw[PSt.fitL];exact⟨h e At,PSt.fitL_of fun u hu=>h u Hq⟩
theorem Gn{p:PProg}{f:Nat}{nm:ByteArray}{a n:Int}(h:Fq p f ⟨nm,a,n⟩=true):(a=1->(p.find f nm).1=1\/(p.find f nm).1=2)/\(a=3->(p.find f nm).1=3)/\(a=4->(p.find f nm).1=4/\(p.find f nm).2<f):=by
 unfold Fq at h;dsimp only at h;generalize p.find f nm=K at h;obtain⟨k,i⟩:=K;dsimp only at h|-;refine⟨fun e=>?_,fun e=>?_,fun e=>?_⟩
 . subst e;simp at h;exact h
 . subst e;simpa using h
 . subst e;simp at h;exact⟨h.1,by omega⟩
theorem TB{p:PProg}{f:Nat}{nm:ByteArray}{n:Int}(h:Eo p f ⟨nm,4,n⟩=true):∃G,p.funcs[(p.find f nm).2.toNat]?=some G/\(G.params.length:Int)=n:=by
 unfold Eo at h;dsimp only at h
 cases hG:p.funcs[(p.find f nm).2.toNat]? with
 |none=>rw[hG]at h;simp at h
 |some G=>rw[hG]at h;exact⟨G,rfl,by simpa using h⟩
def ce(p:PProg)(f:Nat)(u:Use):Prop:=Fq p f u=true/\Eo p f u=true
theorem cc{p:PProg}{f:Nat}:∀(m:Nat) (e:PE),e.parts<=m->∀(level:Int) (b:Bool),e.right level=true->(∀u∈e.uses,ce p f u)->e.ty p=(bif b then 2 else 1)->e.fit p f b
 |0,e,hm=>by cases e;rw[PE.parts]at hm;omega
 |m+1,.mk k o n nm kids,hm=>by
  intro level b hr hu ht;rw[PE.parts]at hm;rw[PE.right,Bool.and_eq_true,Bool.and_eq_true]at hr;obtain⟨_,hc,hr⟩:=hr;rw[PE.uses]at hu;have hu1:∀u∈PE.use k nm kids.length,ce p f u:=fun u h=>hu u (List.mem_append_left _ h)
  have hu2:∀e∈kids,∀u∈e.uses,ce p f u:=fun e he u h=>hu u (List.mem_append_right _ (PE.usesL_mem he h))
  have key:∀(lv:Int) (b':Bool),PE.rightL kids lv=true->AW p (bif b' then 2 else 1) kids=true->PE.fitL p f kids b':=fun lv b' h1 h2=>by
   rw[PE.rightL_all,List.all_eq_true]at h1;rw[D2,List.all_eq_true]at h2;exact PE.fitL_of fun e he=>cc m e Wh lv b' (h1 e he) (hu2 e he) (by simpa using h2 e he)
  have hb2:(bif b then(2:Int)else 1)≠0:=by cases b<;>decide
  unfold PE.callme Mg at hc;dsimp only[PE.kind,PE.name]at hc;rw[Bool.and_eq_true,beq_iff_eq]at hc;have hnm:=N1 hc.1;rw[PE.ty]at ht;rw[PE.fit]
  by_cases k1:k=1
  . subst k1;simp at hr ht;refine⟨by rw[hr,PE.fitL];trivial,.inl ⟨rfl,?_,hnm.1 rfl,hr⟩⟩
    cases b
    . rfl
    . simp at ht
  by_cases k2:k=2
  . subst k2;simp at hr ht;have:=(Gn (hu1 ⟨nm,1,0⟩ (by simp[PE.use])).1).1 rfl;refine⟨by rw[hr,PE.fitL];trivial,.inr (.inl ⟨rfl,?_,hnm.2 rfl,this,hr⟩)⟩
    cases b
    . rfl
    . simp at ht
  by_cases k5:k=5
  . subst k5;simp at hr ht;refine⟨by rw[hr,PE.fitL];trivial,.inr (.inr (.inr (.inr (.inl ⟨rfl,?_,hnm.1 rfl,hr⟩))))⟩
    cases b
    . rfl
    . simp at ht
  by_cases k3:k=3
  . subst k3;simp at hr ht;have h3:=(Gn (hu1 ⟨nm,3,0⟩ (by simp[PE.use])).1).2.1 rfl
    cases hty:AW p 1 kids with
    |false=>rw[hty]at ht;exact absurd ht.symm hb2
    |true=>
     rw[hty]at ht;refine⟨key _ false hr.2 hty,.inr (.inr (.inl ⟨rfl,?_,hnm.2 rfl,h3,by omega⟩))⟩
     cases b
     . rfl
     . simp at ht
  by_cases k4:k=4
  . subst k4;simp at hr ht;have h4:=(Gn (hu1 ⟨nm,4,kids.length⟩ (by simp[PE.use])).1).2.2 rfl;obtain⟨G,hG,hn⟩:=TB (hu1 ⟨nm,4,kids.length⟩ (by simp[PE.use])).2;rw[On h4.1]at ht;have hw:p.wordF (p.find f nm).2=G.word:=by unfold PProg.wordF;rw[hG];rfl
    rw[hw]at ht
    cases hc:(decide (0<=(p.find f nm).2)&&(G.word&&AW p 1 kids))with
    |false=>rw[hc]at ht;exact absurd ht.symm hb2
    |true=>
     rw[hc]at ht;simp only[Bool.and_eq_true]at hc;refine⟨key _ false hr.2 hc.2.2,.inr (.inr (.inr (.inl ⟨rfl,?_,hnm.2 rfl,h4.1,h4.2,G,hG,by omega,hc.2.1⟩)))⟩
     cases b
     . rfl
     . simp at ht
  by_cases k6:k=6
  . subst k6;simp at hr ht
    cases hty:AW p 1 kids with
    |false=>rw[hty]at ht;exact absurd ht.symm hb2
    |true=>
     rw[hty]at ht;refine⟨key _ false hr.2.2.2 hty,.inr (.inr (.inr (.inr (.inr (.inl ⟨rfl,hnm.1 rfl,by omega,⟨hr.1,hr.2.1⟩,?_⟩)))))⟩
     cases hb:(o==14||o==15)<;>rw[hb]at ht<;>cases b<;>simp at ht|-
  by_cases k7:k=7
  . subst k7;simp at hr ht
    cases hty:AW p 2 kids with
    |false=>rw[hty]at ht;exact absurd ht.symm hb2
    |true=>
     rw[hty]at ht;refine⟨key _ true hr.2 hty,.inr (.inr (.inr (.inr (.inr (.inr (.inl ⟨rfl,?_,hnm.1 rfl,by omega⟩))))))⟩
     cases b
     . simp at ht
     . rfl
  by_cases k8:k=8
  . subst k8;simp at hr ht
    cases hty:AW p 2 kids with
    |false=>rw[hty]at ht;exact absurd ht.symm hb2
    |true=>
     rw[hty]at ht;refine⟨key _ true hr.2 hty,.inr (.inr (.inr (.inr (.inr (.inr (.inr ⟨.inl rfl,?_,hnm.1 rfl,by omega⟩))))))⟩
     cases b
     . simp at ht
     . rfl
  by_cases k9:k=9
  . subst k9;simp at hr ht
    cases hty:AW p 2 kids with
    |false=>rw[hty]at ht;exact absurd ht.symm hb2
    |true=>
     rw[hty]at ht;refine⟨key _ true hr.2 hty,.inr (.inr (.inr (.inr (.inr (.inr (.inr ⟨.inr rfl,?_,hnm.1 rfl,by omega⟩))))))⟩
     cases b
     . simp at ht
     . rfl
  . simp[k1,k2,k3,k4,k5,k6,k7,k8,k9]at hr
theorem XQ{p:PProg}{f:Nat}{w:Bool}:∀(m:Nat) (e:PSt),e.parts<=m->∀(level:Int),e.right level=true->(∀u∈e.uses,ce p f u)->e.fits p w=true->e.fit p f w
 |0,e,hm=>by cases e;rw[PSt.parts]at hm;omega
 |m+1,.mk k nm es thn els,hm=>by
  intro level hr hu ht;rw[PSt.parts]at hm;rw[PSt.right]at hr;simp only[Bool.and_eq_true]at hr;obtain⟨_,hc,hfs,hE,hT,hL⟩:=hr;rw[PSt.uses]at hu;have hu1:∀u∈PSt.use k nm es.length,ce p f u:=fun u h=>hu u (List.mem_append_left _ h)
  have hu2:∀e∈es,∀u∈e.uses,ce p f u:=fun e he u h=>hu u (List.mem_append_right _ (List.mem_append_left _ (PE.usesL_mem he h)))
  have hu3:∀e∈thn,∀u∈e.uses,ce p f u:=fun e he u h=>hu u (List.mem_append_right _ (List.mem_append_right _ (List.mem_append_left _ (PSt.usesL_mem he h))))
  have hu4:∀e∈els,∀u∈e.uses,ce p f u:=fun e he u h=>hu u (List.mem_append_right _ (List.mem_append_right _ (List.mem_append_right _ (PSt.usesL_mem he h))))
  rw[PSt.fits]at ht;simp only[Bool.and_eq_true]at ht;obtain⟨htE,ht6,ht7,htT,htL⟩:=ht;rw[PSt.rightL_all,List.all_eq_true]at hT hL;rw[CG,List.all_eq_true]at htT htL;rw[PE.rightL_all,List.all_eq_true]at hE;have fE:PE.fitL p f es (k==4||k==5):=PE.fitL_of fun e he=>by
   refine cc e.parts e (Nat.le_refl _) _ _ (hE e he) (hu2 e he) ?_
   cases hk:(k==4||k==5)with
   |true=>
    rw[hk]at htE;have htE':AW p 2 es=true:=htE;rw[D2,List.all_eq_true]at htE';simpa using htE' e he
   |false=>
    rw[hk]at htE;have htE':AW p 1 es=true:=htE;rw[D2,List.all_eq_true]at htE';simpa using htE' e he
  have fT:PSt.fitL p f w thn:=PSt.fitL_of fun e he=>XQ m e PP _ (hT e he) (hu3 e he) (htT e he)
  have fL:PSt.fitL p f w els:=PSt.fitL_of fun e he=>XQ m e PP _ (hL e he) (hu4 e he) (htL e he)
  unfold PSt.callme Mf at hc;dsimp only[PSt.kind,PSt.name]at hc;rw[Bool.and_eq_true,beq_iff_eq]at hc;have hnm:=N1 hc.1;unfold Q5 at hfs;rw[PSt.fit];refine⟨fE,fT,fL,?_⟩
  by_cases k1:k=1
  . subst k1;simp at hfs;exact .inl ⟨rfl,hnm.2 rfl,(Gn (hu1 ⟨nm,1,0⟩ (by simp[PSt.use])).1).1 rfl,by omega⟩
  by_cases k2:k=2
  . subst k2;simp at hfs;exact .inr (.inl ⟨rfl,hnm.2 rfl,(Gn (hu1 ⟨nm,3,0⟩ (by simp[PSt.use])).1).2.1 rfl,by omega⟩)
  by_cases k3:k=3
  . subst k3;simp at hfs;exact .inr (.inr (.inl ⟨rfl,hnm.1 rfl,by omega⟩))
  by_cases k4:k=4
  . subst k4;simp at hfs;exact .inr (.inr (.inr (.inl ⟨rfl,hnm.1 rfl,by omega⟩)))
  by_cases k5:k=5
  . subst k5;simp at hfs;exact .inr (.inr (.inr (.inr (.inl ⟨rfl,hnm.1 rfl,by omega⟩))))
  by_cases k6:k=6
  . subst k6;simp at hfs ht6;have h4:=(Gn (hu1 ⟨nm,4,es.length⟩ (by simp[PSt.use])).1).2.2 rfl;obtain⟨G,hG,hn⟩:=TB (hu1 ⟨nm,4,es.length⟩ (by simp[PSt.use])).2;rw[On h4.1]at ht6;have hw:p.wordF (p.find f nm).2=G.word:=by unfold PProg.wordF;rw[hG];rfl
    rw[hw]at ht6;exact .inr (.inr (.inr (.inr (.inr (.inl ⟨rfl,hnm.2 rfl,h4.1,h4.2,G,hG,by omega,ht6⟩)))))
  by_cases k7:k=7
  . subst k7;simp at hfs ht7;refine .inr (.inr (.inr (.inr (.inr (.inr ⟨rfl,hnm.1 rfl,?_⟩)))))
    by_cases h0:es=[]
    . exact .inl h0
    . have:es.length≠0:=fun h=>h0 (List.length_eq_zero_iff.1 h)
      refine .inr ⟨by omega,?_⟩;rcases ht7 with h|h
      . exact absurd h h0
      . exact h
  . simp[k1,k2,k3,k4,k5,k6,k7]at hfs
structure Sized(p:PProg):Prop where
  arr:∀(i:Nat) (x:ByteArray×Int),p.arrays[i]?=some x->1<=x.2/\x.2<=4096
  par:∀(i:Nat) (G:PFn),p.funcs[i]?=some G->G.params.length<=6
  words:p.words<=32768
  n:p.funcs.length<=70
section
variable {p : PProg}
theorem Sized.geo(h:Sized p){W:Nat}(hW:p.words<=W):Uk p W:=⟨fun i x hx=>by have:=(h.arr i x hx).1;omega,hW⟩
theorem Sized.geo'(h:Sized p):Uk p p.words.toNat:=h.geo Aa
theorem Sized.w0(h:Sized p):0<=p.words:=by
 have h1:=Dt h.geo';have h2:=Ce (p:=p) 0;have h3:=Ck (p:=p) (Nat.zero_le _);omega
theorem OW(h:Sized p){f:Nat}{s:ByteArray}(hk:(p.find f s).1=1\/(p.find f s).1=2):0<=(p.slot f s).1/\(p.slot f s).1<p.words/\(p.slot f s).2=0:=by
 have hsp:=BQ p f s;have hb:=Dt h.geo';have hf:=Ce (p:=p) f;have hf0:=Ce (p:=p) 0;have hw:=Ck (p:=p) (Nat.zero_le _);unfold PProg.slot;generalize p.find f s=K at hk hsp|-;obtain⟨k,i⟩:=K;dsimp only at hk hsp|-;rcases hk with rfl|rfl
 . obtain⟨G,hG,h1,h2⟩:=hsp.1 rfl;have hn:=Ex hG;have hl:=Ck (p:=p) (show f+1<=p.funcs.length from(List.getElem?_eq_some_iff.1 hG).1);refine⟨?_,?_,rfl⟩
   . show 0<=p.first f+i;omega
   . show p.first f+i<_;omega
 . obtain⟨h1,h2⟩:=hsp.2.1 rfl;refine⟨h1,?_,rfl⟩;show i<_;omega
theorem OV(h:Sized p){f:Nat}{s:ByteArray}(hk:(p.find f s).1=3):1<=(p.slot f s).2/\(p.slot f s).2<=4096/\0<=(p.slot f s).1/\(p.slot f s).1+(p.slot f s).2<=p.words:=by
 have hsp:=BQ p f s;generalize hi:p.find f s=K at hk hsp;obtain⟨k,i⟩:=K;dsimp only at hk hsp;subst hk;obtain⟨h1,h2⟩:=hsp.2.2.1 rfl;have hx:p.arrays[i.toNat]?=some (p.arrays[i.toNat]'(Aa)):=List.getElem?_eq_getElem _;generalize p.arrays[i.toNat]'(Aa)=X at hx;rw[Kl hi hx];have a1:=h.arr _ _ hx;have a2:=Du hx;have a3:=Fo h.geo' (i.toNat+1);have a4:=D1 h.geo' i.toNat;have hf0:=Ce (p:=p) 0;have hw:=Ck (p:=p) (Nat.zero_le _);refine⟨a1.1,a1.2,?_,?_⟩
 . show 0<=p.aoff i.toNat;omega
 . show p.aoff i.toNat+X.2<=_;omega
theorem LF{f:Nat}{s:ByteArray}(hk:(p.find f s).1=4):(p.slot f s).1=(p.find f s).2/\(p.slot f s).2=0/\0<=(p.find f s).2/\(p.find f s).2<p.funcs.length:=by
 have hsp:=BQ p f s;unfold PProg.slot;generalize p.find f s=K at hk hsp|-;obtain⟨k,i⟩:=K;dsimp only at hk hsp|-;subst hk;exact⟨rfl,rfl,hsp.2.2.2 rfl⟩
theorem PE.coreL_len(f:Nat)(l:List PE):(PE.coreL p f l).length=l.length:=by rw[PE.coreL_map,List.length_map]
theorem PSt.coreL_len(f:Nat)(l:List PSt):(PSt.coreL p f l).length=l.length:=by rw[PSt.coreL_map,List.length_map]
theorem CE.okL_of{C:Core}{n:Nat}:∀{l:List CE},(∀e∈l,e.ok C n)->CE.okL C n l
 | [],_=>by rw[CE.okL];trivial
 |e::l,h=>by rw[CE.okL];exact⟨h e At,CE.okL_of fun u hu=>h u Hq⟩
theorem CS.okL_of{C:Core}{n:Nat}{w:Bool}:∀{l:List CS},(∀e∈l,e.ok C n w)->CS.okL C n w l
 | [],_=>by rw[CS.okL];trivial
 |e::l,h=>by rw[CS.okL];exact⟨h e At,CS.okL_of fun u hu=>h u Hq⟩
theorem Db{x:Int}(h0:0<=x)(h1:x<=100000):GJ x:=⟨by omega,by omega⟩
theorem Ov{f:Nat}{nm:ByteArray}{G:PFn}(h4:(p.find f nm).1=4)(hG:p.funcs[(p.find f nm).2.toNat]?=some G):p.core.funcs[(p.slot f nm).1.toNat]?=some (p.coreF (p.find f nm).2.toNat G):=by
 rw[(LF h4).1,F5,hG];rfl
theorem Pn(h:Sized p){f:Nat}:∀(m:Nat) (e:PE) (b:Bool),e.parts<=m->e.fit p f b->e.Ok->(e.core p f).ok p.core f/\(e.core p f).Ok/\(e.core p f).parts=e.parts
 |0,e,b,hm,_,_=>by cases e;rw[PE.parts]at hm;omega
 |m+1,.mk k o n nm kids,b,hm,hf,hok=>by
  rw[PE.parts]at hm
  cases hok with
  |mk i1 i2 i3 i4 i5 i6=>
  rw[PE.fit]at hf;obtain⟨hfk,hf⟩:=hf;have hI:∀e∈kids,(e.core p f).ok p.core f/\(e.core p f).Ok/\(e.core p f).parts=e.parts:=fun e he=>Pn h m e _ Wh (PE.fitL_mem hfk e he) (i6 e he)
  have hkok:CE.okL p.core f (PE.coreL p f kids):=CE.okL_of fun u hu=>by
   rw[PE.coreL_map]at hu;obtain⟨e,he,rfl⟩:=List.mem_map.1 hu;exact(hI e he).1
  have hkOk:∀u∈PE.coreL p f kids,CE.Ok u:=fun u hu=>by
   rw[PE.coreL_map]at hu;obtain⟨e,he,rfl⟩:=List.mem_map.1 hu;exact(hI e he).2.1
  have hparts:(PE.core p f (.mk k o n nm kids)).parts=PE.parts (.mk k o n nm kids):=by
   rw[PE.core_eq,CE.parts,PE.parts];have:∀l:List PE,(∀e∈l,(e.core p f).parts=e.parts)->CE.partsL (PE.coreL p f l)=PE.partsL l:=fun l=>by
    induction l with
    |nil=>intro _;rw[PE.coreL,CE.partsL,PE.partsL]
    |cons e l ih=>intro hl;rw[PE.coreL,CE.partsL,PE.partsL,hl e At,ih fun u hu=>hl u Hq]
   rw[this kids fun e he=>(hI e he).2.2]
  refine⟨?_,?_,hparts⟩
  . rw[PE.core_eq,CE.ok];refine⟨hkok,?_⟩;rw[PE.coreL_len];rcases hf with⟨rfl,hb0,_,_⟩|⟨rfl,hb0,hnm,hfd,_⟩|⟨rfl,hb0,hnm,hfd,hl⟩|⟨rfl,hb0,hnm,hfd,hlt,G,hG,hl,hw⟩|⟨rfl,hb0,_,_⟩|⟨rfl,hnm,hl,ho,hbo⟩|⟨rfl,hb1,hnm,hl⟩|⟨hk,hb1,hnm,hl⟩
    . exact .inl ⟨rfl,i3⟩
    . rw[show(nm.size==0)=false by simpa using hnm];have:=OW h hfd;exact .inr (.inl ⟨rfl,this.1,this.2.1⟩)
    . rw[show(nm.size==0)=false by simpa using hnm];have:=OV h hfd;exact .inr (.inr (.inl ⟨rfl,hl,this⟩))
    . rw[show(nm.size==0)=false by simpa using hnm];have hs:=LF hfd;have h6:=h.par _ _ hG;refine .inr (.inr (.inr (.inl ⟨rfl,?_,?_,p.coreF _ G,Ov hfd hG,hw,?_,by omega⟩)))
      . show 0<=(p.slot f nm).1;rw[hs.1];exact hs.2.2.1
      . show(p.slot f nm).1<f;rw[hs.1];exact hlt
      . show((G.params.length:Nat):Int)=_;rw[hl]
    . exact .inr (.inr (.inr (.inr (.inl rfl))))
    . exact .inr (.inr (.inr (.inr (.inr (.inl ⟨rfl,hl,ho⟩)))))
    . exact .inr (.inr (.inr (.inr (.inr (.inr (.inl ⟨rfl,hl⟩))))))
    . rcases hk with rfl|rfl
      . exact .inr (.inr (.inr (.inr (.inr (.inr (.inr (.inl ⟨rfl,hl⟩)))))))
      . exact .inr (.inr (.inr (.inr (.inr (.inr (.inr (.inr ⟨rfl,hl⟩)))))))
  . have hs:GJ (bif nm.size==0 then 0 else(p.slot f nm).1)/\GJ (bif nm.size==0 then 0 else(p.slot f nm).2):=by
     have hw:=h.words;have hn:=h.n
     cases hz:nm.size==0 with
     |true=>simp only[cond_true];exact⟨Db (Int.le_refl _) Ab,Db (Int.le_refl _) Ab⟩
     |false=>
      simp only[cond_false];have hz':nm.size≠0:=by simpa using hz
      rcases hf with⟨_,_,h0,_⟩|⟨rfl,hb0,hnm,hfd,_⟩|⟨rfl,hb0,hnm,hfd,hl⟩|⟨rfl,hb0,hnm,hfd,hlt,G,hG,hl,hw⟩|⟨_,_,h0,_⟩|⟨_,h0,_⟩|⟨_,_,h0,_⟩|⟨_,_,h0,_⟩
      . exact absurd h0 hz'
      . have:=OW h hfd;exact⟨Db this.1 Aa,by rw[this.2.2];exact Db (Int.le_refl _) Ab⟩
      . have:=OV h hfd;exact⟨Db this.2.2.1 Aa,Db Aa Aa⟩
      . have:=LF hfd;exact a9
      . exact absurd h0 hz'
      . exact absurd h0 hz'
      . exact absurd h0 hz'
      . exact absurd h0 hz'
    rw[PE.core_eq];exact .mk i1 i2 i3 hs.1 hs.2 (by rw[PE.coreL_len];exact i5) hkOk
theorem Z6(h:Sized p){f:Nat}{b:Bool}{l:List PE}(hf:PE.fitL p f l b)(hok:∀e∈l,e.Ok):CE.okL p.core f (PE.coreL p f l)/\(∀u∈PE.coreL p f l,CE.Ok u)/\CE.partsL (PE.coreL p f l)=PE.partsL l:=by
 refine⟨CE.okL_of fun u hu=>?_,fun u hu=>?_,?_⟩
 . rw[PE.coreL_map]at hu;obtain⟨e,he,rfl⟩:=List.mem_map.1 hu;exact(Pn h _ e b (Nat.le_refl _) (PE.fitL_mem hf e he) (hok e he)).1
 . rw[PE.coreL_map]at hu;obtain⟨e,he,rfl⟩:=List.mem_map.1 hu;exact(Pn h _ e b (Nat.le_refl _) (PE.fitL_mem hf e he) (hok e he)).2.1
 . induction l with
   |nil=>rw[PE.coreL,CE.partsL,PE.partsL]
   |cons e l ih=>
    rw[PE.fitL]at hf;rw[PE.coreL,CE.partsL,PE.partsL,(Pn h _ e b (Nat.le_refl _) hf.1 (hok e At)).2.2,ih hf.2 fun u hu=>hok u Hq]
theorem SZ(h:Sized p){f:Nat}{w:Bool}:∀(m:Nat) (e:PSt),e.parts<=m->e.fit p f w->e.Ok->(e.core p f).ok p.core f w/\(e.core p f).Ok/\(e.core p f).parts=e.parts
 |0,e,hm,_,_=>by cases e;rw[PSt.parts]at hm;omega
 |m+1,.mk k nm es thn els,hm,hf,hok=>by
  rw[PSt.parts]at hm
  cases hok with
  |mk i1 i2 i3 i4 i5 i6 i7 i8=>
  rw[PSt.fit]at hf;obtain⟨fE,fT,fL,hf⟩:=hf;have hE:=Z6 h fE i4;have hT:∀e∈thn,(e.core p f).ok p.core f w/\(e.core p f).Ok/\(e.core p f).parts=e.parts:=fun e he=>SZ h m e PP (PSt.fitL_mem fT e he) (i6 e he)
  have hL:∀e∈els,(e.core p f).ok p.core f w/\(e.core p f).Ok/\(e.core p f).parts=e.parts:=fun e he=>SZ h m e PP (PSt.fitL_mem fL e he) (i8 e he)
  have key:∀l:List PSt,(∀e∈l,(e.core p f).ok p.core f w/\(e.core p f).Ok/\(e.core p f).parts=e.parts)->CS.okL p.core f w (PSt.coreL p f l)/\(∀u∈PSt.coreL p f l,CS.Ok u)/\CS.partsL (PSt.coreL p f l)=PSt.partsL l:=fun l hl=>by
   refine⟨CS.okL_of fun u hu=>?_,fun u hu=>?_,?_⟩
   . rw[PSt.coreL_map]at hu;obtain⟨e,he,rfl⟩:=List.mem_map.1 hu;exact(hl e he).1
   . rw[PSt.coreL_map]at hu;obtain⟨e,he,rfl⟩:=List.mem_map.1 hu;exact(hl e he).2.1
   . induction l with
     |nil=>rw[PSt.coreL,CS.partsL,PSt.partsL]
     |cons e l ih=>rw[PSt.coreL,CS.partsL,PSt.partsL,(hl e At).2.2,ih fun u hu=>hl u Hq]
  have kT:=key thn hT;have kL:=key els hL;refine⟨?_,?_,?_⟩
  . rw[PSt.core_eq,CS.ok];refine⟨hE.1,kT.1,kL.1,?_⟩;rw[PE.coreL_len];rcases hf with⟨rfl,hnm,hfd,hl⟩|⟨rfl,hnm,hfd,hl⟩|⟨rfl,hnm,hl⟩|⟨rfl,hnm,hl⟩|⟨rfl,hnm,hl⟩|⟨rfl,hnm,hfd,hlt,G,hG,hl,hw⟩|⟨rfl,hnm,hl⟩
    . rw[show(nm.size==0)=false by simpa using hnm];have:=OW h hfd;exact .inl ⟨rfl,hl,this.1,this.2.1⟩
    . rw[show(nm.size==0)=false by simpa using hnm];have:=OV h hfd;exact .inr (.inl ⟨rfl,hl,this⟩)
    . exact .inr (.inr (.inl ⟨rfl,hl⟩))
    . exact .inr (.inr (.inr (.inl ⟨rfl,hl⟩)))
    . exact .inr (.inr (.inr (.inr (.inl ⟨rfl,hl⟩))))
    . rw[show(nm.size==0)=false by simpa using hnm];have hs:=LF hfd;have h6:=h.par _ _ hG;refine .inr (.inr (.inr (.inr (.inr (.inl ⟨rfl,?_,?_,p.coreF _ G,Ov hfd hG,hw,?_,by omega⟩)))))
      . show 0<=(p.slot f nm).1;rw[hs.1];exact hs.2.2.1
      . show(p.slot f nm).1<f;rw[hs.1];exact hlt
      . show((G.params.length:Nat):Int)=_;rw[hl]
    . refine .inr (.inr (.inr (.inr (.inr (.inr ⟨rfl,?_⟩)))));rcases hl with rfl|h
      . exact .inl (by rw[PE.coreL])
      . exact .inr h
  . have hs:GJ (bif nm.size==0 then 0 else(p.slot f nm).1)/\GJ (bif nm.size==0 then 0 else(p.slot f nm).2):=by
     have hw:=h.words;have hn:=h.n
     cases hz:nm.size==0 with
     |true=>simp only[cond_true];exact⟨Db (Int.le_refl _) Ab,Db (Int.le_refl _) Ab⟩
     |false=>
      simp only[cond_false];have hz':nm.size≠0:=by simpa using hz
      rcases hf with⟨rfl,hnm,hfd,hl⟩|⟨rfl,hnm,hfd,hl⟩|⟨_,h0,_⟩|⟨_,h0,_⟩|⟨_,h0,_⟩|⟨rfl,hnm,hfd,hlt,G,hG,hl,hw⟩|⟨_,h0,_⟩
      . have:=OW h hfd;exact⟨Db this.1 Aa,by rw[this.2.2];exact Db (Int.le_refl _) Ab⟩
      . have:=OV h hfd;exact⟨Db this.2.2.1 Aa,Db Aa Aa⟩
      . exact absurd h0 hz'
      . exact absurd h0 hz'
      . exact absurd h0 hz'
      . have:=LF hfd;exact a9
      . exact absurd h0 hz'
    rw[PSt.core_eq];exact .mk i1 hs.1 hs.2 (by rw[PE.coreL_len];exact i3) hE.2.1 (by rw[PSt.coreL_len];exact i5) kT.2.1 (by rw[PSt.coreL_len];exact i7) kL.2.1
  . rw[PSt.core_eq,CS.parts,PSt.parts,hE.2.2,kT.2.2,kL.2.2]
end
theorem Sm{l:List PE}{left deep:Int}(h:0<=PE.leftL l left deep):0<=left:=by
 cases l with
 |nil=>rw[PE.leftL]at h;exact h
 |cons e l=>
  rw[PE.leftL]at h
  by_cases h0:left>=0
  . exact h0
  . rw[decide_eq_false h0]at h;exact absurd h h0
theorem Jt{l:List PE}(hI:∀e∈l,∀left deep,0<=left->0<=e.left left deep->(e.parts:Int)+e.left left deep<=left):∀(left deep:Int),0<=PE.leftL l left deep->(PE.partsL l:Int)+PE.leftL l left deep<=left:=by
 induction l with
 |nil=>intro left deep h;rw[PE.leftL,PE.partsL];omega
 |cons e l ih=>
  intro left deep h;rw[PE.leftL]at h|-;rw[PE.partsL]
  by_cases h0:left>=0
  . rw[decide_eq_true h0]at h|-;simp only[cond_true]at h|-;have h2:=ih (fun e he=>hI e (List.mem_cons.2 (.inr he))) _ _ h;have h3:=Sm h;have h1:=hI e (List.mem_cons.2 (.inl rfl)) left deep h0 h3;omega
  . rw[decide_eq_false h0]at h;exact absurd h h0
theorem KE:∀(m:Nat) (e:PE),e.parts<=m->∀left deep,0<=left->0<=e.left left deep->(e.parts:Int)+e.left left deep<=left
 |0,e,h=>by cases e;rw[PE.parts]at h;omega
 |m+1,.mk k o n nm kids,h=>by
  intro left deep h0 h1;rw[PE.parts]at h|-;rw[PE.left]at h1|-
  cases hd:(decide (deep<=0)||decide ((nm.size:Int)>60))with
  |true=>rw[hd,cond_true]at h1;omega
  |false=>
   rw[hd]at h1;simp only[cond_false]at h1|-;have:=Jt (l:=kids) (fun e he=>KE m e Wh) (left-1) (deep-1) h1;omega
theorem HD{l:List PSt}{left deep:Int}(h:0<=PSt.leftL l left deep):0<=left:=by
 cases l with
 |nil=>rw[PSt.leftL]at h;exact h
 |cons e l=>
  rw[PSt.leftL]at h
  by_cases h0:left>=0
  . exact h0
  . rw[decide_eq_false h0]at h;exact absurd h h0
theorem Ge{l:List PSt}(hI:∀e∈l,∀left deep,0<=left->0<=e.left left deep->(e.parts:Int)+e.left left deep<=left):∀(left deep:Int),0<=PSt.leftL l left deep->(PSt.partsL l:Int)+PSt.leftL l left deep<=left:=by
 induction l with
 |nil=>intro left deep h;rw[PSt.leftL,PSt.partsL];omega
 |cons e l ih=>
  intro left deep h;rw[PSt.leftL]at h|-;rw[PSt.partsL]
  by_cases h0:left>=0
  . rw[decide_eq_true h0]at h|-;simp only[cond_true]at h|-;have h2:=ih (fun e he=>hI e (List.mem_cons.2 (.inr he))) _ _ h;have h3:=HD h;have h1:=hI e (List.mem_cons.2 (.inl rfl)) left deep h0 h3;omega
  . rw[decide_eq_false h0]at h;exact absurd h h0
theorem GS:∀(m:Nat) (e:PSt),e.parts<=m->∀left deep,0<=left->0<=e.left left deep->(e.parts:Int)+e.left left deep<=left
 |0,e,h=>by cases e;rw[PSt.parts]at h;omega
 |m+1,.mk k nm es thn els,h=>by
  intro left deep h0 h1;rw[PSt.parts]at h|-;rw[PSt.left]at h1|-
  cases hd:(decide (deep<=0)||decide ((nm.size:Int)>60))with
  |true=>rw[hd,cond_true]at h1;omega
  |false=>
   rw[hd]at h1;simp only[cond_false]at h1|-;have a3:=HD h1;have a2:=HD a3;have b3:=Ge (l:=els) (fun e he=>GS m e PP) _ (deep-1) h1;have b2:=Ge (l:=thn) (fun e he=>GS m e PP) _ (deep-1) a3;have b1:=Jt (l:=es) (fun e he=>KE e.parts e (Nat.le_refl _)) (left-1) (deep-1) a2;omega
theorem GY:∀(l:List PFn) (a:Int),0<=CX l a->((l.map fun f=>PSt.partsL f.body).sum:Int)+CX l a<=a
 | [],a,h=>by
  have:CX [] a=a:=rfl;rw[this];simp
 |f::l,a,h=>by
  have e:CX (f::l) a=CX l (PSt.leftL f.body (a-f.params.length-f.locals.length) 60):=rfl;rw[e]at h|-;have h1:=GY l _ h;have h2:0<=PSt.leftL f.body (a-f.params.length-f.locals.length) 60:=by omega
  have h3:=Ge (l:=f.body) (fun e he=>GS e.parts e (Nat.le_refl _)) _ 60 h2;simp only[List.map_cons,List.sum_cons];omega
theorem P7{p:PProg}(h:p.sound=0):p.right=true/\p.names16=true/\p.numbers=true/\(p.funcs.all fun f=>Bj p f.word f.body)=true:=by
 unfold PProg.sound at h
 cases hr:p.right with
 |false=>rw[hr]at h;simp at h
 |true=>
  rw[hr]at h;simp only[Bool.not_true,cond_false]at h;unfold PProg.check16 PProg.check17 at h
  cases hn:p.names16 with
  |false=>rw[hn]at h;simp at h
  |true=>
   cases hm:p.numbers with
   |false=>rw[hn,hm]at h;simp at h
   |true=>
    rw[hn,hm]at h
    cases hk:(p.funcs.all fun f=>PSt.knownL p f.body)with
    |false=>rw[hk]at h;simp at h
    |true=>
     cases hf:(p.funcs.all fun f=>Bj p f.word f.body)with
     |false=>rw[hk,hf]at h;simp at h
     |true=>exact⟨rfl,rfl,rfl,rfl⟩
theorem R7{p:PProg}(hp:p.Ok)(hf:p.few 200=true)(hs:p.sound=0)(hw:p.words<=32768):PFit p/\Bld p.core:=by
 obtain⟨hr,hn,hm,hft⟩:=P7 hs;unfold PProg.right at hr;simp only[Bool.and_eq_true,decide_eq_true_eq,List.all_eq_true]at hr;obtain⟨⟨_,n1,n64⟩,hra,hrf⟩:=hr;unfold PProg.few at hf;simp only[Bool.and_eq_true,decide_eq_true_eq]at hf;obtain⟨_,_,_,hleft⟩:=hf;have hsum:=GY p.funcs _ hleft;have hSz:Sized p:=by
  refine⟨fun i x hx=>?_,fun i G hG=>?_,hw,by omega⟩
  . have:=hra x (List.mem_of_getElem? hx);unfold EO at this;simp only[Bool.and_eq_true,decide_eq_true_eq]at this;exact this.2
  . have:=hrf G (List.mem_of_getElem? hG);unfold PFn.right at this;simp only[Bool.and_eq_true,decide_eq_true_eq]at this;omega
 unfold PProg.names16 at hn;rw[Bool.and_eq_true,List.all_eq_true]at hn;unfold PProg.numbers at hm;rw[Bool.and_eq_true,List.all_eq_true]at hm;rw[List.all_eq_true]at hft;have hfit:∀(f:Nat) (G:PFn),p.funcs[f]?=some G->PSt.fitL p f G.word G.body:=fun f G hG=>by
  have hmem:=List.mem_of_getElem? hG;have hz:=List.mem_of_getElem? (BK hG);have h1:=hn.2 _ hz;rw[Bool.and_eq_true,List.all_eq_true]at h1;have h2:=hm.1 _ hz;rw[List.all_eq_true]at h2;have h3:=hft G hmem;rw[CG,List.all_eq_true]at h3;have h4:=hrf G hmem;unfold PFn.right at h4;simp only[Bool.and_eq_true]at h4;have h5:=h4.2.2.2.2;rw[PSt.rightL_all,List.all_eq_true]at h5;exact PSt.fitL_of fun e he=>XQ e.parts e (Nat.le_refl _) 1 (h5 e he) (fun u hu=>⟨h1.2 u (PSt.usesL_mem he hu),h2 u (PSt.usesL_mem he hu)⟩) (h3 e he)
 have hw0:=hSz.w0;have hlen:p.core.funcs.length=p.funcs.length:=by
  exact Wa
 have hcf:∀fn∈p.core.funcs,∃(i:Nat) (G:PFn),p.funcs[i]?=some G/\fn=p.coreF i G:=fun fn hfn=>by
  obtain⟨i,hi⟩:=List.mem_iff_getElem?.1 hfn;rw[F5]at hi
  cases hG:p.funcs[i]? with
  |none=>rw[hG]at hi;cases hi
  |some G=>rw[hG]at hi;exact⟨i,G,hG,(Option.some.inj hi).symm⟩
 have hfn:∀(i:Nat) (G:PFn),p.funcs[i]?=some G->G.params.length<=G.names.length/\0<=p.first i/\p.first i+G.names.length<=p.words:=fun i G hG=>by
  have h1:=Ex hG;have h2:=Ck (p:=p) (show i+1<=p.funcs.length from(List.getElem?_eq_some_iff.1 hG).1);have h3:=Ce (p:=p) i;have h4:=Dt hSz.geo';exact⟨by unfold PFn.names;rw[List.length_append];omega,by omega,by omega⟩
 have hkey:∀(i:Nat) (G:PFn),p.funcs[i]?=some G->CS.okL p.core i G.word (PSt.coreL p i G.body)/\(∀u∈PSt.coreL p i G.body,CS.Ok u)/\CS.partsL (PSt.coreL p i G.body)=PSt.partsL G.body:=fun i G hG=>by
  have hok:=(hp.funcs G (List.mem_of_getElem? hG)).body;have hI:∀e∈G.body,(e.core p i).ok p.core i G.word/\(e.core p i).Ok/\(e.core p i).parts=e.parts:=fun e he=>SZ hSz e.parts e (Nat.le_refl _) (PSt.fitL_mem (hfit i G hG) e he) (hok e he)
  generalize G.body=l at hI;refine⟨CS.okL_of fun u hu=>?_,fun u hu=>?_,?_⟩
  . rw[PSt.coreL_map]at hu;obtain⟨e,he,rfl⟩:=List.mem_map.1 hu;exact(hI e he).1
  . rw[PSt.coreL_map]at hu;obtain⟨e,he,rfl⟩:=List.mem_map.1 hu;exact(hI e he).2.1
  . skip
    induction l with
    |nil=>rw[PSt.coreL,CS.partsL,PSt.partsL]
    |cons e l ih=>rw[PSt.coreL,CS.partsL,PSt.partsL,(hI e At).2.2,ih fun u hu=>hI u Hq]
 have hOk:p.core.Ok:=by
  refine⟨Db hw0 (by show p.words<=_;omega),by rw[hlen];simp only[reachBytes];omega,fun fn hfm=>?_⟩;obtain⟨i,G,hG,rfl⟩:=hcf fn hfm;obtain⟨a1,a2,a3⟩:=hfn i G hG;have hpo:=hp.funcs G (List.mem_of_getElem? hG);refine⟨Db (Int.natCast_nonneg _) ?_,Db (Int.natCast_nonneg _) ?_,Db a2 ?_,?_,(hkey i G hG).2.1⟩
  . show((G.params.length:Nat):Int)<=_;omega
  . show((G.names.length:Nat):Int)<=_;omega
  . show p.first i<=_;omega
  . show(PSt.coreL p i G.body).length*96<=_;rw[PSt.coreL_len];exact hpo.len
 have hmain:∀G,p.funcs[p.funcs.length-1]?=some G->G.params=[]/\G.word=false:=fun G hG=>by
  have h:=hm.2;rw[hG]at h;simp only[Bool.and_eq_true,beq_iff_eq,Bool.not_eq_true']at h;exact⟨List.length_eq_zero_iff.1 Aa,h.2.2⟩
 have hparts:p.core.parts=(p.funcs.map fun f=>PSt.partsL f.body).sum:=by
  have gen:∀(l:List PFn) (k:Nat),(∀(i:Nat) (G:PFn),l[i]?=some G->p.funcs[k+i]?=some G)->(((l.zipIdx k).map fun x=>p.coreF x.2 x.1).map fun f=>CS.partsL f.body).sum=(l.map fun f=>PSt.partsL f.body).sum:=fun l=>by
   induction l with
   |nil=>intro k _;rfl
   |cons G l ih=>
    intro k hk;rw[List.zipIdx_cons,List.map_cons,List.map_cons,List.sum_cons,List.map_cons,List.sum_cons,ih (k+1) fun i G' h=>by rw[Nat.add_assoc,Nat.add_comm 1];exact hk (i+1) G' h];rw[show CS.partsL (p.coreF k G).body=PSt.partsL G.body from(hkey k G (hk 0 G rfl)).2.2]
  exact gen p.funcs 0 fun i G h=>by rw[Nat.zero_add];exact h
 have hsum2:p.core.parts<=200:=by
  rw[hparts];have:((p.funcs.map fun f=>PSt.partsL f.body).sum:Int)<=200:=by omega
  omega
 have hcok:M7 p.core:=by
  refine⟨hw0,fun e=>?_,fun i fn hi=>?_,fun fn hi=>?_⟩
  . have:p.core.funcs.length=0:=by rw[e];rfl
    omega
  . rw[F5]at hi
    cases hG:p.funcs[i]? with
    |none=>rw[hG]at hi;cases hi
    |some G=>
     rw[hG]at hi;obtain rfl:=(Option.some.inj hi).symm;obtain⟨a1,a2,a3⟩:=hfn i G hG;have h6:=hSz.par i G hG;refine⟨Int.natCast_nonneg _,?_,?_,a2,?_,(hkey i G hG).1⟩
     . show((G.params.length:Nat):Int)<=6;omega
     . show((G.params.length:Nat):Int)<=((G.names.length:Nat):Int);omega
     . show p.first i+((G.names.length:Nat):Int)<=p.words;exact a3
  . rw[hlen,F5]at hi
    cases hG:p.funcs[p.funcs.length-1]? with
    |none=>rw[hG]at hi;cases hi
    |some G=>
     rw[hG]at hi;obtain rfl:=(Option.some.inj hi).symm;have:=hmain G hG;exact⟨this.2,by show((G.params.length:Nat):Int)=0;rw[this.1];rfl⟩
 refine⟨⟨hSz.geo',hOk,hfit,fun G hG=>(hmain G hG).1⟩,⟨hOk,⟨hcok,by show p.words<=_;omega,fun fn hfm st hst=>?_⟩,⟨hw0,hw,by rw[hlen];omega,by rw[hlen];omega,fun g hg=>?_⟩,by omega⟩⟩
 . have h1:=GT hfm;have h2:=CD hst;omega
 . obtain⟨i,G,hG,rfl⟩:=hcf g hg;obtain⟨a1,a2,a3⟩:=hfn i G hG;have h6:=hSz.par i G hG;refine⟨Int.natCast_nonneg _,?_,?_,a2,a3⟩
   . show((G.params.length:Nat):Int)<=6;omega
   . show((G.params.length:Nat):Int)<=((G.names.length:Nat):Int);omega
theorem str_eqT{a b:ByteArray}(h:(a.toList==b.toList)=true):a=b:=by
 have h1:a.toList=b.toList:=by simpa using h
 rw[ByteArray.toList_eq,ByteArray.toList_eq]at h1
 cases a;cases b
 simp only[ByteArray.mk.injEq];exact Array.toList_inj.1 h1
theorem OT(a b:ByteArray):(a.toList==b.toList)=decide (a=b):=by
 rw[Bool.eq_iff_iff,decide_eq_true_iff];exact⟨str_eqT,fun h=>by rw[h];exact beq_self_eq_true _⟩
theorem Vm(s:ByteArray):(s=⟨#[]⟩)↔s.size=0:=by
 constructor
 . intro h;rw[h];rfl
 . intro h
   cases s with
   |mk d=>
   congr 1;exact Array.eq_empty_of_size_eq_zero h
theorem Y9(s:ByteArray):(s.toList==(⟨#[]⟩:ByteArray).toList)=(s.size==0):=by
 rw[OT,Bool.eq_iff_iff,decide_eq_true_iff,Vm];simp
section
variable {k : Nat}
theorem Dg{l:List PE}{x:PE}(h:l[k]?=some x):(l.map PE.cells)[((k:Nat):Int).toNat]?=some x.row:=by
 rw[Int.toNat_natCast,List.getElem?_map,h];exact congrArg some (PE.cells_eq x)
theorem CI{l:List PSt}{x:PSt}(h:l[k]?=some x):(l.map PSt.cells)[((k:Nat):Int).toNat]?=some x.row:=by
 rw[Int.toNat_natCast,List.getElem?_map,h];exact congrArg some (PSt.cells_eq x)
end
theorem PE.Ok.kidsOk{e:PE}(h:e.Ok):(∀x∈e.kids,x.Ok)/\e.kids.length*64<=reachBytes:=by
 cases h with
 |mk i1 i2 i3 i4 i5 i6=>exact⟨i6,i5⟩
theorem PSt.Ok.esOk{e:PSt}(h:e.Ok):(∀x∈e.es,x.Ok)/\e.es.length*64<=reachBytes:=by
 cases h with
 |mk i1 i2 i3 i4 i5 i6 i7 i8=>exact⟨i4,i3⟩
theorem PSt.Ok.thnOk{e:PSt}(h:e.Ok):(∀x∈e.thn,x.Ok)/\e.thn.length*96<=reachBytes:=by
 cases h with
 |mk i1 i2 i3 i4 i5 i6 i7 i8=>exact⟨i6,i5⟩
theorem PSt.Ok.elsOk{e:PSt}(h:e.Ok):(∀x∈e.els,x.Ok)/\e.els.length*96<=reachBytes:=by
 cases h with
 |mk i1 i2 i3 i4 i5 i6 i7 i8=>exact⟨i8,i7⟩
theorem PE.parts_kids(e:PE):e.parts=1+PE.partsL e.kids:=by cases e;rw[PE.parts];first|rfl|(show _=1+PE.partsL _;omega)
theorem PSt.parts_kids(e:PSt):e.parts=1+(PE.partsL e.es+(PSt.partsL e.thn+PSt.partsL e.els)):=by cases e;rw[PSt.parts];first|rfl|(simp only[PSt.es,PSt.thn,PSt.els];omega)
theorem ZE(c:UInt8):CK c=((decide ((c.toNat:Int)>=97)&&decide ((c.toNat:Int)<=122))||(decide ((c.toNat:Int)>=65)&&decide ((c.toNat:Int)<=90))):=by
 unfold CK;rw[Bool.eq_iff_iff];simp only[Bool.or_eq_true,Bool.and_eq_true,decide_eq_true_eq,UInt8.le_iff_toNat_le];have h1:(97:UInt8).toNat=97:=rfl;have h2:(122:UInt8).toNat=122:=rfl;have h3:(65:UInt8).toNat=65:=rfl;have h4:(90:UInt8).toNat=90:=rfl;rw[h1,h2,h3,h4];omega
theorem eI(c:UInt8):G8 c=(decide ((c.toNat:Int)>=48)&&decide ((c.toNat:Int)<=57)):=by
 unfold G8;rw[Bool.eq_iff_iff];simp only[Bool.and_eq_true,decide_eq_true_eq,UInt8.le_iff_toNat_le];have h1:(48:UInt8).toNat=48:=rfl;have h2:(57:UInt8).toNat=57:=rfl;rw[h1,h2];omega
theorem dj(c:UInt8):(c==95)=decide ((c.toNat:Int)=95):=by
 rw[Bool.eq_iff_iff,beq_iff_eq,decide_eq_true_iff];constructor
 . intro h;rw[h];rfl
 . intro h;refine UInt8.toNat_inj.1 ?_;show c.toNat=95;omega
def b9(s x:ByteArray):Bool:= !(x.toList==s.toList)
theorem NB(l:List ByteArray)(s:ByteArray):Ix l s= !(l.all (b9 s)):=by
 unfold Ix b9
 induction l with
 |nil=>rfl
 |cons x l ih=>rw[List.any_cons,List.all_cons,ih,OT];cases decide (x=s)<;>simp
theorem NA{l:List ByteArray}{s x:ByteArray}{k:Nat}(hx:l[k]?=some x)(h:(x.toList==s.toList)=true):Ix l s=true:=by
 rw[NB,Bp hx (by unfold b9;rw[h];rfl)];rfl
theorem P6{l:List ByteArray}{s:ByteArray}{k:Nat}(h:(l.take k).all (b9 s)=true)(hk:l.length<=k):Ix l s=false:=by
 rw[NB,BB h hk];rfl
theorem d3{s x:ByteArray}(h:(x.toList==s.toList)=false):b9 s x=true:=by unfold b9;rw[h];rfl
def HE(c:UInt8):Bool:=CK c||(G8 c||c==95)
def CA(s:ByteArray):Bool:= !(s.size==0)&&(decide (s.size<=20)&&(CK (FE s 0)&& !Ix words13 s))
theorem QO{s:ByteArray}(h:CA s=true):s.data.toList.length<=20:=by
 unfold CA at h;simp only[Bool.and_eq_true,decide_eq_true_eq]at h;exact h.2.1
theorem Qa{s:ByteArray}(h:(((s.size:Nat):Int)==0)=false):0<s.size:=by
 rcases Nat.eq_zero_or_pos s.size with e|e
 . rw[e]at h;exact absurd h Ab
 . exact e
theorem SG{s:ByteArray}(h:(((s.size:Nat):Int)==0)=true):true= !CA s:=by
 have e:s.size=0:=by have:=eq_of_beq h;omega
 unfold CA;rw[e];rfl
theorem SF{s:ByteArray}(h:decide (((s.size:Nat):Int)>20)=true):true= !CA s:=by
 have e:decide (s.size<=20)=false:=by have:=of_decide_eq_true h;exact decide_eq_false Aa
 unfold CA;rw[e];cases s.size==0<;>rfl
theorem SE{s:ByteArray}(h:(!CK (FE s 0))=true):true= !CA s:=by
 have e:CK (FE s 0)=false:=by simpa using h
 unfold CA;rw[e];cases s.size==0<;>cases decide (s.size<=20)<;>rfl
theorem SD{s:ByteArray}(h1:(((s.size:Nat):Int)==0)=false)(h2:decide (((s.size:Nat):Int)>20)=false)(h3:(!CK (FE s 0))=false):Ix words13 s= !CA s:=by
 have e1:(s.size==0)=false:=by have:=Qa h1;exact beq_eq_false_iff_ne.2 Aa
 have e2:decide (s.size<=20)=true:=by have:=of_decide_eq_false h2;exact decide_eq_true Aa
 have e3:CK (FE s 0)=true:=by simpa using h3
 unfold CA;rw[e1,e2,e3];cases Ix words13 s<;>rfl
theorem ZC{c:UInt8}(h:(!CK c)=false):false= !HE c:=by
 have e:CK c=true:=by simpa using h
 unfold HE;rw[e];rfl
theorem ZB{c:UInt8}(h:(!G8 c)=false):false= !HE c:=by
 have e:G8 c=true:=by simpa using h
 unfold HE;rw[e];cases CK c<;>rfl
theorem ZA{c:UInt8}(h1:(!CK c)=true)(h2:(!G8 c)=true):(((c.toNat:Nat):Int) !=95)= !HE c:=by
 have e1:CK c=false:=by simpa using h1
 have e2:G8 c=false:=by simpa using h2
 unfold HE;rw[e1,e2,dj]
 by_cases h:((c.toNat:Nat):Int)=95
 . rw[decide_eq_true h,h];rfl
 . rw[decide_eq_false h,bne_iff_ne.2 h];rfl
theorem Mh(s:ByteArray):Xo s=(CA s&&s.data.toList.all HE):=rfl
def PE.rest(e:PE)(level:Int):Bool:=
  bif e.kind==1||(e.kind==2||e.kind==5)then(e.kids.length:Int)==0
  else bif e.kind==3||e.kind==7 then(e.kids.length:Int)==1&&PE.rightL e.kids (level+1)
  else bif e.kind==4 then decide ((e.kids.length:Int)<=6)&&PE.rightL e.kids (level+1)
  else bif e.kind==6 then decide (4<=e.op)&&(decide (e.op<=15)&&((e.kids.length:Int)==2&&PE.rightL e.kids (level+1)))
  else bif e.kind==8||e.kind==9 then(e.kids.length:Int)==2&&PE.rightL e.kids (level+1)
  else false
theorem PE.right_eq(e:PE)(level:Int):e.right level=(e.bare level&&(e.callme&&e.rest level)):=by cases e;rw[PE.right];rfl
def PSt.rest(e:PSt)(level:Int):Bool:=Q5 e.kind e.es.length&&(PE.rightL e.es (level+1)&&(PSt.rightL e.thn (level+1)&&PSt.rightL e.els (level+1)))
theorem PSt.right_eq(e:PSt)(level:Int):e.right level=(e.bare level&&(e.callme&&e.rest level)):=by cases e;rw[PSt.right];rfl
theorem Rw{a b c:Bool}(h:a=false):(a&&(b&&c))=false:=by rw[h];rfl
theorem Rv{a b c:Bool}(h:b=false):(a&&(b&&c))=false:=by rw[h];cases a<;>rfl
theorem Ru{a b c:Bool}(h1:a=true)(h2:b=true):(a&&(b&&c))=c:=by rw[h1,h2];rfl
theorem PE.left_eq(e:PE)(left deep:Int):e.left left deep=bif decide (deep<=0)||decide ((e.name.size:Int)>60)then -1 else PE.leftL e.kids (left-1) (deep-1):=by cases e;rw[PE.left];rfl
theorem PSt.left_eq(e:PSt)(left deep:Int):e.left left deep=bif decide (deep<=0)||decide ((e.name.size:Int)>60)then -1 else PSt.leftL e.els (PSt.leftL e.thn (PE.leftL e.es (left-1) (deep-1)) (deep-1)) (deep-1):=by cases e;rw[PSt.left];rfl
theorem L4{l:List PE}{a:Int}(h:¬0<=a)(deep:Int):PE.leftL l a deep=a:=by
 cases l with
 |nil=>rw[PE.leftL]
 |cons e l=>rw[PE.leftL,decide_eq_false h];rfl
theorem HB{l:List PSt}{a:Int}(h:¬0<=a)(deep:Int):PSt.leftL l a deep=a:=by
 cases l with
 |nil=>rw[PSt.leftL]
 |cons e l=>rw[PSt.leftL,decide_eq_false h];rfl
theorem Sn{l:List PE}{k:Nat}(h:l.length<=k)(a deep:Int):PE.leftL (l.drop k) a deep=a:=by rw[List.drop_eq_nil_of_le h,PE.leftL]
theorem Qz{l:List PSt}{k:Nat}(h:l.length<=k)(a deep:Int):PSt.leftL (l.drop k) a deep=a:=by rw[List.drop_eq_nil_of_le h,PSt.leftL]
theorem NX{l:List PE}{k:Nat}{x:PE}(h:l[k]?=some x){a deep:Int}(h0:0<=a):PE.leftL (l.drop k) a deep=PE.leftL (l.drop (k+1)) (x.left a deep) deep:=by
 rw[F4 h,PE.leftL,decide_eq_true h0];rfl
theorem L2{l:List PSt}{k:Nat}{x:PSt}(h:l[k]?=some x){a deep:Int}(h0:0<=a):PSt.leftL (l.drop k) a deep=PSt.leftL (l.drop (k+1)) (x.left a deep) deep:=by
 rw[F4 h,PSt.leftL,decide_eq_true h0];rfl
theorem QB:∀(m:Nat),(∀(e:PE),e.parts<=m->∀left deep,0<=left-> -1<=e.left left deep/\e.left left deep<=left)/\(∀(l:List PE),PE.partsL l<=m->∀left deep,-1<=left-> -1<=PE.leftL l left deep/\PE.leftL l left deep<=left)
 |0=>⟨fun e h=>by rw[PE.parts_kids]at h;omega,fun l h left deep h1=>by
  cases l with
  |nil=>rw[PE.leftL];exact⟨h1,Int.le_refl _⟩
  |cons e l=>rw[PE.partsL,PE.parts_kids]at h;omega⟩
 |m+1=>by
  have key:∀(e:PE),e.parts<=m+1->∀left deep,0<=left-> -1<=e.left left deep/\e.left left deep<=left:=fun e h left deep h1=>by
   rw[PE.left_eq];rw[PE.parts_kids]at h
   cases decide (deep<=0)||decide ((e.name.size:Int)>60)with
   |true=>exact⟨Int.le_refl _,by show(-1:Int)<=left;omega⟩
   |false=>
    have:=(QB m).2 e.kids Aa (left-1) (deep-1) Aa;exact⟨this.1,by show PE.leftL e.kids (left-1) (deep-1)<=left;omega⟩
  refine⟨key,fun l=>?_⟩
  induction l with
  |nil=>intro h left deep h1;rw[PE.leftL];exact⟨h1,Int.le_refl _⟩
  |cons e l ih=>
   intro h left deep h1;rw[PE.partsL]at h;rw[PE.leftL]
   by_cases h0:left>=0
   . rw[decide_eq_true h0];have h2:=key e Aa left deep h0;have h3:=ih Aa (e.left left deep) deep h2.1;exact⟨h3.1,by show PE.leftL l (e.left left deep) deep<=left;omega⟩
   . rw[decide_eq_false h0];exact⟨h1,Int.le_refl _⟩
theorem J3{l:List PE}{left deep:Int}(h: -1<=left): -1<=PE.leftL l left deep/\PE.leftL l left deep<=left:=(QB _).2 l (Nat.le_refl _) left deep h
theorem J0:∀(m:Nat),(∀(e:PSt),e.parts<=m->∀left deep,0<=left-> -1<=e.left left deep/\e.left left deep<=left)/\(∀(l:List PSt),PSt.partsL l<=m->∀left deep,-1<=left-> -1<=PSt.leftL l left deep/\PSt.leftL l left deep<=left)
 |0=>⟨fun e h=>by rw[PSt.parts_kids]at h;omega,fun l h left deep h1=>by
  cases l with
  |nil=>rw[PSt.leftL];exact⟨h1,Int.le_refl _⟩
  |cons e l=>rw[PSt.partsL,PSt.parts_kids]at h;omega⟩
 |m+1=>by
  have key:∀(e:PSt),e.parts<=m+1->∀left deep,0<=left-> -1<=e.left left deep/\e.left left deep<=left:=fun e h left deep h1=>by
   rw[PSt.left_eq];rw[PSt.parts_kids]at h
   cases decide (deep<=0)||decide ((e.name.size:Int)>60)with
   |true=>exact⟨Int.le_refl _,by show(-1:Int)<=left;omega⟩
   |false=>
    have a1:=J3 (l:=e.es) (left:=left-1) (deep:=deep-1) Aa;have a2:=(J0 m).2 e.thn Aa (PE.leftL e.es (left-1) (deep-1)) (deep-1) a1.1;have a3:=(J0 m).2 e.els Aa (PSt.leftL e.thn (PE.leftL e.es (left-1) (deep-1)) (deep-1)) (deep-1) a2.1;exact⟨a3.1,by simp only[cond_false];omega⟩
  refine⟨key,fun l=>?_⟩
  induction l with
  |nil=>intro h left deep h1;rw[PSt.leftL];exact⟨h1,Int.le_refl _⟩
  |cons e l ih=>
   intro h left deep h1;rw[PSt.partsL]at h;rw[PSt.leftL]
   by_cases h0:left>=0
   . rw[decide_eq_true h0];have h2:=key e Aa left deep h0;have h3:=ih Aa (e.left left deep) deep h2.1;exact⟨h3.1,by show PSt.leftL l (e.left left deep) deep<=left;omega⟩
   . rw[decide_eq_false h0];exact⟨h1,Int.le_refl _⟩
theorem IQ{l:List PSt}{left deep:Int}(h: -1<=left): -1<=PSt.leftL l left deep/\PSt.leftL l left deep<=left:=(J0 _).2 l (Nat.le_refl _) left deep h
theorem IU{c b:Bool}(hc:c= !b)(h:c=true):b=false:=by rw[h]at hc;simpa using hc.symm
theorem IV{c b:Bool}(hc:c= !b)(h:c=false):b=true:=by rw[h]at hc;simpa using hc.symm
theorem Ff{l:List ByteArray}(h:Ft l=true):l.length<=200:=by
 unfold Ft at h;simp only[Bool.and_eq_true,decide_eq_true_eq]at h;omega
theorem Vb(l:List PSt){a:Int}{k m n:Nat}(h: -2000-500*(k:Int)<=a/\a<=1000)(hm:m<=200)(hn:n<=200): -2000-500*((k+1:Nat):Int)<=PSt.leftL l (a-m-n) 60/\PSt.leftL l (a-m-n) 60<=1000:=by
 by_cases h0:0<=a-m-n
 . have:=IQ (l:=l) (left:=a-m-n) (deep:=60) Aa;omega
 . rw[HB h0];omega
abbrev Fw(b n:Nat):AV:=.ref b n 0 n
theorem QC{s x:ByteArray}{l:List ByteArray}{k:Nat}(hx:l[k]?=some x)(h:(x.toList==s.toList)=false):placeOf s (l.drop k) k=placeOf s (l.drop (k+1)) (k+1):=by
 rw[F4 hx,Dr,<-OT,h];rfl
theorem QD{s x:ByteArray}{l:List ByteArray}{k:Nat}(hx:l[k]?=some x)(h:(x.toList==s.toList)=true):placeOf s (l.drop k) k=(k:Int):=by
 rw[F4 hx,Dr,<-OT,h];rfl
theorem NY{s:ByteArray}{l:List ByteArray}{k:Nat}(h:l.length<=k):placeOf s (l.drop k) k= -1:=by rw[List.drop_eq_nil_of_le h];rfl
theorem Nz{α:Type}{f:α->ByteArray}{l:List α}{k:Nat}{x:α}(hx:l[k]?=some x):((l.take (k+1)).map f)=(l.take k).map f++[f x]:=by
 rw[AZ hx,List.map_append];rfl
def gA(p:PProg)(k:Nat):List ByteArray:=p.vars++(p.arrays.take k).map (·.1)
def gF(p:PProg)(k:Nat):List ByteArray:=p.vars++p.arrays.map (·.1)++(p.funcs.take k).map (·.name)
theorem ZM{p:PProg}{k:Nat}{x:ByteArray×Int}(hx:p.arrays[k]?=some x):(gA p (k+1)).map D6=(gA p k).map D6++[[.str x.1]]:=by
 unfold gA;rw[Nz hx,<-List.append_assoc,List.map_append];rfl
theorem ZL{p:PProg}{k:Nat}{x:PFn}(hx:p.funcs[k]?=some x):(gF p (k+1)).map D6=(gF p k).map D6++[[.str x.name]]:=by
 unfold gF;rw[Nz hx,<-List.append_assoc,List.map_append];rfl
theorem Pj(p:PProg){k:Nat}(hk:k<=p.arrays.length):(gA p k).length=p.vars.length+k:=by
 unfold gA;rw[List.length_append,List.length_map,List.length_take];omega
theorem Pi(p:PProg){k:Nat}(hk:k<=p.funcs.length):(gF p k).length=p.vars.length+p.arrays.length+k:=by
 unfold gF;rw[List.length_append,List.length_append,List.length_map,List.length_map,List.length_take];omega
theorem XK{p:PProg}{k:Nat}(hk:p.arrays.length<=k):gA p k=gF p 0:=by
 unfold gA gF;rw[List.take_of_length_le hk,List.take_zero,List.map_nil,List.append_nil]
theorem er{p:PProg}{k:Nat}(hk:p.funcs.length<=k):gF p k=p.globals:=by
 unfold gF PProg.globals;rw[List.take_of_length_le hk]
theorem XR{p:PProg}{f:Nat}{s:ByteArray}{g:PFn}(hg:p.funcs[f]?=some g)(h:decide (placeOf s g.names 0>=0)=true):p.find f s=(1,placeOf s g.names 0):=by
 unfold PProg.find;rw[hg];dsimp only;rw[show decide (0<=placeOf s g.names 0)=true from h];rfl
def ck(p:PProg)(f:Nat)(s:ByteArray):Prop:=∀g,p.funcs[f]?=some g->decide (placeOf s g.names 0>=0)=false
theorem Ka{p:PProg}{f:Nat}{s:ByteArray}(h:ck p f s):p.find f s=bif decide (placeOf s p.globals 0<0)then(0,-1)else bif decide (placeOf s p.globals 0<p.vars.length)then(2,placeOf s p.globals 0)else bif decide (placeOf s p.globals 0-p.vars.length<p.arrays.length)then(3,placeOf s p.globals 0-p.vars.length)else(4,placeOf s p.globals 0-p.vars.length-p.arrays.length):=by
 unfold PProg.find
 cases hg:p.funcs[f]? with
 |none=>rfl
 |some g=>
  dsimp only;rw[show decide (0<=placeOf s g.names 0)=false from h g hg];rfl
def Use.cells(u:Use):List AV:=[.str u.name,.int .i64 u.kd,.int .i64 u.ar]
theorem PE.uses_eq(e:PE):e.uses=PE.use e.kind e.name e.kids.length++PE.usesL e.kids:=by cases e;rw[PE.uses];rfl
theorem PSt.uses_eq(e:PSt):e.uses=PSt.use e.kind e.name e.es.length++(PE.usesL e.es++(PSt.usesL e.thn++PSt.usesL e.els)):=by cases e;rw[PSt.uses];rfl
theorem Lu(x:PE):∀l:List PE,PE.usesL (l++[x])=PE.usesL l++x.uses
 | []=>by simp[PE.usesL]
 |e::l=>by rw[List.cons_append,PE.usesL,PE.usesL,Lu x l,List.append_assoc]
theorem Kw(x:PSt):∀l:List PSt,PSt.usesL (l++[x])=PSt.usesL l++x.uses
 | []=>by simp[PSt.usesL]
 |e::l=>by rw[List.cons_append,PSt.usesL,PSt.usesL,Kw x l,List.append_assoc]
theorem L0(k:Int)(nm:ByteArray)(n:Nat):(PE.use k nm n).length<=1:=by
 unfold PE.use;cases k==2<;>cases k==3<;>cases k==4<;>simp
theorem JY(k:Int)(nm:ByteArray)(n:Nat):(PSt.use k nm n).length<=1:=by
 unfold PSt.use;cases k==1<;>cases k==2<;>cases k==6<;>simp
mutual
theorem UV:∀e:PE,e.uses.length<=e.parts
 | .mk k o n nm kids=>by
  rw[PE.uses,PE.parts,List.length_append];have:=L0 k nm kids.length;have:=CZ kids;omega
theorem CZ:∀l:List PE,(PE.usesL l).length<=PE.partsL l
 | []=>by rw[PE.usesL,PE.partsL];exact Nat.le_refl _
 |e::l=>by
  rw[PE.usesL,PE.partsL,List.length_append];have:=UV e;have:=CZ l;omega
end
mutual
theorem Sk:∀e:PSt,e.uses.length<=e.parts
 | .mk k nm es thn els=>by
  rw[PSt.uses,PSt.parts,List.length_append,List.length_append,List.length_append];have:=JY k nm es.length;have:=CZ es;have:=Cj thn;have:=Cj els;omega
theorem Cj:∀l:List PSt,(PSt.usesL l).length<=PSt.partsL l
 | []=>by rw[PSt.usesL,PSt.partsL];exact Nat.le_refl _
 |e::l=>by
  rw[PSt.usesL,PSt.partsL,List.length_append];have:=Sk e;have:=Cj l;omega
end
theorem HC(b:List PE):∀a:List PE,PE.partsL (a++b)=PE.partsL a+PE.partsL b
 | []=>by rw[List.nil_append,PE.partsL,Nat.zero_add]
 |e::a=>by rw[List.cons_append,PE.partsL,PE.partsL,HC b a,Nat.add_assoc]
theorem GR(b:List PSt):∀a:List PSt,PSt.partsL (a++b)=PSt.partsL a+PSt.partsL b
 | []=>by rw[List.nil_append,PSt.partsL,Nat.zero_add]
 |e::a=>by rw[List.cons_append,PSt.partsL,PSt.partsL,GR b a,Nat.add_assoc]
theorem Qy{l:List PE}{k:Nat}{x:PE}(hx:l[k]?=some x):PE.partsL (l.take k)+x.parts<=PE.partsL l:=by
 have h:=HC (l.drop (k+1)) (l.take (k+1));rw[List.take_append_drop,AZ hx,HC,PE.partsL,PE.partsL]at h;omega
theorem NW{l:List PSt}{k:Nat}{x:PSt}(hx:l[k]?=some x):PSt.partsL (l.take k)+x.parts<=PSt.partsL l:=by
 have h:=GR (l.drop (k+1)) (l.take (k+1));rw[List.take_append_drop,AZ hx,GR,PSt.partsL,PSt.partsL]at h;omega
theorem Nw{l:List PE}{k:Nat}{x:PE}(hx:l[k]?=some x):PE.usesL (l.take (k+1))=PE.usesL (l.take k)++PE.use x.kind x.name x.kids.length++PE.usesL x.kids:=by
 rw[AZ hx,Lu,PE.uses_eq,List.append_assoc]
theorem Ly{l:List PSt}{k:Nat}{x:PSt}(hx:l[k]?=some x):PSt.usesL (l.take (k+1))=PSt.usesL (l.take k)++PSt.use x.kind x.name x.es.length++PE.usesL x.es++PSt.usesL x.thn++PSt.usesL x.els:=by
 rw[AZ hx,Kw,PSt.uses_eq];simp only[List.append_assoc]
theorem gv{k:Int}(nm:ByteArray)(n:Nat)(h:(k==2)=true):PE.use k nm n=[⟨nm,1,0⟩]:=by unfold PE.use;rw[h];rfl
theorem gt{k:Int}(nm:ByteArray)(n:Nat)(h0:(k==2)=false)(h:(k==3)=true):PE.use k nm n=[⟨nm,3,0⟩]:=by unfold PE.use;rw[h0,h];rfl
theorem gr{k:Int}(nm:ByteArray)(n:Nat)(h0:(k==2)=false)(h1:(k==3)=false)(h:(k==4)=true):PE.use k nm n=[⟨nm,4,n⟩]:=by unfold PE.use;rw[h0,h1,h];rfl
theorem gy{k:Int}(nm:ByteArray)(n:Nat)(h0:(k==2)=false)(h1:(k==3)=false)(h:(k==4)=false):PE.use k nm n=[]:=by unfold PE.use;rw[h0,h1,h];rfl
theorem dw{k:Int}(nm:ByteArray)(n:Nat)(h:(k==1)=true):PSt.use k nm n=[⟨nm,1,0⟩]:=by unfold PSt.use;rw[h];rfl
theorem dv{k:Int}(nm:ByteArray)(n:Nat)(h0:(k==1)=false)(h:(k==2)=true):PSt.use k nm n=[⟨nm,3,0⟩]:=by unfold PSt.use;rw[h0,h];rfl
theorem dt{k:Int}(nm:ByteArray)(n:Nat)(h0:(k==1)=false)(h1:(k==2)=false)(h:(k==6)=true):PSt.use k nm n=[⟨nm,4,n⟩]:=by unfold PSt.use;rw[h0,h1,h];rfl
theorem dy{k:Int}(nm:ByteArray)(n:Nat)(h0:(k==1)=false)(h1:(k==2)=false)(h:(k==6)=false):PSt.use k nm n=[]:=by unfold PSt.use;rw[h0,h1,h];rfl
theorem P3(p:PProg)(f:Nat)(u:Use):Fq p f u= !((u.kd==1&&(!((p.find f u.name).1==1)&& !((p.find f u.name).1==2)))||((u.kd==3&& !((p.find f u.name).1==3))||(u.kd==4&&(!((p.find f u.name).1==4)||decide ((p.find f u.name).2>=(f:Int)))))):=by
 unfold Fq
 cases p.find f u.name;rfl
theorem OQ{b n m:Nat}(h:n=m):some (AV.ref b n 0 n)=some (AV.ref b m 0 m):=by rw[h]
theorem Hm{p:Bool}{sz:Nat}{a b:List (List AV)}(h:a=b):some (AObj.row p sz a)=some (AObj.row p sz b):=by rw[h]
structure PSm(p:PProg):Prop where
  v:p.vars.length<=200
  a:p.arrays.length<=200
  n:p.funcs.length<=70
  fn:∀g∈p.funcs,g.params.length<=200/\g.locals.length<=200
  body:∀g∈p.funcs,PSt.partsL g.body<=1000000
theorem PSm.n200{p:PProg}(h:PSm p):p.funcs.length<=200:=by have:=h.n;omega
theorem eA{p:PProg}(h:p.few 200=true):PSm p:=by
 unfold PProg.few at h;simp only[Bool.and_eq_true,decide_eq_true_eq,List.all_eq_true]at h;obtain⟨⟨h1,h2,h3⟩,h4,h5,h6⟩:=h;have hv:=Ff h1;have hfn:∀g∈p.funcs,g.params.length<=200/\g.locals.length<=200:=fun g hg=>by
  have:=h5 g hg;unfold PFn.short at this;simp only[Bool.and_eq_true]at this;exact⟨Ff this.1,Ff this.2.1⟩
 refine⟨hv,by omega,by omega,hfn,fun g hg=>?_⟩;have hs:=GY p.funcs _ h6;have:∀(l:List PFn),g∈l->PSt.partsL g.body<=(l.map fun f=>PSt.partsL f.body).sum:=fun l=>by
  induction l with
  |nil=>intro h;cases h
  |cons f l ih=>
   intro hm;rw[List.map_cons,List.sum_cons];rcases List.mem_cons.1 hm with rfl|hm
   . omega
   . have:=ih hm;omega
 have:=this p.funcs hg;omega
theorem JU{n k:Nat}(h:k<n):(List.range n)[k]?=some k:=by rw[List.getElem?_range h]
theorem P4{l:List ByteArray}{k:Nat}{x:ByteArray}(hx:l[k]?=some x):(placeOf ((l[k]?).getD ⟨#[]⟩) l 0==(k:Int))=(placeOf x l 0==(k:Int)):=by rw[hx];rfl
def Jy(p:PProg)(x:PFn×Nat):Bool:=Eb x.1.names&&(PSt.usesL x.1.body).all (Fq p x.2)
def dZ(p:PProg)(x:PFn×Nat):Bool:=(PSt.usesL x.1.body).all (Eo p x.2)
theorem Fy(p:PProg):p.names16=(Eb p.globals&&p.funcs.zipIdx.all (Jy p)):=rfl
theorem Sz{p:PProg}{g:PFn}(hg:p.funcs[p.funcs.length-1]?=some g):p.numbers=(p.funcs.zipIdx.all (dZ p)&&((g.name.toList==(⟨#[109,97,105,110]⟩:ByteArray).toList)&&(((((g.params.map D6).length:Nat):Int)==0)&& !g.word))):=by
 unfold PProg.numbers;rw[hg,OT,List.length_map];rfl
theorem SC{p:PProg}{x:PFn}{k:Nat}(h:Eb x.names=false):Jy p (x,k)=false:=by unfold Jy;dsimp only;rw[h];rfl
theorem SB{p:PProg}{x:PFn}{k j:Nat}{u:Use}(hu:(PSt.usesL x.body)[j]?=some u)(h:Fq p k u=false):Jy p (x,k)=false:=by unfold Jy;dsimp only;rw[Bp hu h,Bool.and_false]
theorem U8{p:PProg}{x:PFn}{k:Nat}(h1:Eb x.names=true)(h2:(PSt.usesL x.body).all (Fq p k)=true):Jy p (x,k)=true:=by unfold Jy;dsimp only;rw[h1,h2];rfl
theorem Xn{p:PProg}{x:PFn}{k j:Nat}{u:Use}(hn:p.names16=true)(hx:p.funcs[k]?=some x)(hu:(PSt.usesL x.body)[j]?=some u):Fq p k u=true:=by
 rw[Fy,Bool.and_eq_true,List.all_eq_true]at hn;have:=hn.2 _ (List.mem_of_getElem? (BK hx));unfold Jy at this;rw[Bool.and_eq_true,List.all_eq_true]at this;exact this.2 u (List.mem_of_getElem? hu)
theorem di{p:PProg}{k:Nat}{u:Use}(h:Fq p k u=true)(hk:u.kd=4):0<=(p.find k u.name).2/\∃G,p.funcs[(p.find k u.name).2.toNat]?=some G:=by
 rw[P3,hk]at h;have h4:(p.find k u.name).1=4:=by simp at h;exact h.1
 have:=(BQ p k u.name).2.2.2 h4;exact⟨this.1,Ah Aa⟩
theorem RV{p:PProg}{k:Nat}{u:Use}(h:(u.kd !=4)=true):Eo p k u=true:=by
 unfold Eo;rw[show(u.kd==4)=false by simpa using h];rfl
theorem Ny{p:PProg}{k:Nat}{u:Use}{G:PFn}(h:(u.kd !=4)=false)(hG:p.funcs[(p.find k u.name).2.toNat]?=some G):Eo p k u=((G.params.length:Int)==u.ar):=by
 unfold Eo;rw[show(u.kd==4)=true by simpa using h,hG];rfl
theorem ZO{p:PProg}{s:ByteArray}{x:PFn}{k:Nat}(hx:p.funcs[k]?=some x)(h:(x.name.toList==s.toList)=false):placeOf s ((p.funcs.map (·.name)).drop k) k=placeOf s ((p.funcs.map (·.name)).drop (k+1)) (k+1):=QC (by rw[List.getElem?_map,hx];rfl) h
theorem ZP{p:PProg}{s:ByteArray}{x:PFn}{k:Nat}(hx:p.funcs[k]?=some x)(h:(x.name.toList==s.toList)=true):placeOf s ((p.funcs.map (·.name)).drop k) k=(k:Int):=QD (by rw[List.getElem?_map,hx];rfl) h
theorem XN{p:PProg}{s:ByteArray}{k:Nat}(h:p.funcs.length<=k):placeOf s ((p.funcs.map (·.name)).drop k) k= -1:=NY (by rw[List.length_map];exact h)
theorem Q3{p:PProg}{s:ByteArray}(h:0<=p.fnum s):∃G,p.funcs[(p.fnum s).toNat]?=some G:=by
 have:=C0 s (p.funcs.map (·.name)) 0;rw[List.length_map]at this;unfold PProg.fnum at h|-;exact Ah Aa
theorem PY{p:PProg}{i:Int}{G:PFn}(h:p.funcs[i.toNat]?=some G):p.wordF i=G.word:=by unfold PProg.wordF;rw[h];rfl
theorem PE.known_eq(p:PProg)(e:PE):e.known p=(!(e.kind==4&&decide (p.fnum e.name<0))&&PE.knownL p e.kids):=by cases e;rw[PE.known];rfl
theorem PSt.known_eq(p:PProg)(e:PSt):e.known p=(!(e.kind==6&&decide (p.fnum e.name<0))&&(PE.knownL p e.es&&(PSt.knownL p e.thn&&PSt.knownL p e.els))):=by cases e;rw[PSt.known];rfl
theorem PE.knownL_all(p:PProg):∀l:List PE,PE.knownL p l=l.all fun e=>e.known p
 | []=>by rw[PE.knownL];rfl
 |e::l=>by rw[PE.knownL,PE.knownL_all p l];rfl
theorem PSt.knownL_all(p:PProg):∀l:List PSt,PSt.knownL p l=l.all fun e=>e.known p
 | []=>by rw[PSt.knownL];rfl
 |e::l=>by rw[PSt.knownL,PSt.knownL_all p l];rfl
theorem Yy(p:PProg)(e:PE):e.ty p=(bif e.kind==1||(e.kind==2||e.kind==5)then 1
 else bif e.kind==3 then(bif AW p 1 e.kids then 1 else 0)
 else bif e.kind==4 then(bif decide (p.fnum e.name>=0)&&(p.wordF (p.fnum e.name)&&AW p 1 e.kids)then 1 else 0)
 else bif e.kind==6 then(bif AW p 1 e.kids then(bif e.op==14||e.op==15 then 2 else 1)else 0)
 else bif e.kind==7||(e.kind==8||e.kind==9)then(bif AW p 2 e.kids then 2 else 0)
 else 0):=by cases e;rw[PE.ty];rfl
theorem F9(p:PProg)(w:Bool)(e:PSt):e.fits p w=((bif e.kind==4||e.kind==5 then AW p 2 e.es else AW p 1 e.es)&&(!(e.kind==6&&p.wordF (p.fnum e.name))&&(!(e.kind==7&&(decide ((e.es.length:Int)>0)&& !w))&&(Bj p w e.thn&&Bj p w e.els)))):=by cases e;rw[PSt.fits];rfl
theorem SM{p:PProg}{e:PSt}(h:e.known p=true)(hk:(e.kind==6)=true):0<=p.fnum e.name:=by
 rw[PSt.known_eq,hk]at h;simp at h;omega
theorem ZW{a b c d:Bool}(h2:(a&&b)=true)(h3:(c&&d)=true):(a&&(b&&(c&&d)))=true:=by rw[h3,Bool.and_true];exact h2
theorem ZV{a b e:Bool}(h2:(a&&b)=false):(a&&(b&&e))=false:=by rw[<-Bool.and_assoc,h2];rfl
theorem ZU{a b e:Bool}(h3:e=false):(a&&(b&&e))=false:=by rw[h3];cases a<;>cases b<;>rfl
theorem TH{p:PProg}(h:p.right=true):1<=p.funcs.length:=by
 unfold PProg.right at h;simp only[Bool.and_eq_true,decide_eq_true_eq]at h;omega
structure PSz(p:PProg):Prop extends PSm p where
  arr:∀a∈p.arrays,1<=a.2/\a.2<=4096
theorem WM{p:PProg}(hp:PSm p)(h:p.right=true):PSz p:=by
 refine⟨hp,fun a ha=>?_⟩;unfold PProg.right at h;simp only[Bool.and_eq_true,List.all_eq_true]at h;have:=h.2.1 a ha;unfold EO at this;simp only[Bool.and_eq_true,decide_eq_true_eq]at this;exact this.2
section
variable {p : PProg}
theorem PSz.aoff(h:PSz p):∀k:Nat,k<=p.arrays.length->(p.vars.length:Int)<=p.aoff k/\p.aoff k<=200+4096*k
 |0,_=>by
  have e:p.aoff 0=p.vars.length:=by simp[PProg.aoff]
  have:=h.v;omega
 |k+1,hk=>by
  obtain⟨x,hx⟩:=Ah (l:=p.arrays) (k:=k) Aa;have h1:=PSz.aoff h k Aa;have h2:=h.arr x (List.mem_of_getElem? hx);rw[Du hx];omega
theorem Rt:p.aoff p.arrays.length=p.base:=by unfold PProg.aoff PProg.base;rw[List.take_length]
theorem PSz.base(h:PSz p):(p.vars.length:Int)<=p.base/\p.base<=820000:=by
 have h1:=h.aoff p.arrays.length (Nat.le_refl _);have h2:=h.a;rw[Rt]at h1;omega
theorem MC:p.first 0=p.base:=by simp[PProg.first]
theorem PSz.first(h:PSz p):∀k:Nat,k<=p.funcs.length->(p.vars.length:Int)<=p.first k/\p.first k<=820000+400*k
 |0,_=>by rw[MC];have:=h.base;omega
 |k+1,hk=>by
  obtain⟨x,hx⟩:=Ah (l:=p.funcs) (k:=k) Aa;have h1:=PSz.first h k Aa
  have h2:=h.fn x (List.mem_of_getElem? hx);rw[Ex hx];unfold PFn.names;rw[List.length_append];omega
end
def FJ(p:PProg)(k:Nat):List Int:=(List.range k).map p.first
theorem G4(p:PProg)(k:Nat):(FJ p k).length=k:=by simp[FJ]
theorem Q6(p:PProg)(k:Nat):(FJ p (k+1)).map (fun b=>[AV.int .i64 b])=(FJ p k).map (fun b=>[AV.int .i64 b])++[[.int .i64 (p.first k)]]:=by
 unfold FJ;rw[List.range_succ];simp
theorem MB{p:PProg}{k i:Nat}(h:i<k):(FJ p k)[i]?=some (p.first i):=by unfold FJ;rw[List.getElem?_map,JU h];rfl
theorem WF{p:PProg}{f:Nat}{s:ByteArray}(h:((p.find f s).1==1)=true):p.slot f s=(p.first f+(p.find f s).2,0):=by unfold PProg.slot;dsimp only;rw[h];rfl
theorem WE{p:PProg}{f:Nat}{s:ByteArray}{x:ByteArray×Int}(h:((p.find f s).1==3)=true)(hx:p.arrays[(p.find f s).2.toNat]?=some x):p.slot f s=(p.aoff (p.find f s).2.toNat,x.2):=by
 unfold PProg.slot PProg.aoff;dsimp only;rw[h,show((p.find f s).1==1)=false by rw[beq_iff_eq.1 h];rfl,hx];rfl
theorem WG{p:PProg}{f:Nat}{s:ByteArray}(h1:((p.find f s).1==1)=false)(h3:((p.find f s).1==3)=false):p.slot f s=((p.find f s).2,0):=by unfold PProg.slot;dsimp only;rw[h1,h3];rfl
abbrev X6(p:PProg)(f:Nat)(x:PE)(a b:Int):List AV:=[.int .i64 x.kind,.int .i64 x.op,.int .u32 x.num,.int .i64 a,.int .i64 b,.lst false ((PE.coreL p f x.kids).map CE.cells)]
abbrev WI(p:PProg)(f:Nat)(x:PSt)(a b:Int):List AV:=[.int .i64 x.kind,.int .i64 a,.int .i64 b,.lst false ((PE.coreL p f x.es).map CE.cells),.lst false ((PSt.coreL p f x.thn).map CS.cells),.lst false ((PSt.coreL p f x.els).map CS.cells)]
def YF(p:PProg)(f:Nat)(s:ByteArray):Int:=bif s.size==0 then 0 else(p.slot f s).1
def YE(p:PProg)(f:Nat)(s:ByteArray):Int:=bif s.size==0 then 0 else(p.slot f s).2
theorem X5(p:PProg)(f:Nat)(x:PE):(x.core p f).cells=X6 p f x (YF p f x.name) (YE p f x.name):=by
 cases x;rw[PE.core_eq,CE.cells_eq];rfl
theorem WH(p:PProg)(f:Nat)(x:PSt):(x.core p f).cells=WI p f x (YF p f x.name) (YE p f x.name):=by
 cases x;rw[PSt.core_eq,CS.cells_eq];rfl
theorem TU{p:PProg}{f:Nat}{s:ByteArray}(h:(!(s.toList==(⟨#[]⟩:ByteArray).toList))=false):YF p f s=0/\YE p f s=0:=by
 rw[Y9]at h;have e:(s.size==0)=true:=by simpa using h
 unfold YF YE;rw[e];exact⟨rfl,rfl⟩
theorem TS{p:PProg}{f:Nat}{s:ByteArray}(h:(!(s.toList==(⟨#[]⟩:ByteArray).toList))=true):YF p f s=(p.slot f s).1/\YE p f s=(p.slot f s).2:=by
 rw[Y9]at h;have e:(s.size==0)=false:=by simpa using h
 unfold YF YE;rw[e];exact⟨rfl,rfl⟩
theorem Rc{p:PProg}{f k:Nat}{l:List PE}{x:PE}(hx:l[k]?=some x):(PE.coreL p f (l.take (k+1))).map CE.cells=(PE.coreL p f (l.take k)).map CE.cells++[X6 p f x (YF p f x.name) (YE p f x.name)]:=by
 rw[PE.coreL_map,PE.coreL_map,AZ hx,List.map_append,List.map_append,<-X5];rfl
theorem Qe{p:PProg}{f k:Nat}{l:List PSt}{x:PSt}(hx:l[k]?=some x):(PSt.coreL p f (l.take (k+1))).map CS.cells=(PSt.coreL p f (l.take k)).map CS.cells++[WI p f x (YF p f x.name) (YE p f x.name)]:=by
 rw[PSt.coreL_map,PSt.coreL_map,AZ hx,List.map_append,List.map_append,<-WH];rfl
theorem F3{p:PProg}{f k:Nat}{l:List PE}(hk:k<=l.length):(PE.coreL p f (l.take k)).length=k:=by rw[PE.coreL_map,List.length_map,List.length_take];omega
theorem FU{p:PProg}{f k:Nat}{l:List PSt}(hk:k<=l.length):(PSt.coreL p f (l.take k)).length=k:=by rw[PSt.coreL_map,List.length_map,List.length_take];omega
theorem IR:∀l:List PE,l.length<=PE.partsL l
 | []=>by rw[PE.partsL];exact Nat.le_refl _
 |e::l=>by rw[PE.partsL,List.length_cons];have:=IR l;have:=PE.parts_kids e;omega
theorem HA:∀l:List PSt,l.length<=PSt.partsL l
 | []=>by rw[PSt.partsL];exact Nat.le_refl _
 |e::l=>by rw[PSt.partsL,List.length_cons];have:=HA l;have:=PSt.parts_kids e;omega
def TQ(p:PProg):Int:=bif p.sound==0 then(bif decide (p.words>32768)then 2 else 0)else p.sound
def bY(p:PProg):Int:=bif TQ p==0 then p.words else 0
def bZ(p:PProg):List (List AV):=bif TQ p==0 then p.core.funcs.map CFn.cells else []
theorem Lb{p:PProg}(h:(p.sound !=0)=true):TQ p=p.sound/\bY p=0/\bZ p=[]:=by
 have h0:(p.sound==0)=false:=by simpa using h
 have e:TQ p=p.sound:=by unfold TQ;rw[h0];rfl
 unfold bY bZ;rw[e,h0];exact⟨rfl,rfl,rfl⟩
theorem La{p:PProg}(h:(p.sound !=0)=false)(h2:decide (p.words>32768)=true):TQ p=2/\bY p=0/\bZ p=[]:=by
 have h0:(p.sound==0)=true:=by simpa using h
 have e:TQ p=2:=by unfold TQ;rw[h0,h2];rfl
 unfold bY bZ;rw[e];exact⟨rfl,rfl,rfl⟩
theorem K9{p:PProg}(h:(p.sound !=0)=false)(h2:decide (p.words>32768)=false):TQ p=0/\bY p=p.words/\bZ p=p.core.funcs.map CFn.cells:=by
 have h0:(p.sound==0)=true:=by simpa using h
 have e:TQ p=0:=by unfold TQ;rw[h0,h2];rfl
 unfold bY bZ;rw[e];exact⟨rfl,rfl,rfl⟩
theorem Zv{p:PProg}(h:TQ p=0):p.sound=0/\p.words<=32768/\bY p=p.words/\bZ p=p.core.funcs.map CFn.cells:=by
 cases h0:p.sound !=0 with
 |true=>
  have:=(Lb h0).1;rw[h]at this;rw[<-this]at h0;cases h0
 |false=>
  cases h2:decide (p.words>32768)with
  |true=>have:=(La h0 h2).1;omega
  |false=>
   have h3:=K9 h0 h2;exact⟨by simpa using h0,by have:=of_decide_eq_false h2;omega,h3.2⟩
theorem Q8{p:PProg}{k:Nat}{x:PFn}(hx:p.funcs[k]?=some x):(p.core.funcs.take (k+1)).map CFn.cells=(p.core.funcs.take k).map CFn.cells++[(p.coreF k x).cells]:=by
 rw[AZ (x:=p.coreF k x) (by rw[F5,hx];rfl),List.map_append];rfl
theorem HM(p:PProg):p.core.funcs.length=p.funcs.length:=by
 exact Wa
structure PM.good(p:PProg)(fuel:Int)(c:PM):Prop where
  vl:c.m.words.length=p.vars.length
  vw:Dc c.m.words
  out:c.m.out.length<=65536
  al:c.arrs.length=p.arrays.length
  az:∀(i:Nat) (x:ByteArray×Int),p.arrays[i]?=some x->((c.arr i).length:Int)=x.2
  aw:∀a∈c.arrs,Dc a
  st:c.m.steps<=fuel.toNat
def PM.to(p:PProg)(fuel:Int)(c c':PM):Prop:=c'.good p fuel/\c.m.steps<=c'.m.steps
section
variable {p : PProg} {fuel : Int} {c c1 c2 : PM}
theorem PM.good.self(h:c.good p fuel):PM.to p fuel c c:=⟨h,Nat.le_refl _⟩
theorem PM.to.trans(h1:PM.to p fuel c c1)(h2:PM.to p fuel c1 c2):PM.to p fuel c c2:=⟨h2.1,Nat.le_trans h1.2 h2.2⟩
theorem PM.good.fin(h:c.good p fuel)(n:Int):PM.to p fuel c (c.put {c.m with fin:=n}):=⟨⟨h.vl,h.vw,h.out,h.al,h.az,h.aw,h.st⟩,Nat.le_refl _⟩
theorem PM.good.arr(h:c.good p fuel)(i:Int):Dc (c.arr i):=by
 unfold PM.arr
 cases e:c.arrs[i.toNat]? with
 |none=>intro v hv;cases hv
 |some a=>exact h.aw a (List.mem_of_getElem? e)
theorem PM.good.tick(h:c.good p fuel):PM.to p fuel c (c.tick fuel):=by
 unfold PM.tick AI
 by_cases hs:(c.m.steps:Int)>=fuel
 . rw[decide_eq_true hs];exact h.fin 5
 . rw[decide_eq_false hs];exact⟨⟨h.vl,h.vw,h.out,h.al,h.az,h.aw,by show c.m.steps+1<=_;omega⟩,Nat.le_succ _⟩
theorem PM.good.var(h:c.good p fuel)(i:Int){v:Int}(hv:CW v):PM.to p fuel c (c.put {c.m with words:=rset c.m.words i v}):=
 ⟨⟨by show(rset c.m.words i v).length=_;rw[Bf];exact h.vl,DB h.vw i hv,h.out,h.al,h.az,h.aw,h.st⟩,Nat.le_refl _⟩
theorem PM.good.byte(h:c.good p fuel)(b:UInt8)(ho:¬c.m.out.length>=65536):PM.to p fuel c (c.put {c.m with out:=c.m.out++[b]}):=
 ⟨⟨h.vl,h.vw,by show(c.m.out++[b]).length<=_;rw[List.length_append];simp;omega,h.al,h.az,h.aw,h.st⟩,Nat.le_refl _⟩
theorem PM.good.read(h:c.good p fuel):PM.to p fuel c (c.put {c.m with read:=c.m.read+1}):=⟨⟨h.vl,h.vw,h.out,h.al,h.az,h.aw,h.st⟩,Nat.le_refl _⟩
theorem aB(c:PM)(i j:Int)(l:List Int):({c with arrs:=c.arrs.set i.toNat l}:PM).arr j=if i.toNat=j.toNat/\i.toNat<c.arrs.length then l else c.arr j:=by
 unfold PM.arr;rw[List.getElem?_set]
 by_cases h:i.toNat=j.toNat
 . rw[if_pos h]
   by_cases h2:i.toNat<c.arrs.length
   . rw[if_pos h2,if_pos ⟨h,h2⟩];rfl
   . rw[if_neg h2,if_neg (fun e=>h2 e.2),<-h,List.getElem?_eq_none Aa]
 . rw[if_neg h,if_neg (fun e=>h e.1)]
theorem PM.good.put(h:c.good p fuel)(i a:Int){v:Int}(hv:CW v):PM.to p fuel c {c with arrs:=c.arrs.set i.toNat (rset (c.arr i) a v)}:=by
 refine⟨⟨h.vl,h.vw,h.out,by show(c.arrs.set _ _).length=_;rw[List.length_set];exact h.al,fun j x hx=>?_,fun l hl=>?_,h.st⟩,Nat.le_refl _⟩
 . rw[aB];split
   . rename_i e;rw[Bf];have:=h.az j x hx;unfold PM.arr at this|-;rw[e.1];exact this
   . exact h.az j x hx
 . rcases List.mem_or_eq_of_mem_set hl with hl|rfl
   . exact h.aw l hl
   . exact DB (h.arr i) a hv
variable {cl : Ct} {s : ByteArray} {f : Nat} {ws : List Int}
def II(p:PProg)(fuel:Int)(cl:Ct):Prop:=∀g args c,PM.good p fuel c->Dc args->PM.to p fuel c (cl g args c).2/\CW (cl g args c).1
def kt(p:PProg)(fuel:Int)(cl:Ct)(s:ByteArray)(f:Nat)(ws:List Int)(e:PE):Prop:=∀c,PM.good p fuel c->PM.to p fuel c (e.ev p cl s f ws c).2/\CW (e.ev p cl s f ws c).1
theorem jX{l:List PE}(hI:∀e∈l,kt p fuel cl s f ws e)(hc:c.good p fuel):PM.to p fuel c (CU p cl s f ws l c).2/\CW (CU p cl s f ws l c).1:=by
 cases l with
 |nil=>rw[CU];exact⟨hc.self,isW_zero⟩
 |cons e l=>rw[CU];exact hI e (List.mem_cons.2 (.inl rfl)) c hc
theorem em(hcall:II p fuel cl){g:Nat}:∀{l:List PE},(∀e∈l,kt p fuel cl s f ws e)->∀(args:List Int) {c:PM},Dc args->c.good p fuel->PM.to p fuel c (PE.evC p cl s f ws g l args c).2/\CW (PE.evC p cl s f ws g l args c).1
 | [],_,args,c,ha,hc=>by rw[PE.evC];exact hcall _ _ _ hc ha
 |e::l,hI,args,c,ha,hc=>by
  rw[PE.evC];have h:=hI e (List.mem_cons.2 (.inl rfl)) c hc;generalize e.ev p cl s f ws c=q at h|-;obtain⟨x,c1⟩:=q;have h2:=em hcall (g:=g) (fun e he=>hI e (List.mem_cons.2 (.inr he))) (args++[x]) (fun v hv=>by
   rcases List.mem_append.1 hv with hv|hv
   . exact ha v hv
   . rw[List.mem_singleton.1 hv];exact h.2) h.1.1
  exact⟨h.1.trans h2.1,h2.2⟩
theorem BM(hcall:II p fuel cl)(hw:Dc ws):∀(m:Nat) (e:PE),e.parts<=m->e.Ok->kt p fuel cl s f ws e
 |0,e,hm,_=>by cases e;rw[PE.parts]at hm;omega
 |m+1,.mk k o n nm kids,hm,hok=>by
  rw[PE.parts]at hm
  cases hok with
  |mk i1 i2 i3 i4 i5 i6=>
  have hI:∀e∈kids,kt p fuel cl s f ws e:=fun e he=>BM hcall hw m e Wh (i6 e he)
  intro c hc;unfold PE.ev
  cases !(c.fin==0)with
  |true=>exact⟨hc.self,isW_zero⟩
  |false=>
  simp only[cond_false]
  by_cases k1:k=1
  . rw[if_pos k1];exact⟨hc.self,i3⟩
  rw[if_neg k1]
  by_cases k2:k=2
  . rw[if_pos k2];refine⟨hc.self,?_⟩
    cases (p.find f nm).1==1 with
    |true=>exact DC hw _
    |false=>exact DC hc.vw _
  rw[if_neg k2]
  by_cases k3:k=3
  . rw[if_pos k3]
    cases kids with
    |nil=>unfold PE.evI;exact⟨hc.self,isW_zero⟩
    |cons e l=>
     unfold PE.evI;have h:=hI e (List.mem_cons.2 (.inl rfl)) c hc;generalize e.ev p cl s f ws c=q at h|-;obtain⟨x,c1⟩:=q;dsimp only
     cases c1.fin==0 with
     |false=>exact⟨h.1,isW_zero⟩
     |true=>
      simp only[cond_true]
      cases decide (x>=(c1.arr (p.find f nm).2).length)with
      |true=>exact⟨h.1.trans (h.1.1.fin 3),isW_zero⟩
      |false=>exact⟨h.1,DC (h.1.1.arr _) _⟩
  rw[if_neg k3]
  by_cases k4:k=4
  . rw[if_pos k4];exact em hcall hI [] Kr hc
  rw[if_neg k4]
  by_cases k5:k=5
  . rw[if_pos k5]
    cases decide (c.m.read<s.size)with
    |true=>exact⟨hc.read,MU _⟩
    |false=>exact⟨hc.self,show CW 256 from⟨by decide,by decide⟩⟩
  rw[if_neg k5]
  by_cases k6:k=6
  . rw[if_pos k6]
    cases kids with
    |nil=>unfold I6;exact⟨hc.self,isW_zero⟩
    |cons e l=>
     unfold I6;have h:=hI e (List.mem_cons.2 (.inl rfl)) c hc;generalize e.ev p cl s f ws c=q at h|-;obtain⟨x,c1⟩:=q;dsimp only
     cases l with
     |nil=>unfold PE.evR;exact⟨h.1,isW_zero⟩
     |cons e2 l=>
      unfold PE.evR;have h2:=hI e2 (List.mem_cons.2 (.inr (List.mem_cons.2 (.inl rfl)))) c1 h.1.1;generalize e2.ev p cl s f ws c1=q at h2|-;obtain⟨y,c2⟩:=q;dsimp only
      cases c2.fin==0 with
      |false=>exact⟨h.1.trans h2.1,isW_zero⟩
      |true=>
       simp only[cond_true]
       cases (BG o x y).2==0 with
       |true=>exact⟨h.1.trans h2.1,Fd h.2 h2.2⟩
       |false=>exact⟨(h.1.trans h2.1).trans (h2.1.1.fin 2),Fd h.2 h2.2⟩
  rw[if_neg k6]
  by_cases k7:k=7
  . rw[if_pos k7]
    cases kids with
    |nil=>unfold I7;exact⟨hc.self,isW_zero⟩
    |cons e l=>
     unfold I7;have h:=hI e (List.mem_cons.2 (.inl rfl)) c hc;generalize e.ev p cl s f ws c=q at h|-;obtain⟨x,c1⟩:=q;exact⟨h.1,cQ _⟩
  rw[if_neg k7]
  cases kids with
  |nil=>unfold PE.evL;exact⟨hc.self,isW_zero⟩
  |cons e l=>
   unfold PE.evL;have h:=hI e (List.mem_cons.2 (.inl rfl)) c hc;generalize e.ev p cl s f ws c=q at h|-;obtain⟨x,c1⟩:=q;have h2:=jX (fun e he=>hI e (List.mem_cons.2 (.inr he))) h.1.1;dsimp only
   cases (k==8)<;>cases x==0<;>first|exact⟨h.1,isW_zero⟩|exact⟨h.1,h.2⟩|exact⟨h.1.trans h2.1,h2.2⟩
end
structure PX.good(p:PProg)(fuel:Int)(n:Nat)(x:PX):Prop where
  c:x.c.good p fuel
  ws:Dc x.ws
  len:x.ws.length=n
  val:CW x.val
def PX.to(p:PProg)(fuel:Int)(n:Nat)(x y:PX):Prop:=y.good p fuel n/\x.c.m.steps<=y.c.m.steps
section
variable {p : PProg} {fuel : Int} {n : Nat} {x y z : PX} {cl : Ct} {s : ByteArray} {f : Nat}
theorem PX.good.self(h:x.good p fuel n):PX.to p fuel n x x:=⟨h,Nat.le_refl _⟩
theorem PX.to.trans(h1:PX.to p fuel n x y)(h2:PX.to p fuel n y z):PX.to p fuel n x z:=⟨h2.1,Nat.le_trans h1.2 h2.2⟩
theorem PX.good.put(h:x.good p fuel n){c:PM}(hc:PM.to p fuel x.c c):PX.to p fuel n x {x with c:=c}:=⟨⟨hc.1,h.ws,h.len,h.val⟩,hc.2⟩
theorem PX.good.own(h:x.good p fuel n)(i:Int){v:Int}(hv:CW v):PX.to p fuel n x {x with ws:=rset x.ws i v}:=⟨⟨h.c,DB h.ws i hv,by show(rset x.ws i v).length=n;rw[Bf];exact h.len,h.val⟩,Nat.le_refl _⟩
theorem PX.good.tick(h:x.good p fuel n):PX.to p fuel n x (x.tick fuel):=h.put h.c.tick
def VW(p:PProg)(fuel:Int)(n:Nat)(cl:Ct)(s:ByteArray)(f:Nat)(st:PSt):Prop:=∀x,PX.good p fuel n x->PX.to p fuel n x (st.run p cl s fuel f x)
theorem Og:∀{l:List PSt},(∀st∈l,VW p fuel n cl s f st)->∀{x:PX},x.good p fuel n->PX.to p fuel n x (PSt.runL p cl s fuel f l x)
 | [],_,x,h=>by rw[PSt.runL];exact h.self
 |st::l,hI,x,h=>by
  rw[PSt.runL]
  cases x.on with
  |false=>exact h.self
  |true=>
   have h1:=hI st (List.mem_cons.2 (.inl rfl)) x h;exact h1.trans (Og (fun e he=>hI e (List.mem_cons.2 (.inr he))) h1.1)
theorem SR{cond:PX->Int×PM}{body:PX->PX}(h1:∀x,PX.good p fuel n x->PM.to p fuel x.c (cond x).2)(h2:∀x,PX.good p fuel n x->PX.to p fuel n x (body x)):∀(g:Nat) {x:PX},x.good p fuel n->PX.to p fuel n x (DA fuel cond body g x)
 |0,x,h=>h.put (h.c.fin 5)
 |g+1,x,h=>by
  rw[DA]
  cases x.on with
  |false=>exact h.self
  |true=>
   have e1:=h1 x h;simp only[cond_true];generalize cond x=q at e1|-;obtain⟨v,c1⟩:=q;dsimp only;have e2:=h.put e1
   cases (v==0|| !(c1.fin==0))with
   |true=>exact e2
   |false=>
    simp only[cond_false];have e3:=h2 _ e2.1;generalize body {x with c:=c1}=y at e3|-
    cases y.on with
    |false=>exact(e2.trans e3).trans (SR h1 h2 g e3.1)
    |true=>
     have e4:=e3.1.tick;exact((e2.trans e3).trans e4).trans (SR h1 h2 g e4.1)
theorem eo(hcall:II p fuel cl){l:List PE}(hl:∀e∈l,e.Ok)(h:x.good p fuel n):PM.to p fuel x.c (PX.ev p cl s f l x).2/\CW (PX.ev p cl s f l x).1:=
 jX (fun e he=>BM hcall h.ws e.parts e (Nat.le_refl _) (hl e he)) h.c
theorem Gv(hcall:II p fuel cl):∀(m:Nat) (st:PSt),st.parts<=m->st.Ok->VW p fuel n cl s f st
 |0,st,hm,_=>by cases st;rw[PSt.parts]at hm;omega
 |m+1,.mk k nm es thn els,hm,hok=>by
  rw[PSt.parts]at hm
  cases hok with
  |mk i1 i2 i3 i4 i5 i6 i7 i8=>
  have hT:∀e∈thn,VW p fuel n cl s f e:=fun e he=>Gv hcall m e (by have h2:=PSt.parts_mem he;omega) (i6 e he)
  have hL:∀e∈els,VW p fuel n cl s f e:=fun e he=>Gv hcall m e (by have h2:=PSt.parts_mem he;omega) (i8 e he)
  intro x hx;rw[PSt.run];have h:=eo (s:=s) (f:=f) hcall i4 hx
  by_cases k1:k=1
  . rw[if_pos k1];generalize PX.ev p cl s f es x=q at h|-;obtain⟨v,c1⟩:=q;dsimp only;have h1:=hx.put h.1
    cases c1.fin==0 with
    |false=>exact h1
    |true=>
     simp only[cond_true]
     cases (p.find f nm).1==1 with
     |true=>exact h1.trans (h1.1.own _ h.2)
     |false=>exact hx.put (h.1.trans (h.1.1.var _ h.2))
  rw[if_neg k1]
  by_cases k2:k=2
  . rw[if_pos k2];generalize PX.ev p cl s f es x=q at h|-;obtain⟨a,c1⟩:=q;dsimp only;have h1:=hx.put h.1;have h3:=eo (s:=s) (f:=f) (l:=es.drop 1) hcall (fun e he=>i4 e (List.mem_of_mem_drop he)) h1.1;generalize PX.ev p cl s f (es.drop 1) {x with c:=c1}=q at h3|-;obtain⟨v,c2⟩:=q;dsimp only at h3|-;have h4:PM.to p fuel x.c c2:=h.1.trans h3.1
    cases c2.fin==0 with
    |false=>exact hx.put h4
    |true=>
     simp only[cond_true]
     cases decide (a>=(c2.arr (p.find f nm).2).length)with
     |true=>exact hx.put (h4.trans (h4.1.fin 3))
     |false=>exact hx.put (h4.trans (h4.1.put _ _ h3.2))
  rw[if_neg k2]
  by_cases k3:k=3
  . rw[if_pos k3];generalize PX.ev p cl s f es x=q at h|-;obtain⟨v,c1⟩:=q;dsimp only
    cases c1.fin==0 with
    |false=>exact hx.put h.1
    |true=>
     simp only[cond_true]
     by_cases ho:c1.m.out.length>=65536
     . rw[decide_eq_true ho];exact hx.put (h.1.trans (h.1.1.fin 4))
     . rw[decide_eq_false ho];exact hx.put (h.1.trans (h.1.1.byte _ ho))
  rw[if_neg k3]
  by_cases k4:k=4
  . rw[if_pos k4];generalize PX.ev p cl s f es x=q at h|-;obtain⟨v,c1⟩:=q;dsimp only;have h1:=hx.put h.1
    cases v==0 with
    |true=>exact h1.trans (Og hL h1.1)
    |false=>exact h1.trans (Og hT h1.1)
  rw[if_neg k4]
  by_cases k5:k=5
  . rw[if_pos k5];exact hx.tick.trans (SR (fun x hx=>(eo hcall i4 hx).1) (fun x hx=>Og hT hx) _ hx.tick.1)
  rw[if_neg k5]
  by_cases k6:k=6
  . rw[if_pos k6];exact hx.put (em hcall (fun e he=>BM hcall hx.ws e.parts e (Nat.le_refl _) (i4 e he)) [] Kr hx.c).1
  rw[if_neg k6]
  by_cases k7:k=7
  . rw[if_pos k7];generalize PX.ev p cl s f es x=q at h|-;obtain⟨v,c1⟩:=q;exact⟨⟨h.1.1,hx.ws,hx.len,h.2⟩,h.1.2⟩
  rw[if_neg k7];exact hx.self
end
theorem H7{p:PProg}(hp:p.Ok){s:ByteArray}{fuel:Int}:∀n,II p fuel (CQ p s fuel n)
 |0=>fun g args c hc ha=>by rw[CQ];exact⟨hc.self,isW_zero⟩
 |n+1=>fun g args c hc ha=>by
  rw[CQ];have ht:=hc.tick
  cases (c.fin==0&&(c.tick fuel).fin==0)with
  |false=>cases c.fin==0 with
   |true=>exact⟨ht,isW_zero⟩
   |false=>exact⟨hc.self,isW_zero⟩
  |true=>
   simp only[cond_true]
   cases e:p.funcs[g]? with
   |none=>exact⟨hc.self,isW_zero⟩
   |some G=>
    have hG:=hp.funcs G (List.mem_of_getElem? e);dsimp only;have hw:Dc (args++List.replicate G.locals.length 0):=fun v hv=>by
     rcases List.mem_append.1 hv with hv|hv
     . exact ha v hv
     . rw[(List.mem_replicate.1 hv).2];exact isW_zero
    have h:=Og (p:=p) (fuel:=fuel) (cl:=CQ p s fuel n) (s:=s) (f:=g) (l:=G.body) (fun st hs=>Gv (H7 hp n) st.parts st (Nat.le_refl _) (hG.body st hs)) (x:=⟨args++List.replicate G.locals.length 0,false,0,c.tick fuel⟩) ⟨ht.1,hw,rfl,isW_zero⟩;exact⟨⟨h.1.c,Nat.le_trans ht.2 h.2⟩,h.1.val⟩
end Go.Proofs.YtmfihmkopmgelaaGreat.Sv
