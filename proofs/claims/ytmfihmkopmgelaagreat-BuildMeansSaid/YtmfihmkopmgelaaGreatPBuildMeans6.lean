/-
  ROWS BY OTHER NUMBERS: a call's contract stays true if two rows change their numbers. Own work, over no program.
-/
import Derived.Test.YtmfihmkopmgelaaGreatPBuildMeans2
import Derived.Test.YtmfihmkopmgelaaGreatPBuildMeans5
import Derived.Test.YtmfihmkopmgelaaGreatPBuildMeans3
set_option linter.unusedVariables false
set_option linter.unusedSimpArgs false
set_option maxRecDepth 100000
set_option maxHeartbeats 2000000
namespace Go.Proofs.YtmfihmkopmgelaaGreat.Sv
open Go
mutual
def AV.ren(ρ:Nat->Nat):AV->AV
  | .ref b n o l=>.ref (ρ b) n o l
  | .ptr b n i o=>.ptr (ρ b) n i o
  | .map b=>.map (ρ b)
  | .agg cs=>.agg (Dv ρ cs)
  | .tup cs=>.tup (Dv ρ cs)
  | .fn f xs cs=>.fn f (Dv ρ xs) (Dv ρ cs)
  | .bool b=>.bool b
  | .int k n=>.int k n
  | .str s=>.str s
  | .nil=>.nil
  | .nilp=>.nilp
  | .lst ex es=>.lst ex es
  | .loc cs=>.loc cs
  | .val v=>.val v
def Dv(ρ:Nat->Nat):List AV->List AV
  | []=>[]
  |x::l=>x.ren ρ::Dv ρ l
end
theorem Gb(ρ:Nat->Nat):∀l:List AV,Dv ρ l=l.map (AV.ren ρ)
 | []=>by rw[Dv];rfl
 |x::l=>by rw[Dv,Gb ρ l];rfl
def AObj.ren(ρ:Nat->Nat):AObj->AObj
  | .row false sz es=>.row false sz (es.map fun cs=>cs.map (AV.ren ρ))
  |o=>o
def Gt(ρ:Nat->Nat)(h:Ag):Ag:=fun b=>(h (ρ b)).map (AObj.ren ρ)
section
variable {ρ : Nat -> Nat} {H H' : AJ} {ι ι' : Bi} {h h' : Ag} {w w' : World}
theorem Jq{cs:List AV}{j:Nat}{x:AV}(h1:(Dv ρ cs)[j]?=some x):∃y,cs[j]?=some y/\x=y.ren ρ:=by
 rw[Gb,List.getElem?_map]at h1
 cases hc:cs[j]? with
 |none=>rw[hc]at h1;cases h1
 |some y=>rw[hc]at h1;cases h1;exact⟨y,rfl,rfl⟩
theorem O4{x:AV}{v:Value}(h:Rel H ι x v):∀{κ:Bi},(∀b,κ (ρ b)=ι b)->Rel H κ (x.ren ρ) v:=by
 induction h with
 |bool=>intro κ hk;rw[AV.ren];exact .bool _ _
 |int=>intro κ hk;rw[AV.ren];exact .int _ _ _
 |str=>intro κ hk;rw[AV.ren];exact .str _ _
 |nil=>intro κ hk;rw[AV.ren];exact .nil _
 |nilp=>intro κ hk;rw[AV.ren];exact .nilp _
 |lst0 ι ex a cap hex hcap hn hsp=>intro κ hk;rw[AV.ren];exact .lst0 _ _ _ _ hex hcap hn hsp
 |lst ι ex es b off cap sz c vals hne hb hsz hv hr h1 hex hcap hmax=>intro κ hk;rw[AV.ren];exact .lst _ _ _ _ _ _ _ _ _ hne hb hsz hv hr h1 hex hcap hmax
 |loc ι cs b off c vals hb hv hr h1=>intro κ hk;rw[AV.ren];exact .loc _ _ _ _ _ _ hb hv hr h1
 |refL ι b n off len cap r hr hn hlen hlc hcap hmax=>intro κ hk;rw[AV.ren];exact .refL _ _ _ _ _ _ r ((hk b).trans hr) hn hlen hlc hcap hmax
 |ref0 ι b r a hr hn hc hsp=>intro κ hk;rw[AV.ren];exact .ref0 _ _ r _ ((hk b).trans hr) hn hc hsp
 |refS ι b n off len r a cap hr hn=>intro κ hk;rw[AV.ren];exact .refS _ _ _ _ _ r _ _ ((hk b).trans hr) hn
 |ptrL ι b n i o r hr hn=>intro κ hk;rw[AV.ren];exact .ptrL _ _ _ _ _ r ((hk b).trans hr) hn
 |ptrS ι b n i o r a hr hn=>intro κ hk;rw[AV.ren];exact .ptrS _ _ _ _ _ r _ ((hk b).trans hr) hn
 |map ι b r hr hn=>intro κ hk;rw[AV.ren];exact .map _ _ r ((hk b).trans hr) hn
 |agg ι cs vs hl hr ih=>
  intro κ hk;rw[AV.ren];refine .agg _ _ _ cV fun j x v h1 h2=>?_
  obtain⟨y,h3,rfl⟩:=Jq h1;exact ih j y v h3 h2 hk
 |tup ι cs vs hl hr ih=>
  intro κ hk;rw[AV.ren];refine .tup _ _ _ cV fun j x v h1 h2=>?_
  obtain⟨y,h3,rfl⟩:=Jq h1;exact ih j y v h3 h2 hk
 |fn ι f xs cs us vs hx hl g1 g2 ih1 ih2=>
  intro κ hk;rw[AV.ren];refine .fn _ _ _ _ _ _ (by rw[Gb,List.length_map];exact hx) cV (fun j x v h1 h2=>?_) (fun j x v h1 h2=>?_)
  . obtain⟨y,h3,rfl⟩:=Jq h1;exact ih1 j y v h3 h2 hk
  . obtain⟨y,h3,rfl⟩:=Jq h1;exact ih2 j y v h3 h2 hk
 |val ι v h=>intro κ hk;rw[AV.ren];exact .val _ _ h
theorem UR(x:AV)(h:x.cell1=true):(x.ren ρ).cell1=true:=by
 cases x<;>first|(rw[AV.ren];exact h)|(rw[AV.ren];rfl)|cases h
theorem H5(o:AObj):(o.ren ρ).alive=o.alive:=by
 cases o with
 |row p sz es=>cases p<;>rfl
 |_=>rfl
theorem dA{r:Ent}{o:AObj}{κ:Bi}(hk:∀b,κ (ρ b)=ι b)(h:ObjOk H ι w r o):ObjOk H κ w r (o.ren ρ):=by
 cases o with
 |free=>exact h
 |map kvs=>exact h
 |iter0=>exact h
 |row p sz es=>
  cases p with
  |true=>exact h
  |false=>
   obtain⟨h1,h2,h3,h4,h5,h6⟩:=h;refine⟨h1,h2,by rw[List.length_map];exact h3,by rw[List.length_map];exact h4,fun i cs hi=>?_,fun hs=>?_⟩
   . rw[List.getElem?_map]at hi;exact bA
   . obtain⟨c,T,g1,g2,g3,g4⟩:=h6 hs;refine⟨c,T,g1,g2,fun i cs hi=>?_,fun i cs j x hi hj=>?_⟩
     . rw[List.getElem?_map]at hi;exact bA
     . rw[List.getElem?_map]at hi
       cases hc:es[i]? with
       |none=>rw[hc]at hi;cases hi
       |some ds=>
        rw[hc]at hi;cases hi;rw[List.getElem?_map]at hj
        cases hd:ds[j]? with
        |none=>rw[hd]at hj;cases hj
        |some y=>
         rw[hd]at hj;cases hj;obtain⟨v,k1,k2,k3⟩:=g4 i ds j y hc hd;exact⟨v,k1,O4 k2 hk,UR y k3⟩
theorem Fh{b:Nat}{o:AObj}(hb:Gt ρ h b=some o):∃q,h (ρ b)=some q/\o=q.ren ρ:=by
 unfold Gt at hb
 cases hc:h (ρ b)with
 |none=>rw[hc]at hb;cases hb
 |some q=>rw[hc]at hb;cases hb;exact⟨q,rfl,rfl⟩
theorem WS{o:AObj}(h:o.ren ρ=.free):o=.free:=by
 cases o with
 |row p sz es=>cases p<;>cases h
 |free=>rfl
 |_=>cases h
theorem Qn(h2:∀b,ρ (ρ b)=b)(hr:HeapRel H ι h w):HeapRel H (fun b=>ι (ρ b)) (Gt ρ h) w where
 know:=hr.know
 free:=fun b hb=>by
  obtain⟨q,q1,q2⟩:=Fh hb;have:=WS q2.symm;subst this;exact hr.free _ q1
 obj:=fun b o hb ha=>by
  obtain⟨q,q1,rfl⟩:=Fh hb;rw[H5]at ha;obtain⟨r,r1,r2,r3⟩:=hr.obj _ q q1 ha;exact⟨r,r1,dA (fun b=>by rw[h2]) r2,r3⟩
 inj:=fun b b' o o' r r' h3 h4 h5 h6 h7 h8 s1 s2 hne=>by
  obtain⟨q,q1,rfl⟩:=Fh h3;obtain⟨q',q1',rfl⟩:=Fh h5;rw[H5]at h4 h6;exact hr.inj _ _ q q' r r' q1 h4 q1' h6 h7 h8 s1 s2 fun e=>hne (by rw[<-h2 b,e,h2])
 glob:=hr.glob
theorem NR(h2:∀b,ρ (ρ b)=b){rb:Nat}:Ga (Gt ρ h) (fun b=>ι (ρ b)) rb↔Ga h ι rb:=by
 constructor
 . rintro⟨b,o,r,e1,e2,e3,e4,e5⟩
   obtain⟨q,q1,rfl⟩:=Fh e1;rw[H5]at e2;exact⟨ρ b,q,r,q1,e2,e3,e4,e5⟩
 . rintro⟨b,o,r,e1,e2,e3,e4,e5⟩
   refine⟨ρ b,o.ren ρ,r,?_,by rw[H5];exact e2,by show ι (ρ (ρ b))=_;rw[h2];exact e3,e4,e5⟩;unfold Gt;rw[h2,e1];rfl
theorem renH_none{b:Nat}:Gt ρ h b=none↔h (ρ b)=none:=by
 unfold Gt
 cases h (ρ b)<;>simp
theorem WQ(h2:∀b,ρ (ρ b)=b)(hs:Step H ι h w H' ι' h' w'):Step H (fun b=>ι (ρ b)) (Gt ρ h) w H' (fun b=>ι' (ρ b)) (Gt ρ h') w' where
 size:=hs.size
 os:=hs.os
 out:=hs.out
 keep:=fun rb hl hn=>hs.keep rb hl fun ho=>hn ((NR h2).2 ho)
 kle:=hs.kle
 knew:=fun b hb=>(hs.knew b hb).imp id fun h=>h.imp id fun h=>(NR h2).2 h
 lle:=fun b r e=>hs.lle _ r e
 lframe:=fun b hb=>hs.lframe _ (renH_none.1 hb)
 newrb:=fun b r' e1 e2=>hs.newrb _ r' e1 e2
 dom:=fun b hb=>renH_none.2 (hs.dom _ (renH_none.1 hb))
theorem WU(h2:∀b,ρ (ρ b)=b)(h3:∀x:AObj,(x.ren ρ).ren ρ=x):Gt ρ (Gt ρ h)=h:=by
 funext b;unfold Gt;rw[h2]
 cases h b with
 |none=>rfl
 |some q=>simp[h3]
mutual
theorem O3(h2:∀b,ρ (ρ b)=b):∀x:AV,(x.ren ρ).ren ρ=x
 | .ref b n o l=>by simp[AV.ren,h2]
 | .ptr b n i o=>by simp[AV.ren,h2]
 | .map b=>by simp[AV.ren,h2]
 | .agg cs=>by simp[AV.ren,Hx h2 cs]
 | .tup cs=>by simp[AV.ren,Hx h2 cs]
 | .fn f xs cs=>by simp[AV.ren,Hx h2 xs,Hx h2 cs]
 | .bool _=>by simp[AV.ren]
 | .int _ _=>by simp[AV.ren]
 | .str _=>by simp[AV.ren]
 | .nil=>by simp[AV.ren]
 | .nilp=>by simp[AV.ren]
 | .lst _ _=>by simp[AV.ren]
 | .loc _=>by simp[AV.ren]
 | .val _=>by simp[AV.ren]
theorem Hx(h2:∀b,ρ (ρ b)=b):∀l:List AV,Dv ρ (Dv ρ l)=l
 | []=>by simp[Dv]
 |x::l=>by simp[Dv,O3 h2 x,Hx h2 l]
end
theorem Sw(h2:∀b,ρ (ρ b)=b)(o:AObj):(o.ren ρ).ren ρ=o:=by
 cases o with
 |row p sz es=>
  cases p with
  |true=>rfl
  |false=>
   show AObj.row false sz _=_;congr 1;rw[List.map_map];refine(List.map_congr_left fun cs _=>?_).trans (List.map_id _);show(cs.map (AV.ren ρ)).map (AV.ren ρ)=cs;rw[List.map_map];exact(List.map_congr_left fun x _=>O3 h2 x).trans (List.map_id _)
 |_=>rfl
theorem ACall.ren{P:Program}{f:FuncId}{xs:List AV}{r:AV}{W:Ag}(h2:∀b,ρ (ρ b)=b)(hc:ACall P f xs h (fun r' h'=>r'=r/\HSub W h')):ACall P f (xs.map (AV.ren ρ)) (Gt ρ h) (fun r' h'=>r'=r.ren ρ/\HSub (Gt ρ W) h'):=fun H ι w vs hx hr=>by
 have hr2:=Qn h2 hr;rw[WU h2 (Sw h2)]at hr2;refine(hc H (fun b=>ι (ρ b)) w vs ⟨by rw[<-hx.1,List.length_map],fun j x v h1 h3=>?_⟩ hr2).mono fun en w' hh=>?_
 . have:=O4 (ρ:=ρ) (hx.2 j (x.ren ρ) v (by rw[List.getElem?_map,h1];rfl) h3) (κ:=fun b=>ι (ρ b)) (fun b=>by rw[h2]);rwa[O3 h2]at this
 . obtain⟨v,r',h',H',ι',e1,⟨rfl,e2⟩,e3,e4,e5⟩:=hh;refine⟨v,_,Gt ρ h',H',fun b=>ι' (ρ b),e1,⟨rfl,fun b o hb=>?_⟩,O4 e3 (fun b=>by rw[h2]),Qn h2 e4,?_⟩
   . obtain⟨q,q1,rfl⟩:=Fh hb;unfold Gt;rw[e2 _ _ q1];rfl
   . have:=WQ h2 e5;simpa only[h2]using this
end
def C4(p:PProg):List (List AV):=p.arrays.zipIdx.map fun x=>[AV.ref (x.2+16) x.1.2.toNat 0 x.1.2.toNat]
def D7(c:PM)(i:Nat):AObj:=match c.arrs[i]? with
  |some a=>.row true 1 (Au a)
  |none=>.free
abbrev V0(p:PProg)(s:ByteArray)(fuel:Int)(c:PM):List AV:=[.lst false (p.vars.map D6),.lst false (p.arrays.map Rr),.lst false (p.funcs.map PFn.cells),.str s,.int .i64 fuel,.ref 1 p.vars.length 0 p.vars.length,.ref 2 p.arrays.length 0 p.arrays.length,.ref 3 c.m.out.length 0 c.m.out.length,.int .i64 (c.m.read:Int),.int .i64 (c.m.steps:Int),.int .i64 c.m.fin]
abbrev jB(p:PProg)(s:ByteArray)(fuel:Int)(c:PM):List AObj:=[.row false 11 [V0 p s fuel c],.row true 1 (Au c.m.words),.row false 1 (C4 p),.row true 1 (AC c.m.out)]
abbrev nd(f n:Nat)(x:PX):List AV:=[.int .i64 (f:Int),.ref 5 n 0 n,.bool x.back,.int .u32 x.val]
abbrev jz(p:PProg)(s:ByteArray)(fuel:Int)(n f:Nat)(x:PX):List AObj:=[.row false 11 [V0 p s fuel x.c],.row true 1 (Au x.c.m.words),.row false 1 (C4 p),.row true 1 (AC x.c.m.out),.row false 4 [nd f n x],.row true 1 (Au x.ws)]
abbrev eU(p:PProg)(s:ByteArray)(fuel:Int)(c:PM):Ag:=Gj (nb (jB p s fuel c)) (D7 c)
abbrev ER(p:PProg)(s:ByteArray)(fuel:Int)(n f:Nat)(x:PX):Ag:=Gj (nb (jz p s fuel n f x)) (D7 x.c)
theorem Dk(c:PM)(k:Nat->Bool)(i:Nat):(D7 c i).avoid k=true:=by unfold D7;cases c.arrs[i]?<;>rfl
theorem D0(p:PProg){k:Nat->Bool}(hk:∀x,k (x+16)=true):(AObj.row false 1 (C4 p)).avoid k=true:=by
 show(C4 p).all (fun cs=>cs.all (AV.avoid k))=true;refine List.all_eq_true.2 fun cs hc=>?_
 obtain⟨q,_,rfl⟩:=List.mem_map.1 hc;show(k (q.2+16)&&true)=true;rw[hk];rfl
section
variable {p : PProg} {s : ByteArray} {fuel : Int} {n f k0 : Nat} {L L' : List AObj} {F F' : Nat -> AObj} {h : Ag}
theorem FV(k0:Nat)(h:Ag)(L:List AObj)(F:Nat->AObj)(x:Nat):BJ (kf k0) h (Gj (nb L) F) (x+16)=some (F x):=by rw[EJ (Hj _ _),Ax]
theorem Xs(hL:L.length=k0)(hm:k0<=16)(h1:LowR h 0 L)(h2:∀x,h (x+16)=some (F x)){b:Nat}(hb:kf k0 b=true):h b=Gj (nb L) F b:=by
 by_cases h16:16<=b
 . obtain⟨x,rfl⟩:∃x,b=x+16:=⟨b-16,by omega⟩
   rw[h2,Ax]
 . rw[Gi _ _ Aa];have hlt:b<k0:=by
    unfold kf at hb;rw[Bool.or_eq_true,Nat.ble_eq]at hb;rcases hb with hb|hb
    . unfold Nat.blt at hb;rw[Nat.ble_eq]at hb;omega
    . exact absurd hb h16
   have:=LowR.get h1 (c:=b) Aa;rw[Nat.zero_add]at this;exact this
theorem Fi{k:Nat->Bool}(hA:∀o∈L,o.avoid k=true)(hF:∀x,(F x).avoid k=true)(b:Nat):∃q,Gj (nb L) F b=some q/\q.avoid k=true:=by
 by_cases h16:16<=b
 . obtain⟨x,rfl⟩:∃x,b=x+16:=⟨b-16,by omega⟩
   exact⟨_,Ax _ _ _,hF x⟩
 . exact⟨_,Gi _ _ Aa,N0 hA rfl b⟩
theorem QL{P:Program}{o:Oper}{e:AN}{g:FuncId}{fn:Func}{args:Array Operand}{tys:Array TypeId}{xs:List AV}{r:AV}(hL:L.length=k0)(hL':L'.length=k0)(hm:k0<=16)(hA:∀o∈L,o.avoid (kf k0)=true)(hA':∀o∈L',o.avoid (kf k0)=true)(hF:∀x,(F x).avoid (kf k0)=true)(hF':∀x,(F' x).avoid (kf k0)=true)
 (ho:o.op=.call {callee:=.value (.func g),args:=args,argTypes:=tys}) (hf:P.funcs[g]?=some fn) (hn:(fn.name== "runtime.NumGoroutine")=false) (hb:fn.body.isSome=true) (hx:Bo e args.toList=some xs)
 (hxa:xs.all (AV.avoid (kf k0))=true) (h1:LowR h 0 L) (h2:∀x,h (x+16)=some (F x)) (hra:r.avoid (kf k0)=true) (hcall:ACall P g xs (Gj (nb L) F) (fun r' h'=>r'=r/\HSub (BJ (kf k0) hNone (Gj (nb L') F')) h')):HT P o e h (BJ (kf k0) h (Gj (nb L') F')) r:=
 Mb (W:=Gj (nb L) F) (W':=Gj (nb L') F') (kf k0) ho hf hn hb hx hxa (fun b hb=>Xs hL hm h1 h2 hb) (fun b _=>Fi hA hF b) (fun b hb=>EG hL hb) (fun b _=>Fi hA' hF' b) hra hcall
theorem TX(hL:L.length=k0)(hm:k0<=16)(h1:LowR h 0 L)(h2:∀x,h (x+16)=some (F x)):HSub (BJ (kf k0) hNone (Gj (nb L) F)) h:=Qv fun b hb=>Xs hL hm h1 h2 hb
theorem NU(x:PX):∀o∈jz p s fuel n f x,o.avoid (kf 6)=true:=fun o ho=>by
 simp only[jz,List.mem_cons,List.not_mem_nil,or_false]at ho;rcases ho with rfl|rfl|rfl|rfl|rfl|rfl<;>first|rfl|exact D0 p (Hj 6)
theorem NV(c:PM):∀o∈jB p s fuel c,o.avoid (kf 4)=true:=fun o ho=>by
 simp only[jB,List.mem_cons,List.not_mem_nil,or_false]at ho;rcases ho with rfl|rfl|rfl|rfl<;>first|rfl|exact D0 p (Hj 4)
theorem Bv{P:Program}{o:Oper}{e:AN}{g:FuncId}{fn:Func}{args:Array Operand}{tys:Array TypeId}{xs:List AV}{r:AV}{x y:PX}(hcall:ACall P g xs (ER p s fuel n f x) (fun r' h'=>r'=r/\HSub (BJ (kf 6) hNone (ER p s fuel n f y)) h'))
 (ho:o.op=.call {callee:=.value (.func g),args:=args,argTypes:=tys}) (hf:P.funcs[g]?=some fn) (hn:(fn.name== "runtime.NumGoroutine")=false) (hb:fn.body.isSome=true) (hx:Bo e args.toList=some xs) (hxa:xs.all (AV.avoid (kf 6))=true) (h1:LowR h 0 (jz p s fuel n f x)) (h2:∀i,h (i+16)=some (D7 x.c i)) (hra:r.avoid (kf 6)=true):HT P o e h (BJ (kf 6) h (ER p s fuel n f y)) r:=
 QL rfl rfl Ab (NU x) (NU y) (Dk _ _) (Dk _ _) ho hf hn hb hx hxa h1 h2 hra hcall
theorem Ma{P:Program}{o:Oper}{e:AN}{g:FuncId}{fn:Func}{args:Array Operand}{tys:Array TypeId}{xs:List AV}{r:AV}{c d:PM}(hcall:ACall P g xs (eU p s fuel c) (fun r' h'=>r'=r/\HSub (BJ (kf 4) hNone (eU p s fuel d)) h'))
 (ho:o.op=.call {callee:=.value (.func g),args:=args,argTypes:=tys}) (hf:P.funcs[g]?=some fn) (hn:(fn.name== "runtime.NumGoroutine")=false) (hb:fn.body.isSome=true) (hx:Bo e args.toList=some xs) (hxa:xs.all (AV.avoid (kf 4))=true) (h1:LowR h 0 (jB p s fuel c)) (h2:∀i,h (i+16)=some (D7 c i)) (hra:r.avoid (kf 4)=true):HT P o e h (BJ (kf 4) h (eU p s fuel d)) r:=
 QL rfl rfl Ab (NV c) (NV d) (Dk _ _) (Dk _ _) ho hf hn hb hx hxa h1 h2 hra hcall
end
theorem Df{p:PProg}{s:ByteArray}{fuel:Int}{n f:Nat}{x:PX}{h:Ag}(h1:LowR h 0 (jz p s fuel n f x))(h2:∀i,h (i+16)=some (D7 x.c i)):HSub (BJ (kf 6) hNone (ER p s fuel n f x)) h:=TX rfl Ab h1 h2
theorem jA{p:PProg}{s:ByteArray}{fuel:Int}{c:PM}{h:Ag}(h1:LowR h 0 (jB p s fuel c))(h2:∀i,h (i+16)=some (D7 c i)):HSub (BJ (kf 4) hNone (eU p s fuel c)) h:=TX rfl Ab h1 h2
theorem Lh{c:PM}{i:Int}(h0:0<=i)(h:i<c.arrs.length):D7 c i.toNat=.row true 1 (Au (c.arr i)):=by
 unfold D7 PM.arr;rw[List.getElem?_eq_getElem (show i.toNat<c.arrs.length by omega)];rfl
theorem Yu{c:PM}{i:Int}(h0:0<=i)(h:i<c.arrs.length)(l:List Int)(x:Nat):(if x=i.toNat then AObj.row true 1 (Au l)else D7 c x)=D7 {c with arrs:=c.arrs.set i.toNat l} x:=by
 unfold D7;dsimp only;rw[List.getElem?_set]
 by_cases e:x=i.toNat
 . rw[if_pos e,if_pos e.symm,if_pos Aa]
 . rw[if_neg e,if_neg (fun h=>e h.symm)]
theorem Cw(p:PProg):(C4 p).length=p.arrays.length:=by simp[C4]
theorem HS{p:PProg}{i:Int}{a:ByteArray×Int}(hx:p.arrays[i.toNat]?=some a):(C4 p)[0+i.toNat]?=some [AV.ref (i.toNat+16) a.2.toNat 0 a.2.toNat]:=by
 unfold C4;rw[Nat.zero_add,List.getElem?_map,BK hx];rfl
section
variable {p : PProg} {cl : Ct} {s : ByteArray} {fuel : Int} {f : Nat} {ws : List Int} {c : PM} {e x y : PE} {b : Bool}
theorem H8{d:PM}(h:(d.m.fin !=0)=true):(d.fin==0)=false:=by show(d.m.fin==0)=false;simpa using h
theorem BU{d:PM}(h:(d.m.fin !=0)=false):(d.fin==0)=true:=by show(d.m.fin==0)=true;simpa using h
theorem Zp(h:(c.m.fin !=0)=true):e.ev p cl s f ws c=(0,c):=MF e Ko
theorem UZ(h:e.fit p f b):∃b',PE.fitL p f e.kids b':=by cases e;rw[PE.fit]at h;exact⟨_,h.1⟩
theorem W8(h:e.fit p f b)(hx:x∈e.kids):∃b',x.fit p f b':=by
 obtain⟨b',hb⟩:=UZ h;exact⟨b',PE.fitL_mem hb x hx⟩
theorem dN(h:e.fit p f b)(hk:e.kind=2):(p.find f e.name).1=1\/(p.find f e.name).1=2:=by
 cases e;rw[PE.fit]at h;simp only[PE.kind]at hk;simp only[PE.name]
 rcases h.2 with h|h|h|h|h|h|h|h<;>first|exact h.2.2.2.1|omega
theorem dM(h:e.fit p f b)(hk:e.kind=3):(p.find f e.name).1=3/\e.kids.length=1:=by
 cases e;rw[PE.fit]at h;simp only[PE.kind]at hk;simp only[PE.name,PE.kids]
 rcases h.2 with h|h|h|h|h|h|h|h<;>first|exact h.2.2.2|omega
theorem dL(h:e.fit p f b)(hk:e.kind=4):(p.find f e.name).1=4/\(p.find f e.name).2<f/\∃G,p.funcs[(p.find f e.name).2.toNat]?=some G/\e.kids.length=G.params.length:=by
 cases e;rw[PE.fit]at h;simp only[PE.kind]at hk;simp only[PE.name,PE.kids]
 rcases h.2 with h|h|h|h|h|h|h|h
 all_goals first|(obtain⟨_,_,_,h4,h5,G,h6,h7,_⟩:=h;exact⟨h4,h5,G,h6,h7⟩)|omega
theorem dK(h:e.fit p f b)(hk:e.kind=6):e.kids.length=2/\4<=e.op/\e.op<=15:=by
 cases e;rw[PE.fit]at h;simp only[PE.kind]at hk;simp only[PE.op,PE.kids]
 rcases h.2 with h|h|h|h|h|h|h|h<;>first|exact⟨h.2.2.1,h.2.2.2.1⟩|omega
theorem dJ(h:e.fit p f b)(hk:e.kind=7):e.kids.length=1:=by
 exact bt
theorem dI(h:e.fit p f b)(hk:e.kind=8):e.kids.length=2:=by
 exact bt
theorem dH(h:e.fit p f b)(h1:e.kind≠1)(h2:e.kind≠2)(h3:e.kind≠3)(h4:e.kind≠4)(h5:e.kind≠5)(h6:e.kind≠6)(h7:e.kind≠7)(h8:e.kind≠8):e.kind=9/\e.kids.length=2:=by
 cases e;rw[PE.fit]at h;simp only[PE.kind]at h1 h2 h3 h4 h5 h6 h7 h8|-;simp only[PE.kids]
 rcases h.2 with h|h|h|h|h|h|h|h
 all_goals first|omega|(rcases h.1 with h0|h0;exact absurd h0 h8;exact⟨h0,h.2.2.2⟩)
variable (h0 : (c.m.fin != 0) = false)
include h0
theorem jG(hk:e.kind=1):e.ev p cl s f ws c=(e.num,c):=by
 cases e;simp only[PE.kind]at hk;subst hk;rw[PE.ev,BU h0];rfl
theorem dS(hk:e.kind=2)(h:((p.find f e.name).1==1)=true):e.ev p cl s f ws c=(Ak ws (p.find f e.name).2,c):=by
 cases e;simp only[PE.kind]at hk;simp only[PE.name]at h|-;subst hk;rw[PE.ev,BU h0,h];rfl
theorem dR(hk:e.kind=2)(h:((p.find f e.name).1==1)=false):e.ev p cl s f ws c=(Ak c.m.words (p.find f e.name).2,c):=by
 cases e;simp only[PE.kind]at hk;simp only[PE.name]at h|-;subst hk;rw[PE.ev,BU h0,h];rfl
theorem Xa(hk:e.kind=3)(hx:e.kids[0]?=some x):e.ev p cl s f ws c=bif (x.ev p cl s f ws c).2.fin==0 then(bif decide ((x.ev p cl s f ws c).1>=((x.ev p cl s f ws c).2.arr (p.find f e.name).2).length)then(0,(x.ev p cl s f ws c).2.put {(x.ev p cl s f ws c).2.m with fin:=3})else(Ak ((x.ev p cl s f ws c).2.arr (p.find f e.name).2) (x.ev p cl s f ws c).1,(x.ev p cl s f ws c).2))else(0,(x.ev p cl s f ws c).2):=by
 cases e with
 |mk k o n nm kids=>
 simp only[PE.kind]at hk;subst hk;simp only[PE.kids]at hx
 cases kids with
 |nil=>simp at hx
 |cons a l=>
  simp at hx;subst hx;rw[PE.ev,BU h0];show PE.evI p cl s f ws _ (a::l) c=_;rw[PE.evI];rfl
theorem jF(hk:e.kind=4):e.ev p cl s f ws c=PE.evC p cl s f ws (p.find f e.name).2.toNat e.kids [] c:=by
 cases e;simp only[PE.kind]at hk;subst hk;rw[PE.ev,BU h0];rfl
theorem dP(hk:e.kind=5)(h:c.m.read<s.size):e.ev p cl s f ws c=(((FE s c.m.read).toNat:Int),c.put {c.m with read:=c.m.read+1}):=by
 cases e;simp only[PE.kind]at hk;subst hk;rw[PE.ev,BU h0,decide_eq_true h];rfl
theorem dO(hk:e.kind=5)(h:¬c.m.read<s.size):e.ev p cl s f ws c=(256,c):=by
 cases e;simp only[PE.kind]at hk;subst hk;rw[PE.ev,BU h0,decide_eq_false h];rfl
theorem W9(hk:e.kind=6)(hx:e.kids[0]?=some x)(hy:e.kids[1]?=some y):e.ev p cl s f ws c=bif (y.ev p cl s f ws (x.ev p cl s f ws c).2).2.fin==0 then(bif (BG e.op (x.ev p cl s f ws c).1 (y.ev p cl s f ws (x.ev p cl s f ws c).2).1).2==0 then((BG e.op (x.ev p cl s f ws c).1 (y.ev p cl s f ws (x.ev p cl s f ws c).2).1).1,(y.ev p cl s f ws (x.ev p cl s f ws c).2).2)else((BG e.op (x.ev p cl s f ws c).1 (y.ev p cl s f ws (x.ev p cl s f ws c).2).1).1,(y.ev p cl s f ws (x.ev p cl s f ws c).2).2.put {(y.ev p cl s f ws (x.ev p cl s f ws c).2).2.m with fin:=2}))else(0,(y.ev p cl s f ws (x.ev p cl s f ws c).2).2):=by
 cases e with
 |mk k o n nm kids=>
 simp only[PE.kind]at hk;subst hk;simp only[PE.kids]at hx hy
 match kids,hx,hy with
 |a::d::l,hx,hy=>
  simp at hx hy;subst hx;subst hy;rw[PE.ev,BU h0];show I6 p cl s f ws _ (a::d::l) c=_;rw[I6];show PE.evR p cl s f ws o (d::l) (a.ev p cl s f ws c).1 (a.ev p cl s f ws c).2=_;rw[PE.evR];rfl
theorem jE(hk:e.kind=7)(hx:e.kids[0]?=some x):e.ev p cl s f ws c=(zf ((x.ev p cl s f ws c).1==0),(x.ev p cl s f ws c).2):=by
 cases e with
 |mk k o n nm kids=>
 simp only[PE.kind]at hk;subst hk;simp only[PE.kids]at hx
 cases kids with
 |nil=>simp at hx
 |cons a l=>
  simp at hx;subst hx;rw[PE.ev,BU h0];show I7 p cl s f ws (a::l) c=_;rw[I7]
theorem O6(hk:e.kind=8\/e.kind=9)(hx:e.kids[0]?=some x)(hy:e.kids[1]?=some y):e.ev p cl s f ws c=bif e.kind==8 then(bif (x.ev p cl s f ws c).1==0 then(0,(x.ev p cl s f ws c).2)else y.ev p cl s f ws (x.ev p cl s f ws c).2)else(bif (x.ev p cl s f ws c).1==0 then y.ev p cl s f ws (x.ev p cl s f ws c).2 else((x.ev p cl s f ws c).1,(x.ev p cl s f ws c).2)):=by
 cases e with
 |mk k o n nm kids=>
 simp only[PE.kind]at hk|-;simp only[PE.kids]at hx hy
 match kids,hx,hy with
 |a::d::l,hx,hy=>
  simp at hx hy;subst hx;subst hy;rcases hk with rfl|rfl
  . rw[PE.ev,BU h0];show PE.evL p cl s f ws (8==8) (a::d::l) c=_;rw[PE.evL];show(bif (8:Int)==8 then(bif (a.ev p cl s f ws c).1==0 then(0,(a.ev p cl s f ws c).2)else CU p cl s f ws (d::l) (a.ev p cl s f ws c).2)else(bif (a.ev p cl s f ws c).1==0 then CU p cl s f ws (d::l) (a.ev p cl s f ws c).2 else((a.ev p cl s f ws c).1,(a.ev p cl s f ws c).2)))=_;rw[CU]
  . rw[PE.ev,BU h0];show PE.evL p cl s f ws (9==8) (a::d::l) c=_;rw[PE.evL];show(bif (9:Int)==8 then(bif (a.ev p cl s f ws c).1==0 then(0,(a.ev p cl s f ws c).2)else CU p cl s f ws (d::l) (a.ev p cl s f ws c).2)else(bif (a.ev p cl s f ws c).1==0 then CU p cl s f ws (d::l) (a.ev p cl s f ws c).2 else((a.ev p cl s f ws c).1,(a.ev p cl s f ws c).2)))=_;rw[CU]
end
theorem gn{a:Int}(h:(a !=0)=true):(a==0)=false:=by simpa using h
theorem gp{a:Int}(h:(a !=0)=false):(a==0)=true:=by simpa using h
section
variable {p : PProg} {cl : Ct} {s : ByteArray} {fuel : Int} {f : Nat} {ws : List Int} {c : PM} {x : PE}
structure PCallI(p:PProg)(fuel:Int)(cl:Ct)(s:ByteArray)(f:Nat)(ws:List Int)(g:Nat)(l:List PE)(t:Int×PM)(q:Nat×List Int×PM):Prop where
  len:q.2.1.length=q.1
  args:Dc q.2.1
  good:q.2.2.good p fuel
  eq:PE.evC p cl s f ws g (l.drop q.1) q.2.1 q.2.2=t
  le:q.1<=l.length
theorem PCallI.next{g:Nat}{l:List PE}{t:Int×PM}{q:Nat×List Int×PM}(h:PCallI p fuel cl s f ws g l t q)(hx:l[q.1]?=some x)(hg:PM.to p fuel q.2.2 (x.ev p cl s f ws q.2.2).2/\CW (x.ev p cl s f ws q.2.2).1):PCallI p fuel cl s f ws g l t (q.1+1,q.2.1++[(x.ev p cl s f ws q.2.2).1],(x.ev p cl s f ws q.2.2).2):=by
 refine⟨by rw[List.length_append,h.len];rfl,fun v hv=>?_,hg.1.1,?_,(List.getElem?_eq_some_iff.1 hx).1⟩
 . rcases List.mem_append.1 hv with hv|hv
   . exact h.args v hv
   . rw[List.mem_singleton.1 hv];exact hg.2
 . have:=h.eq;rw[F4 hx,PE.evC]at this;exact this
theorem PCallI.done{g:Nat}{l:List PE}{t:Int×PM}{q:Nat×List Int×PM}(h:PCallI p fuel cl s f ws g l t q)(hk:l.length<=q.1):cl g q.2.1 q.2.2=t:=by
 have:=h.eq;rwa[List.drop_eq_nil_of_le hk,PE.evC]at this
theorem W7{n:Nat}{g:Nat}{args:List Int}(h:(c.m.fin==0)=false):CQ p s fuel (n+1) g args c=(0,c):=by rw[CQ,show(c.fin==0)=false from h];rfl
theorem Zn{n:Nat}{g:Nat}{args:List Int}(h:(c.m.fin==0)=true)(ht:((c.tick fuel).m.fin !=0)=true):CQ p s fuel (n+1) g args c=(0,c.tick fuel):=by rw[CQ,show(c.fin==0)=true from h,H8 ht];rfl
abbrev Dy(p:PProg)(cl:Ct)(s:ByteArray)(fuel:Int)(g:Nat)(G:PFn)(ws:List Int)(c:PM):PX:=PSt.runL p cl s fuel g G.body ⟨ws++List.replicate G.locals.length 0,false,0,c⟩
theorem Zo{n:Nat}{g:Nat}{G:PFn}{args:List Int}(h:(c.m.fin==0)=true)(ht:((c.tick fuel).m.fin !=0)=false)(hG:p.funcs[g]?=some G):CQ p s fuel (n+1) g args c=((Dy p (CQ p s fuel n) s fuel g G args (c.tick fuel)).val,(Dy p (CQ p s fuel n) s fuel g G args (c.tick fuel)).c):=by
 rw[CQ,show(c.fin==0)=true from h,BU ht,hG];rfl
end
section
variable {p : PProg} {cl : Ct} {s : ByteArray} {fuel : Int} {f n : Nat} {x : PX} {e : PSt} {y z : PE} {w : Bool}
theorem ET{l:List PE}(hy:l[0]?=some y):PX.ev p cl s f l x=y.ev p cl s f x.ws x.c:=by
 cases l with
 |nil=>simp at hy
 |cons a l=>simp at hy;subst hy;unfold PX.ev;rw[CU]
theorem dD{l:List PE}(hz:l[1]?=some z):PX.ev p cl s f (l.drop 1) x=z.ev p cl s f x.ws x.c:=by
 obtain⟨r,hr⟩:∃r,l.drop 1=z::r:=⟨l.drop 2,F4 hz⟩
 rw[hr];exact ET rfl
theorem W4(h:e.fit p f w)(hy:y∈e.es):∃b,y.fit p f b:=by
 cases e;rw[PSt.fit]at h;exact⟨_,PE.fitL_mem h.1 y hy⟩
theorem UW(h:e.fit p f w):∀st∈e.thn,st.fit p f w:=by cases e;rw[PSt.fit]at h;exact PSt.fitL_mem h.2.1
theorem UX(h:e.fit p f w):∀st∈e.els,st.fit p f w:=by cases e;rw[PSt.fit]at h;exact PSt.fitL_mem h.2.2.1
theorem TP(h:e.fit p f w)(hk:e.kind=1):((p.find f e.name).1=1\/(p.find f e.name).1=2)/\e.es.length=1:=by
 exact bz
theorem Zl(h:e.fit p f w)(hk:e.kind=2):(p.find f e.name).1=3/\e.es.length=2:=by
 exact bz
theorem J1(h:e.fit p f w)(hk:e.kind=3\/e.kind=4\/e.kind=5):e.es.length=1:=by
 cases e;rw[PSt.fit]at h;simp only[PSt.kind]at hk;simp only[PSt.es]
 rcases h.2.2.2 with h|h|h|h|h|h|h<;>first|exact h.2.2|omega
theorem Zk(h:e.fit p f w)(hk:e.kind=6):(p.find f e.name).1=4/\(p.find f e.name).2<f/\∃G,p.funcs[(p.find f e.name).2.toNat]?=some G/\e.es.length=G.params.length:=by
 cases e;rw[PSt.fit]at h;simp only[PSt.kind]at hk;simp only[PSt.name,PSt.es]
 rcases h.2.2.2 with h|h|h|h|h|h|h
 all_goals first|(obtain⟨_,_,h4,h5,G,h6,h7,_⟩:=h;exact⟨h4,h5,G,h6,h7⟩)|omega
theorem Zj(h:e.fit p f w)(h1:e.kind≠1)(h2:e.kind≠2)(h3:e.kind≠3)(h4:e.kind≠4)(h5:e.kind≠5)(h6:e.kind≠6):e.kind=7:=by
 cases e;rw[PSt.fit]at h;simp only[PSt.kind]at h1 h2 h3 h4 h5 h6|-
 rcases h.2.2.2 with h|h|h|h|h|h|h<;>omega
abbrev EX(p:PProg)(cl:Ct)(s:ByteArray)(f:Nat)(y:PE)(x:PX):Int×PM:=y.ev p cl s f x.ws x.c
theorem dG(hk:e.kind=1)(hy:e.es[0]?=some y):e.run p cl s fuel f x=bif (EX p cl s f y x).2.fin==0 then(bif (p.find f e.name).1==1 then {x with c:=(EX p cl s f y x).2,ws:=rset x.ws (p.find f e.name).2 (EX p cl s f y x).1}else {x with c:=(EX p cl s f y x).2.put {(EX p cl s f y x).2.m with words:=rset (EX p cl s f y x).2.m.words (p.find f e.name).2 (EX p cl s f y x).1}})else {x with c:=(EX p cl s f y x).2}:=by
 cases e;simp only[PSt.kind]at hk;simp only[PSt.es]at hy;subst hk
 rw[PSt.run,if_pos rfl,ET hy];rfl
theorem dF(hk:e.kind=2)(hy:e.es[0]?=some y)(hz:e.es[1]?=some z):e.run p cl s fuel f x=bif (EX p cl s f z {x with c:=(EX p cl s f y x).2}).2.fin==0 then(bif decide ((EX p cl s f y x).1>=((EX p cl s f z {x with c:=(EX p cl s f y x).2}).2.arr (p.find f e.name).2).length)then {x with c:=(EX p cl s f z {x with c:=(EX p cl s f y x).2}).2.put {(EX p cl s f z {x with c:=(EX p cl s f y x).2}).2.m with fin:=3}}else {x with c:={(EX p cl s f z {x with c:=(EX p cl s f y x).2}).2 with arrs:=(EX p cl s f z {x with c:=(EX p cl s f y x).2}).2.arrs.set (p.find f e.name).2.toNat (rset ((EX p cl s f z {x with c:=(EX p cl s f y x).2}).2.arr (p.find f e.name).2) (EX p cl s f y x).1 (EX p cl s f z {x with c:=(EX p cl s f y x).2}).1)}})else {x with c:=(EX p cl s f z {x with c:=(EX p cl s f y x).2}).2}:=by
 cases e;simp only[PSt.kind]at hk;simp only[PSt.es]at hy hz;subst hk
 rw[PSt.run,if_neg Ab,if_pos rfl,ET hy];dsimp only;rw[dD hz];rfl
theorem dE(hk:e.kind=3)(hy:e.es[0]?=some y):e.run p cl s fuel f x=bif (EX p cl s f y x).2.fin==0 then(bif decide ((EX p cl s f y x).2.m.out.length>=65536)then {x with c:=(EX p cl s f y x).2.put {(EX p cl s f y x).2.m with fin:=4}}else {x with c:=(EX p cl s f y x).2.put {(EX p cl s f y x).2.m with out:=(EX p cl s f y x).2.m.out++[Ef (EX p cl s f y x).1]}})else {x with c:=(EX p cl s f y x).2}:=by
 cases e;simp only[PSt.kind]at hk;simp only[PSt.es]at hy;subst hk
 rw[PSt.run,if_neg Ab,if_neg Ab,if_pos rfl,ET hy]
theorem jD(hk:e.kind=4)(hy:e.es[0]?=some y):e.run p cl s fuel f x=bif (EX p cl s f y x).1==0 then PSt.runL p cl s fuel f e.els {x with c:=(EX p cl s f y x).2}else PSt.runL p cl s fuel f e.thn {x with c:=(EX p cl s f y x).2}:=by
 cases e;simp only[PSt.kind]at hk;simp only[PSt.es]at hy;subst hk
 rw[PSt.run,if_neg Ab,if_neg Ab,if_neg Ab,if_pos rfl,ET hy];rfl
theorem mC(hk:e.kind=5):e.run p cl s fuel f x=DA fuel (fun x=>PX.ev p cl s f e.es x) (fun x=>PSt.runL p cl s fuel f e.thn x) (fuel.toNat+1) (x.tick fuel):=by
 cases e;simp only[PSt.kind]at hk;subst hk
 rw[PSt.run,if_neg Ab,if_neg Ab,if_neg Ab,if_neg Ab,if_pos rfl];rfl
theorem mB(hk:e.kind=6):e.run p cl s fuel f x={x with c:=(PE.evC p cl s f x.ws (p.find f e.name).2.toNat e.es [] x.c).2}:=by
 cases e;simp only[PSt.kind]at hk;subst hk
 rw[PSt.run,if_neg Ab,if_neg Ab,if_neg Ab,if_neg Ab,if_neg Ab,if_pos rfl];rfl
theorem mA(hk:e.kind=7)(hy:e.es[0]?=some y):e.run p cl s fuel f x={x with c:=(EX p cl s f y x).2,back:=true,val:=(EX p cl s f y x).1}:=by
 cases e;simp only[PSt.kind]at hk;simp only[PSt.es]at hy;subst hk
 rw[PSt.run,if_neg Ab,if_neg Ab,if_neg Ab,if_neg Ab,if_neg Ab,if_neg Ab,if_pos rfl,ET hy]
theorem jC(hk:e.kind=7)(hn:e.es.length=0):e.run p cl s fuel f x={x with back:=true,val:=0}:=by
 cases e;simp only[PSt.kind]at hk;simp only[PSt.es]at hn;subst hk
 rw[PSt.run,if_neg Ab,if_neg Ab,if_neg Ab,if_neg Ab,if_neg Ab,if_neg Ab,if_pos rfl,List.length_eq_zero_iff.1 hn];unfold PX.ev;rw[CU]
structure StI(p:PProg)(fuel:Int)(n:Nat)(cl:Ct)(s:ByteArray)(f:Nat)(l:List PSt)(t:PX)(q:Nat×PX):Prop where
  good:q.2.good p fuel n
  eq:PSt.runL p cl s fuel f (l.drop q.1) q.2=t
  le:q.1<=l.length
theorem Hg(x:PX):x.on=(x.c.m.fin==0&& !x.back):=rfl
theorem StI.next{l:List PSt}{t:PX}{q:Nat×PX}{st:PSt}(h:StI p fuel n cl s f l t q)(hx:l[q.1]?=some st)(h1:(q.2.c.m.fin==0)=true)(h2:(!q.2.back)=true)(hg:VW p fuel n cl s f st):StI p fuel n cl s f l t (q.1+1,st.run p cl s fuel f q.2):=by
 refine⟨(hg _ h.good).1,?_,(List.getElem?_eq_some_iff.1 hx).1⟩;have:=h.eq;rw[F4 hx,PSt.runL,Hg,h1,h2]at this;exact this
theorem J2(l:List PSt)(h:x.on=false):PSt.runL p cl s fuel f l x=x:=by
 cases l with
 |nil=>rw[PSt.runL]
 |cons a l=>rw[PSt.runL,h];rfl
theorem StI.off{l:List PSt}{t:PX}{q:Nat×PX}(h:StI p fuel n cl s f l t q)(h1:l.length<=q.1\/(q.2.c.m.fin==0)=false\/(!q.2.back)=false):q.2=t:=by
 have:=h.eq;rcases h1 with h1|h1|h1
 . rwa[List.drop_eq_nil_of_le h1,PSt.runL]at this
 . rwa[J2 _ (by rw[Hg,h1];rfl)]at this
 . rwa[J2 _ (by rw[Hg,h1,Bool.and_false])]at this
structure PWhI(p:PProg)(fuel:Int)(n:Nat)(cond:PX->Int×PM)(body:PX->PX)(t:PX)(q:Nat×PX):Prop where
  good:q.2.good p fuel n
  eq:DA fuel cond body q.1 q.2=t
  gas:1<=q.1
  on:q.2.on=true->fuel.toNat+2<=q.2.c.m.steps+q.1/\q.2.c.m.steps<=fuel.toNat
variable {cond : PX -> Int × PM} {body : PX -> PX} {t : PX} {q : Nat × PX}
theorem PWhI.stop(h:PWhI p fuel n cond body t q)(h1:(q.2.c.m.fin==0)=false\/(!q.2.back)=false):q.2=t:=by
 have e:=h.eq;obtain⟨g,hg⟩:∃g,q.1=g+1:=⟨q.1-1,by have:=h.gas;omega⟩
 have ho:q.2.on=false:=by
  rw[Hg];rcases h1 with h1|h1
  . rw[h1];rfl
  . rw[h1,Bool.and_false]
 rwa[hg,DA,ho]at e
theorem PWhI.lastE(h:PWhI p fuel n cond body t q)(h1:(q.2.c.m.fin==0)=true)(h2:(!q.2.back)=true)(hz:((cond q.2).1 !=0)=false):{q.2 with c:=(cond q.2).2}=t:=by
 have e:=h.eq;obtain⟨g,hg⟩:∃g,q.1=g+1:=⟨q.1-1,by have:=h.gas;omega⟩
 rw[hg,DA,Hg,h1,h2]at e;simp only[Bool.and_true,cond_true]at e;rw[show((cond q.2).1==0)=true by simpa using hz]at e;exact e
end
section
variable {p : PProg} {fuel : Int} {n : Nat} {cond : PX -> Int × PM} {body : PX -> PX} {t x : PX} {q : Nat × PX}
theorem W3(x:PX):(x.tick fuel).on=true->(x.tick fuel).c.m.steps=x.c.m.steps+1:=fun h=>by
 unfold PX.tick PM.tick AI at h|-
 by_cases hs:(x.c.m.steps:Int)>=fuel
 . rw[decide_eq_true hs]at h;cases h
 . rw[decide_eq_false hs];rfl
theorem PWhI.first(h:x.good p fuel n):PWhI p fuel n cond body (DA fuel cond body (fuel.toNat+1) (x.tick fuel)) (fuel.toNat+1,x.tick fuel):=
 ⟨h.tick.1,rfl,Nat.le_add_left _ _,fun ho=>by
  have h1:=W3 x ho;have h2:(x.tick fuel).c.m.steps<=fuel.toNat:=h.tick.1.c.st;dsimp only;omega⟩
theorem PWhI.next(h:PWhI p fuel n cond body t q)(h1:(q.2.c.m.fin==0)=true)(h2:(!q.2.back)=true)(hz:((cond q.2).1 !=0)=true)(hc:PM.to p fuel q.2.c (cond q.2).2)(hb:PX.to p fuel n {q.2 with c:=(cond q.2).2} (body {q.2 with c:=(cond q.2).2}))(hoff:∀y,y.on=false->body y=y):
 PWhI p fuel n cond body t (q.1-1,bif (body {q.2 with c:=(cond q.2).2}).on then(body {q.2 with c:=(cond q.2).2}).tick fuel else body {q.2 with c:=(cond q.2).2})/\q.1-1<q.1:=by
 have hon:q.2.on=true:=by rw[Hg,h1,h2];rfl
 obtain⟨g1,g2⟩:=h.on hon;have e:=h.eq;obtain⟨g,hg⟩:∃g,q.1=g+1:=⟨q.1-1,by have:=h.gas;omega⟩
 rw[hg,DA,hon]at e;simp only[cond_true]at e;have hst:=Nat.le_trans hc.2 hb.2;generalize hY:body {q.2 with c:=(cond q.2).2}=y at hb hst e|-;have hv:((cond q.2).1==0)=false:=by simpa using hz
 rw[hv,Bool.false_or]at e;refine⟨⟨?_,?_,by dsimp only;omega,fun ho=>?_⟩,by omega⟩
 . cases y.on with
   |true=>exact hb.1.tick.1
   |false=>exact hb.1
 . dsimp only;rw[show q.1-1=g by omega]
   cases hf:(cond q.2).2.fin==0 with
   |true=>rw[hf]at e;exact e
   |false=>
    rw[hf]at e;have hyo:({q.2 with c:=(cond q.2).2}:PX).on=false:=by rw[Hg,show(({q.2 with c:=(cond q.2).2}:PX).c.m.fin==0)=false from hf];rfl
    have hyy:y={q.2 with c:=(cond q.2).2}:=hY.symm.trans (hoff _ hyo);rw[hyy,hyo];obtain⟨g',hg'⟩:∃g',g=g'+1:=⟨g-1,by omega⟩
    rw[hg',DA,cond_false,hyo];exact e
 . dsimp only at ho|-
   cases hy:y.on with
   |true=>
    rw[hy]at ho;have:=W3 y ho;have h9:(y.tick fuel).c.m.steps<=fuel.toNat:=hb.1.tick.1.c.st;simp only[cond_true];omega
   |false=>rw[hy]at ho;simp only[cond_false]at ho;rw[hy]at ho;cases ho
end
theorem Yv{c:PM}{i:Int}(h0:0<=i)(h:i<c.arrs.length)(a v:Int)(x:Nat):(if x=i.toNat then AObj.row true 1 ((Au (c.arr i)).set (0+a.toNat) [.int .u32 v])else D7 c x)=D7 {c with arrs:=c.arrs.set i.toNat (rset (c.arr i) a v)} x:=by
 rw[Gu];exact Yu h0 h _ x
def Pd(c:Nat):Bool:=Nat.blt c 4||(Nat.beq c 5||Nat.ble 16 c)
def SO(c:Nat):Bool:=Nat.blt c 4||(Nat.beq c 6||Nat.ble 16 c)
abbrev ai(p:PProg)(s:ByteArray)(fuel:Int)(c:PM)(ws:List Int):List AObj:=[.row false 11 [V0 p s fuel c],.row true 1 (Au c.m.words),.row false 1 (C4 p),.row true 1 (AC c.m.out),.free,.row true 1 (Au ws)]
abbrev ah(p:PProg)(s:ByteArray)(fuel:Int)(c:PM)(ws:List Int):List AObj:=[.row false 11 [V0 p s fuel c],.row true 1 (Au c.m.words),.row false 1 (C4 p),.row true 1 (AC c.m.out),.free,.free,.row true 1 (Au ws)]
abbrev I4(p:PProg)(s:ByteArray)(fuel:Int)(c:PM)(ws:List Int):Ag:=Gj (nb (ai p s fuel c ws)) (D7 c)
abbrev Kk(p:PProg)(s:ByteArray)(fuel:Int)(c:PM)(ws:List Int):Ag:=Gj (nb (ah p s fuel c ws)) (D7 c)
def Lx(b:Nat):Nat:=bif Nat.beq b 5 then 6 else bif Nat.beq b 6 then 5 else b
theorem Jh(x:Nat):Lx (x+16)=x+16:=rfl
theorem QT{b:Nat}(h:b<16):b=0\/b=1\/b=2\/b=3\/b=4\/b=5\/b=6\/b=7\/b=8\/b=9\/b=10\/b=11\/b=12\/b=13\/b=14\/b=15:=by omega
theorem WB(b:Nat):Lx (Lx b)=b:=by
 by_cases h:16<=b
 . obtain⟨x,rfl⟩:∃x,b=x+16:=⟨b-16,by omega⟩
   rw[Jh,Jh]
 . rcases QT (by omega:b<16)with rfl|rfl|rfl|rfl|rfl|rfl|rfl|rfl|rfl|rfl|rfl|rfl|rfl|rfl|rfl|rfl<;>rfl
section
variable {p : PProg} {s : ByteArray} {fuel : Int} {c d : PM} {ws us : List Int} {h : Ag}
theorem WR:AObj.ren Lx (.row false 11 [V0 p s fuel c])=.row false 11 [V0 p s fuel c]:=by
 simp only[AObj.ren,List.map_cons,List.map_nil,AV.ren];rfl
theorem NS:AObj.ren Lx (.row false 1 (C4 p))=.row false 1 (C4 p):=by
 show AObj.row false 1 _=AObj.row false 1 _;congr 1;unfold C4;rw[List.map_map];refine List.map_congr_left fun x _=>?_
 simp only[Function.comp,List.map_cons,List.map_nil,AV.ren,Jh]
theorem WT(x:Nat):(D7 c x).ren Lx=D7 c x:=by unfold D7;cases c.arrs[x]?<;>rfl
theorem dC:Gt Lx (I4 p s fuel c ws)=Kk p s fuel c ws:=funext fun b=>by
 unfold Gt
 by_cases h:16<=b
 . obtain⟨x,rfl⟩:∃x,b=x+16:=⟨b-16,by omega⟩
   rw[Jh];exact bH
 . rcases QT (by omega:b<16)with rfl|rfl|rfl|rfl|rfl|rfl|rfl|rfl|rfl|rfl|rfl|rfl|rfl|rfl|rfl|rfl
   . exact congrArg some WR
   . rfl
   . exact congrArg some NS
   all_goals rfl
theorem dB:Gt Lx (BJ Pd hNone (I4 p s fuel c ws))=BJ SO hNone (Kk p s fuel c ws):=funext fun b=>by
 unfold Gt
 by_cases h:16<=b
 . obtain⟨x,rfl⟩:∃x,b=x+16:=⟨b-16,by omega⟩
   rw[Jh,EJ (by unfold Pd;rw[show Nat.ble 16 (x+16)=true by rw[Nat.ble_eq];omega];simp),EJ (by unfold SO;rw[show Nat.ble 16 (x+16)=true by rw[Nat.ble_eq];omega];simp)];exact bH
 . rcases QT (by omega:b<16)with rfl|rfl|rfl|rfl|rfl|rfl|rfl|rfl|rfl|rfl|rfl|rfl|rfl|rfl|rfl|rfl
   . exact congrArg some WR
   . rfl
   . exact congrArg some NS
   all_goals rfl
theorem Yj{P:Program}{g:FuncId}{k:Nat}{z v:Int}(hc:ACall P g [.ptr 0 1 0 0,.int .i64 z,Fw 5 k] (I4 p s fuel c ws) (fun r h'=>r=.int .u32 v/\HSub (BJ Pd hNone (I4 p s fuel d us)) h')):
 ACall P g [.ptr 0 1 0 0,.int .i64 z,Fw 6 k] (Kk p s fuel c ws) (fun r h'=>r=.int .u32 v/\HSub (BJ SO hNone (Kk p s fuel d us)) h'):=by
 have h:=ACall.ren WB hc;rw[dC,dB]at h;have e:[AV.ptr 0 1 0 0,.int .i64 z,Fw 5 k].map (AV.ren Lx)=[.ptr 0 1 0 0,.int .i64 z,Fw 6 k]:=by simp only[List.map_cons,List.map_nil,AV.ren];rfl
 have e2:(AV.int .u32 v).ren Lx=.int .u32 v:=by simp only[AV.ren]
 rw[e,e2]at h;exact h
theorem SN(x:Nat):SO (x+16)=true:=by unfold SO;rw[show Nat.ble 16 (x+16)=true by rw[Nat.ble_eq];omega];simp
theorem WY(h:Ag)(L:List AObj)(F:Nat->AObj)(x:Nat):BJ SO h (Gj (nb L) F) (x+16)=some (F x):=by rw[EJ (SN _),Ax]
theorem M0:∀o∈ah p s fuel c ws,o.avoid SO=true:=fun o ho=>by
 simp only[ah,List.mem_cons,List.not_mem_nil,or_false]at ho;rcases ho with rfl|rfl|rfl|rfl|rfl|rfl|rfl<;>first|rfl|exact D0 p SN
theorem ki(r0:h 0=some (.row false 11 [V0 p s fuel c]))(r1:h 1=some (.row true 1 (Au c.m.words)))(r2:h 2=some (.row false 1 (C4 p)))(r3:h 3=some (.row true 1 (AC c.m.out)))(r6:h 6=some (.row true 1 (Au ws)))(hF:∀x,h (x+16)=some (D7 c x))(b:Nat)(hb:SO b=true):h b=Kk p s fuel c ws b:=by
 by_cases h16:16<=b
 . obtain⟨x,rfl⟩:∃x,b=x+16:=⟨b-16,by omega⟩
   rw[hF];exact(Ax _ _ _).symm
 . rcases QT (by omega:b<16)with rfl|rfl|rfl|rfl|rfl|rfl|rfl|rfl|rfl|rfl|rfl|rfl|rfl|rfl|rfl|rfl<;>first|exact r0|exact r1|exact r2|exact r3|exact r6|cases hb
theorem aA(b:Nat)(hb:SO b=false):Kk p s fuel c ws b=some .free:=by
 by_cases h16:16<=b
 . obtain⟨x,rfl⟩:∃x,b=x+16:=⟨b-16,by omega⟩
   rw[SN]at hb;cases hb
 . rcases QT (by omega:b<16)with rfl|rfl|rfl|rfl|rfl|rfl|rfl|rfl|rfl|rfl|rfl|rfl|rfl|rfl|rfl|rfl<;>first|rfl|cases hb
theorem Xh{P:Program}{o:Oper}{e:AN}{g:FuncId}{fn:Func}{args:Array Operand}{tys:Array TypeId}{xs:List AV}{r:AV}(hcall:ACall P g xs (Kk p s fuel c ws) (fun r' h'=>r'=r/\HSub (BJ SO hNone (Kk p s fuel d us)) h'))
 (ho:o.op=.call {callee:=.value (.func g),args:=args,argTypes:=tys}) (hf:P.funcs[g]?=some fn) (hn:(fn.name== "runtime.NumGoroutine")=false) (hb:fn.body.isSome=true) (hx:Bo e args.toList=some xs) (hxa:xs.all (AV.avoid SO)=true)
 (r0:h 0=some (.row false 11 [V0 p s fuel c])) (r1:h 1=some (.row true 1 (Au c.m.words))) (r2:h 2=some (.row false 1 (C4 p))) (r3:h 3=some (.row true 1 (AC c.m.out))) (r6:h 6=some (.row true 1 (Au ws))) (hF:∀x,h (x+16)=some (D7 c x)) (hra:r.avoid SO=true):HT P o e h (BJ SO h (Kk p s fuel d us)) r:=
 Mb (W:=Kk p s fuel c ws) (W':=Kk p s fuel d us) SO ho hf hn hb hx hxa (ki r0 r1 r2 r3 r6 hF) (fun b _=>Fi M0 (Dk _ _) b) aA (fun b _=>Fi M0 (Dk _ _) b) hra hcall
theorem Yt(r0:h 0=some (.row false 11 [V0 p s fuel c]))(r1:h 1=some (.row true 1 (Au c.m.words)))(r2:h 2=some (.row false 1 (C4 p)))(r3:h 3=some (.row true 1 (AC c.m.out)))(r5:h 5=some (.row true 1 (Au ws)))(hF:∀x,h (x+16)=some (D7 c x)):HSub (BJ Pd hNone (I4 p s fuel c ws)) h:=Qv fun b hb=>by
 exact fe
end
def PCEnd(fuel:Int)(c:PM)(t:Int×PM)(d:PM):Prop:=((d.m.fin !=0)=true/\t=(0,d))\/((d.m.fin !=0)=false/\(c.m.fin==0)=true/\d=c.tick fuel)
theorem RX(b:Bool):Pu Tryz.prog 98 [.bool b] (.int .u32 (zf b)):=by
 refine APure.of_body (n:=4) Aj Tryz.func98 rfl rfl ?_;refine wk 9 ?_;refine asp 3 (fun hb1=>?_) fun hb1=>?_
 .
  refine wk 6 ?_;refine⟨[_],⟨rfl,trivial⟩,?_,rfl⟩;rw[hb1];rfl
 refine wk 7 ?_;refine⟨[_],⟨rfl,trivial⟩,?_,rfl⟩;rw[hb1];rfl
theorem L1(p:PProg)(s:ByteArray)(fuel:Int)(c:PM)(hfu:fuel<=9223372036854775807):Ca Tryz.prog 84 [.ptr 0 1 0 0] (eU p s fuel c) (.tup []) (BJ (kf 4) hNone (eU p s fuel (c.tick fuel))):=by
 refine ACall.of_body (n:=21) Aj Tryz.func84 rfl rfl ?_;refine wk 13 ?_;refine asp 10 (fun hb1=>?_) fun hb1=>?_
 .
  refine wk 6 ?_;refine wk 1 ?_;refine wk 2 ?_;have e1:c.tick fuel=c.put {c.m with fin:=5}:=by unfold PM.tick;rw[QP hb1]
  exact e9
 refine wk 7 ?_;refine aq 18 (A8 rfl rfl (show c.m.steps<fuel.toNat by have h:=hb1;simp at h;omega) DD) ?_;refine wk 2 ?_;refine wk 1 ?_;refine wk 1 ?_;have e1:c.tick fuel=c.put {c.m with steps:=c.m.steps+1}:=by unfold PM.tick;rw[N2 hb1]
 exact e9
theorem IS(l:List ByteArray)(s:ByteArray):Pu Tryz.prog 82 [(.lst false (l.map D6)),.str s] (.int .i64 (placeOf s l 0)):=by
 refine APure.of_body (n:=19) Aj Tryz.func82 rfl rfl ?_;refine wk 1 ?_;refine AGo.slot 0 (φ:=l.length<=maxLen) rfl (fun H ι v h=>by have:=B5 h;simpa using this) fun hlen=>?_
 refine wk 9 ?_;refine Aw (γ:=Nat) 0 (fun k=>⟨19,(Ad (Ad (Ad AM 0 (.lst false (l.map D6))) 1 (.str s)) 5 (iN k)),(AE 0)⟩) (fun k=>placeOf s (l.drop k) k=placeOf s l 0) (fun k=>l.length-k) 0 (Sub.mk' AT Bn) rfl (fun _=>fun b hb=>BO hb) ?_;intro k hk;refine wk 8 ?_;refine asp 9 (fun hb1=>?_) fun hb1=>?_
 .
  refine wk 1 ?_;have hkl:k<l.length:=Ao hb1;obtain⟨x,hx⟩:=Ah hkl;refine wk 7 ?_;refine aq 14 Ip ?_;refine wk 4 ?_;refine asp 17 (fun hb2=>?_) fun hb2=>?_
  .
   refine wk 1 ?_;have heq:=hb2;refine wk 6 ?_;refine⟨[_],⟨rfl,trivial⟩,?_,rfl⟩;rw[<-hk,QD hx heq];rfl
  refine wk 1 ?_;have hne:=hb2;refine wk 3 ?_;refine aq 11 (A8 rfl rfl hkl hlen) ?_;refine wk 2 ?_;exact⟨k+1,Drop.mk' FSq FT,((QC hx hne).symm.trans hk),by omega⟩
 refine wk 1 ?_;have hge:=As hb1;refine wk 6 ?_;refine⟨[_],⟨rfl,trivial⟩,?_,rfl⟩;rw[<-hk,NY hge];rfl
theorem Me(f:PFn)(h1:f.params.length<=200)(h2:f.locals.length<=200):Pu Tryz.prog 76 [.agg f.cells] (.lst false (f.names.map D6)):=by
 refine APure.of_body (n:=10) Aj Tryz.func76 rfl rfl ?_;refine wk 2 ?_;refine ax 1 (Ek 5 0) ?_;refine wk 4 ?_;refine dx 3 (L8 Aj 1 true rfl rfl rfl rfl rfl rfl Ab rfl rfl rfl rfl Gc rfl rfl) ?_;refine wk 2 ?_;refine dx 6 (Ba Aj (n:=0) (m:=f.params.length) rfl rfl rfl rfl rfl rfl rfl rfl rfl rfl rfl rfl (Nat.zero_lt_succ _) (.lst _ _) RK RL (List.length_map _).symm cY cU) ?_;refine wk 2 ?_;refine dx 9 (Ba Aj (n:=0+f.params.length) (m:=f.locals.length) rfl rfl rfl rfl rfl rfl rfl rfl rfl (by simp[partVals]) rfl rfl (Nat.zero_lt_succ _) (.lst _ _) RK RL (List.length_map _).symm cY cU) ?_;refine wk 2 ?_;refine AX (.freezeA 2 1 rfl rfl (by simp[partVals])) ?_;refine wk 1 ?_;refine⟨[_],⟨rfl,trivial⟩,?_,rfl⟩;exact congrArg (AV.lst false) (by simp[partVals,PFn.names])
theorem JC(p:PProg)(h1:p.vars.length<=200)(h2:p.arrays.length<=200)(h3:p.funcs.length<=200):Pu Tryz.prog 75 [.agg p.cells] (.lst false (p.globals.map D6)):=by
 refine APure.of_body (n:=43) Aj Tryz.func75 rfl rfl ?_;refine wk 2 ?_;refine ax 1 (Ek 3 0) ?_;refine wk 4 ?_;refine ax 6 (L8 Aj 1 true rfl rfl rfl rfl rfl rfl Ab rfl rfl rfl rfl Gc rfl rfl) ?_;refine wk 2 ?_;refine ax 9 (Ba Aj (n:=0) (m:=p.vars.length) rfl rfl rfl rfl rfl rfl rfl rfl rfl rfl rfl rfl (Nat.zero_lt_succ _) (.lst _ _) RK RL (List.length_map _).symm cY cU) ?_;refine wk 8 ?_;refine Aw (γ:=Nat) 2 (fun k=>⟨43,(Ad (Ad (Ad AM 1 (pZ 0)) 3 (Fw 1 (gA p k).length)) 4 (iN k)),(Ar (Ar (AE 2) 0 (rf 3 [p.cells])) 1 (rt 1 ((gA p k).map D6)))⟩) (fun k=>k<=p.arrays.length) (fun k=>p.arrays.length-k) 0 (Sub.mk' (by repeat(first|exact ESub.new _|refine ESub.put ?_ (by first|rfl|exact OQ (by simp[gA])))) (by repeat(first|exact HSub.refl _|exact HSub.none _|exact Be _|exact A6 E3|refine HSub.put ?_ (by first|rfl|exact Hm (by simp[gA,partVals]))|refine Bc ?_ E3|refine Bq ?_ Ab))) (Nat.zero_le _) (fun _=>Dz) ?_
 intro k hk;refine wk 9 ?_;refine asp 14 (fun hb1=>?_) fun hb1=>?_
 .
  refine wk 1 ?_;have hkl:k<p.arrays.length:=Ao hb1;obtain⟨x,hx⟩:=Ah hkl;refine wk 8 ?_;refine aq 21 (GI Aj (AU hx)) ?_;refine wk 2 ?_;refine ax 24 EI ?_;refine ax 25 (Ba Aj (n:=(gA p k).length) (m:=1) rfl rfl rfl rfl rfl rfl rfl rfl rfl (List.length_map _).symm rfl rfl (Nat.zero_lt_succ _) (.lst _ _) GK Hp rfl (by have hgl:=Pj p hk;rw[List.length_map];simp only[partVals,List.length_cons,List.length_nil];show _*16<=140737488355328;omega) (by have hgl:=Pj p hk;rw[List.length_map];simp only[partVals,List.length_cons,List.length_nil];simp only[maxLen];omega)) ?_;refine wk 4 ?_;refine aq 16 (A8 rfl rfl hkl DD) ?_;refine wk 2 ?_;exact⟨k+1,Drop.mk' (by repeat(first|exact EDrop.new _ _|refine EDrop.put ?_ (by first|rfl|exact OQ (by rw[Pj p hk,Pj p hkl];rfl)) PS)) (by repeat(first|exact HDrop.none _ _|exact C1 _ _|refine HDrop.put ?_ (by first|rfl|exact Hm (ZM hx).symm) rfl PV)),hkl,by omega⟩
 refine wk 1 ?_;have hge:=As hb1;refine wk 7 ?_;refine Aw (γ:=Nat) 2 (fun k=>⟨43,(Ad (Ad (Ad AM 1 (pZ 0)) 3 (Fw 1 (gF p k).length)) 5 (iN k)),(Ar (Ar (AE 2) 0 (rf 3 [p.cells])) 1 (rt 1 ((gF p k).map D6)))⟩) (fun k=>k<=p.funcs.length) (fun k=>p.funcs.length-k) 0 (Sub.mk' (by repeat(first|exact ESub.new _|refine ESub.put ?_ (by first|rfl|exact OQ (by rw[XK hge])))) (by repeat(first|exact HSub.refl _|exact HSub.none _|exact Be _|exact A6 E3|refine HSub.put ?_ (by first|rfl|exact Hm (by rw[XK hge]))|refine Bc ?_ E3|refine Bq ?_ Ab))) (Nat.zero_le _) (fun _=>Dz) ?_;intro k hk;refine wk 9 ?_;refine asp 30 (fun hb2=>?_) fun hb2=>?_
 .
  refine wk 1 ?_;have hkl:k<p.funcs.length:=Ao hb2;obtain⟨x,hx⟩:=Ah hkl;refine wk 8 ?_;refine aq 37 (GI Aj (AU hx)) ?_;refine wk 2 ?_;refine ax 40 EI ?_;refine ax 41 (Ba Aj (n:=(gF p k).length) (m:=1) rfl rfl rfl rfl rfl rfl rfl rfl rfl (List.length_map _).symm rfl rfl (Nat.zero_lt_succ _) (.lst _ _) GK Hp rfl (by have hgl:=Pi p hk;rw[List.length_map];simp only[partVals,List.length_cons,List.length_nil];show _*16<=140737488355328;omega) (by have hgl:=Pi p hk;rw[List.length_map];simp only[partVals,List.length_cons,List.length_nil];simp only[maxLen];omega)) ?_;refine wk 4 ?_;refine aq 32 (A8 rfl rfl hkl DD) ?_;refine wk 2 ?_;exact⟨k+1,Drop.mk' (by repeat(first|exact EDrop.new _ _|refine EDrop.put ?_ (by first|rfl|exact OQ (by rw[Pi p hk,Pi p hkl];rfl)) PS)) (by repeat(first|exact HDrop.none _ _|exact C1 _ _|refine HDrop.put ?_ (by first|rfl|exact Hm (ZL hx).symm) rfl PV)),hkl,by omega⟩
 refine wk 1 ?_;have hge2:=As hb2;refine wk 2 ?_;refine AX (.freezeA 3 1 rfl rfl (List.length_map _).symm) ?_;refine wk 5 ?_;refine⟨[_],⟨rfl,trivial⟩,?_,rfl⟩;rw[er hge2];rfl
theorem DV(p:PProg)(f:Nat)(s:ByteArray)(h1:p.vars.length<=200)(h2:p.arrays.length<=200)(h3:p.funcs.length<=200)(h4:∀g∈p.funcs,g.params.length<=200/\g.locals.length<=200):Pu Tryz.prog 62 [.agg p.cells,.int .i64 (f:Int),.str s] (.tup [.int .i64 (p.find f s).1,.int .i64 (p.find f s).2]):=by
 refine APure.of_body (n:=58) Aj Tryz.func62 rfl rfl ?_;refine wk 2 ?_;refine ax 3 (Ek 3 0) ?_;refine wk 5 ?_;refine AK (γ:=Bool) (fun c=>⟨58,(Ad (Ad (Ad (Ad AM 2 (.str s)) 3 (pZ 0)) 1 (iN f)) 18 (.bool c)),(Ar (AE 1) 0 (rf 3 [p.cells]))⟩) (fun c=>c=decide (f<p.funcs.length)) ?_ ?_
 .
  refine wk 4 ?_;refine BC 12 (fun hb1=>?_) fun hb1=>?_
  .
   exact fm
  exact fm
 intro c hc;refine AK (γ:=Unit) (fun _u=>⟨58,(Ad (Ad AM 2 (.str s)) 3 (pZ 0)),(Ar (AE 1) 0 (rf 3 [p.cells]))⟩) (fun _u=>ck p f s) ?_ ?_
 .
  refine asp 18 (fun hb2=>?_) fun hb2=>?_
  .
   refine wk 1 ?_;have hkl:f<p.funcs.length:=by rw[hb2]at hc;simpa using hc.symm
   obtain⟨x,hx⟩:=Ah hkl;have hxm:=List.mem_of_getElem? hx;refine wk 5 ?_;refine aq 22 (GI Aj (AU hx)) ?_;refine wk 1 ?_;refine ax 24 (Bs Tryz.func76 (Me x (h4 x hxm).1 (h4 x hxm).2)) ?_;refine wk 1 ?_;refine ax 26 (Bs Tryz.func82 (IS _ _)) ?_;refine wk 7 ?_;refine asp 28 (fun hb3=>?_) fun hb3=>?_
   .
    refine wk 1 ?_;have hown:=hb3;refine wk 7 ?_;refine⟨[_,_],⟨rfl,rfl,trivial⟩,?_,rfl⟩;show AV.tup _=AV.tup _;rw[XR hx hown]
   refine wk 2 ?_;exact fq
  refine wk 1 ?_;have hge:p.funcs.length<=f:=by rw[hb2]at hc;simpa using hc.symm
  refine wk 1 ?_;exact fq
 intro _u hno;have hpl:=C0 s p.globals 0;have hgl:p.globals.length<=600:=by simp only[PProg.globals,List.length_append,List.length_map];omega
 refine wk 3 ?_;refine ax 31 (Bs Tryz.func75 (JC p h1 h2 h3)) ?_;refine wk 1 ?_;refine ax 33 (Bs Tryz.func82 (IS _ _)) ?_;refine wk 8 ?_;refine asp 35 (fun hb4=>?_) fun hb4=>?_
 .
  refine wk 1 ?_;have e1:=hb4;refine wk 6 ?_;refine⟨[_,_],⟨rfl,rfl,trivial⟩,?_,rfl⟩;show AV.tup _=AV.tup _;rw[Ka hno,e1];rfl
 refine wk 1 ?_;have e1:=hb4;have e1n:0<=placeOf s p.globals 0:=by have:=of_decide_eq_false hb4;omega
 refine wk 10 ?_;refine asp 40 (fun hb5=>?_) fun hb5=>?_
 .
  refine wk 1 ?_;have e2:=hb5;refine wk 7 ?_;refine⟨[_,_],⟨rfl,rfl,trivial⟩,?_,rfl⟩;show AV.tup _=AV.tup _
  (try rw[List.length_map]at e2)
  rw[Ka hno,e1,e2];rfl
 refine wk 1 ?_;have e2:=hb5;refine wk 7 ?_;refine aq 46 (AG (r:=.int .i64 (placeOf s p.globals 0-p.vars.length)) rfl rfl rfl PU) ?_;refine wk 11 ?_;refine asp 51 (fun hb6=>?_) fun hb6=>?_
 .
  refine wk 1 ?_;have e3:=hb6;refine wk 7 ?_;exact br
 refine wk 1 ?_;have e3:=hb6;refine wk 7 ?_;refine dq 57 (AG (r:=.int .i64 (placeOf s p.globals 0-p.vars.length-p.arrays.length)) rfl rfl rfl PU) ?_;refine wk 4 ?_;exact br
theorem Ym(a:Nat)(ha:a<4294967296):Ca Tryz.prog 99 [.int .u32 (a:Int)] (Ar hNew 0 .free) (.ref 0 32 0 32) (Ar hNone 0 (rt 1 (A3 (DG a 32)))):=by
 refine ACall.of_body (n:=18) Aj Tryz.func99 rfl rfl ?_;refine wk 10 ?_;refine AX (.dry 3 0 1 true rfl rfl rfl Ab) ?_;refine wk 4 ?_;refine CV (γ:=Nat) (fun k=>⟨18,(Ad (Ad (Ad AM 0 (.int .u32 ((a/2^k:Nat):Int))) 3 (.ref 0 k 0 k)) 4 (iN k)),(Ar hNone 0 (rt 1 (A3 (DG a k))))⟩) (fun k=>k<=32) (fun k=>32-k) 0 (Sub.mk' ge Bn) (Nat.zero_le _) ?_;intro k hk;exact fR
theorem Yl(a:Nat)(ha:a<4294967296):Ca Tryz.prog 99 [.int .u32 (a:Int)] (Ar hNew 1 .free) (.ref 1 32 0 32) (Ar hNone 1 (rt 1 (A3 (DG a 32)))):=by
 refine ACall.of_body (n:=18) Aj Tryz.func99 rfl rfl ?_;refine wk 10 ?_;refine AX (.dry 3 1 1 true rfl rfl rfl Ab) ?_;refine wk 4 ?_;refine CV (γ:=Nat) (fun k=>⟨18,(Ad (Ad (Ad AM 0 (.int .u32 ((a/2^k:Nat):Int))) 3 (.ref 1 k 0 k)) 4 (iN k)),(Ar hNone 1 (rt 1 (A3 (DG a k))))⟩) (fun k=>k<=32) (fun k=>32-k) 0 (Sub.mk' ge Bn) (Nat.zero_le _) ?_;intro k hk;exact fR
theorem VC(l:List Nat)(hl:l.length=32)(hb:∀b∈l,b<2):Pu Tryz.prog 100 [.lst false (A3 l)] (.int .u32 (valB l:Int)):=by
 refine APure.of_body (n:=23) Aj Tryz.func100 rfl rfl ?_;refine wk 13 ?_;refine aq 7 (AG (r:=.int .i64 (31:Int)) rfl rfl rfl (by rw[Cz,hl];rfl)) ?_;refine wk 3 ?_;refine CV (γ:=Nat) (fun k=>⟨23,(Ad (Ad (Ad AM 0 (.lst false (A3 l))) 3 (.int .u64 ((valB (l.drop k):Nat):Int))) 4 (.int .i64 ((k:Int)-1))),hNone⟩) (fun k=>k<=32) (fun k=>k) 32 (Sub.mk' (by repeat(first|exact ESub.new _|refine ESub.put ?_ (by first|rfl|exact congrArg (fun(n:Nat)=>some (AV.int .u64 (n:Int))) (by rw[List.drop_eq_nil_of_le Aa];rfl)))) Bn) (Nat.le_refl _) ?_;intro k hk;refine wk 6 ?_;refine asp 9 (fun hb1=>?_) fun hb1=>?_
 .
  refine act ?_;obtain⟨m,rfl⟩:∃m,k=m+1:=⟨k-1,by have h:=hb1;simp at h;omega⟩
  obtain⟨b,hx⟩:=Ah (l:=l) (k:=m) Aa;have hb2:=hb b (List.mem_of_getElem? hx);have hv:=Je hl hb (m+1);have hv2:=UB hx;refine wk 5 ?_;refine aq 13 (AG (r:=.int .u64 ((2*valB (l.drop (m+1)):Nat):Int)) rfl rfl rfl (MJ (a:=2) (b:=valB (l.drop (m+1))) (Cm Aa))) ?_;refine wk 2 ?_;refine aq 16 (Ae Aj rfl rfl rfl rfl rfl rfl Aa (cs:=[.int .i64 (b:Int)]) (by rw[show(((m+1:Nat):Int)-1).toNat=m by omega];show(A3 l)[m]?=_;rw[A3,List.getElem?_map,hx];rfl) rfl) ?_;refine wk 1 ?_;refine aq 18 (Cd Aj rfl rfl rfl rfl rfl (Cm Aa)) ?_;refine aq 19 (AG (r:=.int .u64 ((2*valB (l.drop (m+1))+b:Nat):Int)) rfl rfl rfl (HL (Cm Aa))) ?_;refine wk 4 ?_;refine aq 11 (AG (r:=.int .i64 ((m:Int)-1)) rfl rfl rfl Wl) ?_;refine wk 2 ?_;exact⟨m,Sub.mk' (by repeat(first|exact ESub.new _|refine ESub.put ?_ (by first|rfl|exact congrArg (fun(n:Nat)=>some (AV.int .u64 (n:Int))) Aa))) Bn,Aa,by omega⟩
 refine Ej ?_;obtain rfl:k=0:=by have h:=hb1;simp at h;omega
 refine wk 4 ?_;refine aq 21 (AG (r:=.int .u64 ((valB (l.drop 0)%4294967296:Nat):Int)) rfl rfl rfl (FK (a:=valB (l.drop 0)) (b:=4294967296) Ab)) ?_;refine aq 22 (Cd Aj rfl rfl rfl rfl rfl (C5 (Nat.mod_lt _ Ab))) ?_;refine wk 2 ?_;refine I9 ⟨[_],⟨rfl,trivial⟩,?_,rfl⟩;show AV.int .u32 _=_;rw[Nat.mod_eq_of_lt (Je hl hb 0),List.drop_zero]
theorem ae(op:Int)(a b:Nat)(ha:a<4294967296)(hb:b<4294967296):Pu Tryz.prog 86 [.int .i64 op,.int .u32 (a:Int),.int .u32 (b:Int)] (.int .u32 (valB (Eh op a b):Int)):=by
 refine APure.of_body (n:=50) Aj Tryz.func86 rfl rfl ?_;refine wk 7 ?_;refine ax 12 (dW (Ym a ha) [0] [(0,(rt 1 (A3 (DG a 32))))] rfl Tryz.func99 Al rfl rfl rfl ⟨⟨_,rfl,rfl⟩,trivial⟩ rfl RM ⟨⟨_,rfl,rfl,rfl⟩,trivial⟩ rfl) ?_;refine wk 1 ?_;refine ax 14 (dW (Yl b hb) [1] [(1,(rt 1 (A3 (DG b 32))))] rfl Tryz.func99 Al rfl rfl rfl ⟨⟨_,rfl,rfl⟩,trivial⟩ rfl RM ⟨⟨_,rfl,rfl,rfl⟩,trivial⟩ rfl) ?_;refine wk 9 ?_;refine CV (γ:=Nat) (fun k=>⟨50,(Ad (Ad (Ad (Ad AM 0 (.int .i64 op)) 7 (.ref 0 32 0 32)) 8 (.ref 1 32 0 32)) 9 (iN k)),(Ar (Ar hNone 0 (rt 1 (A3 (HH op a b k)))) 1 (rt 1 (A3 (DG b 32))))⟩) (fun k=>k<=32) (fun k=>32-k) 0 (Sub.mk' AT (by repeat(first|exact HSub.refl _|exact HSub.none _|exact Be _|exact A6 E3|refine HSub.put ?_ (by first|rfl|exact congrArg (fun l=>some (rt 1 (A3 l))) (Va op a b).symm)|refine Bc ?_ E3|refine Bq ?_ Ab))) (Nat.zero_le _) ?_
 intro k hk;refine wk 6 ?_;refine asp 16 (fun hb1=>?_) fun hb1=>?_
 .
  refine act ?_;have hkl:k<32:=by have h:=hb1;simp at h;omega
  refine wk 7 ?_;refine dq 21 (Ap Aj (hm:=dd)) ?_;refine dq 22 (BE Aj rfl rfl rfl (.ptr _ _ _ _ _ _ _ _ rfl YY (E5 (Mk hkl))) rfl) ?_;refine wk 2 ?_;refine dq 25 (Ap Aj (hm:=dd)) ?_;refine dq 26 (BE Aj rfl rfl rfl (.ptr _ _ _ _ _ _ _ _ rfl (by simp[Cz,CB]) (E5 (Kj hkl))) rfl) ?_;refine dq 27 (AG (r:=.int .i64 ((a/2^k%2+b/2^k%2:Nat):Int)) rfl rfl rfl (HL (Nr Aa))) ?_;refine wk 6 ?_;refine aq 30 (Ap Aj (hm:=dd)) ?_;refine AOps.w rfl rfl (BA Aj rfl rfl rfl rfl rfl rfl YY (E5 (Mk hkl)) rfl Ab rfl Gc) ?_;refine wk 6 ?_;refine BC 33 (fun hb2=>?_) fun hb2=>?_
  .
   refine wk 4 ?_;refine BC 37 (fun hb3=>?_) fun hb3=>?_
   .
    refine wk 12 ?_;exact cD
   refine wk 3 ?_;refine BC 40 (fun hb4=>?_) fun hb4=>?_
   .
    refine wk 5 ?_;refine asp 44 (fun hb5=>?_) fun hb5=>?_
    .
     refine wk 4 ?_;exact cD
    refine wk 4 ?_;exact fK
   refine wk 9 ?_;exact fK
  refine wk 7 ?_;refine BC 40 (fun hb6=>?_) fun hb6=>?_
  .
   refine wk 5 ?_;refine asp 44 (fun hb7=>?_) fun hb7=>?_
   .
    refine wk 4 ?_;exact cD
   refine wk 4 ?_;exact fK
  refine wk 9 ?_;exact fK
 refine Ej ?_;have hge:¬k<32:=by have h:=hb1;simp at h;omega
 obtain rfl:k=32:=by omega
 rw[Xp];refine wk 2 ?_;refine AX (.freezeAll 7 0 rfl rfl (by simp[Cz,Ds])) ?_;refine wk 2 ?_;refine ax 49 (Bs Tryz.func100 (VC _ (Ds _ _ _) (Yg _ _ _))) ?_;exact V8
theorem UM(op:Int)(a b:Nat)(ha:a<4294967296)(hb:b<4294967296)(ho:op=12\/op=13):Pu Tryz.prog 87 [.int .i64 op,.int .u32 (a:Int),.int .u32 (b:Int)] (.int .u32 (Gd op a b)):=by
 refine APure.of_body (n:=27) Aj Tryz.func87 rfl rfl ?_;refine wk 10 ?_;refine asp 10 (fun hb1=>?_) fun hb1=>?_
 .
  refine act ?_;have hb32:32<=b:=by have h:=hb1;simp at h;omega
  refine wk 4 ?_;refine I9 ⟨[_],⟨rfl,trivial⟩,?_,rfl⟩;show AV.int .u32 _=_;rw[RO op hb32]
 refine Ej ?_;have hb32:b<32:=by have h:=hb1;simp at h;omega
 refine wk 4 ?_;refine aq 12 (Cd Aj rfl rfl rfl rfl rfl (Cm Aa)) ?_;refine wk 8 ?_;refine CV (γ:=Nat) (fun k=>⟨27,(Ad (Ad (Ad (Ad AM 0 (.int .i64 op)) 2 (.int .u32 (b:Int))) 7 (.int .u64 ((shN op a k:Nat):Int))) 8 (.int .u32 (k:Int))),hNone⟩) (fun k=>k<=b) (fun k=>b-k) 0 (Sub.mk' AT Bn) (Nat.zero_le _) ?_;intro k hk;refine wk 7 ?_;refine asp 15 (fun hb2=>?_) fun hb2=>?_
 .
  refine act ?_;have hkl:k<b:=by have h:=hb2;simp at h;omega
  have hlt:=OX (op:=op) ha k;refine wk 8 ?_;refine asp 19 (fun hb3=>?_) fun hb3=>?_
  .
   refine wk 3 ?_;refine aq 21 (AG (r:=.int .u64 ((2*shN op a k:Nat):Int)) rfl rfl rfl (MJ (a:=2) (b:=shN op a k) (Cm Aa))) ?_;refine aq 22 (AG (r:=.int .u64 ((2*shN op a k%4294967296:Nat):Int)) rfl rfl rfl (FK (a:=2*shN op a k) (b:=4294967296) Ab)) ?_;exact fA
  refine wk 3 ?_;refine aq 24 (AG (r:=.int .u64 ((shN op a k/2:Nat):Int)) rfl rfl rfl (JH (a:=shN op a k) (b:=2) Ab (Cm Aa))) ?_;exact fA
 refine Ej ?_;obtain rfl:k=b:=by have h:=hb2;simp at h;omega
 refine wk 4 ?_;refine aq 26 (Cd Aj rfl rfl rfl rfl rfl (C5 (OX ha _))) ?_;refine wk 2 ?_;refine I9 ⟨[_],⟨rfl,trivial⟩,?_,rfl⟩;show AV.int .u32 _=_;rw[OL ha hb32 ho]
theorem T4(ok:Bool):Pu Tryz.prog 88 [.bool ok] (.int .u32 (bif ok then 1 else 0)):=by
 refine APure.of_body (n:=4) Aj Tryz.func88 rfl rfl ?_;refine wk 9 ?_;refine asp 3 (fun hb1=>?_) fun hb1=>?_
 .
  refine wk 5 ?_;refine I9 ⟨[_],⟨rfl,trivial⟩,?_,rfl⟩;show AV.int .u32 _=_;simp[*]
 refine wk 6 ?_;refine I9 ⟨[_],⟨rfl,trivial⟩,?_,rfl⟩;show AV.int .u32 _=_;simp[*]
theorem Sf(op:Int)(a b:Nat)(ha:a<4294967296)(hb:b<4294967296):Pu Tryz.prog 64 [.int .i64 op,.int .u32 (a:Int),.int .u32 (b:Int)] (bV (BG op a b)):=by
 refine APure.of_body (n:=80) Aj Tryz.func64 rfl rfl ?_;refine wk 8 ?_;refine aq 11 (Cd Aj rfl rfl rfl rfl rfl (Cm Aa)) ?_;refine wk 1 ?_;refine aq 13 (Cd Aj rfl rfl rfl rfl rfl (Cm Aa)) ?_;refine wk 14 ?_;refine asp 15 (fun hb1=>?_) fun hb1=>?_
 .
  refine act ?_;obtain rfl:op=4:=by simpa using hb1
  refine wk 4 ?_;refine aq 19 (AG (r:=.int .u64 ((a+b:Nat):Int)) rfl rfl rfl (HL (Cm Aa))) ?_;refine aq 20 (AG (r:=.int .u64 (((a+b)%4294967296:Nat):Int)) rfl rfl rfl (FK (a:=a+b) (b:=4294967296) Ab)) ?_;refine aq 21 (Cd Aj rfl rfl rfl rfl rfl (C5 (Nat.mod_lt _ Ab))) ?_;refine wk 4 ?_;refine⟨[_,_],⟨rfl,rfl,trivial⟩,?_,rfl⟩;show AV.tup _=_;rw[Ww];rfl
 refine wk 6 ?_;refine asp 22 (fun hb2=>?_) fun hb2=>?_
 .
  refine act ?_;obtain rfl:op=5:=by simpa using hb2
  refine wk 3 ?_;refine aq 25 (AG (r:=.int .u64 ((a+4294967296:Nat):Int)) rfl rfl rfl (HL (b:=4294967296) (Cm Aa))) ?_;refine wk 1 ?_;refine aq 27 (AG (r:=.int .u64 ((a+4294967296-b:Nat):Int)) rfl rfl rfl (X7 Aa (Cm Aa))) ?_;refine aq 28 (AG (r:=.int .u64 (((a+4294967296-b)%4294967296:Nat):Int)) rfl rfl rfl (FK (a:=a+4294967296-b) (b:=4294967296) Ab)) ?_;refine aq 29 (Cd Aj rfl rfl rfl rfl rfl (C5 (Nat.mod_lt _ Ab))) ?_;refine wk 4 ?_;refine⟨[_,_],⟨rfl,rfl,trivial⟩,?_,rfl⟩;show AV.tup _=_;rw[Ws hb];rfl
 refine wk 6 ?_;refine asp 30 (fun hb3=>?_) fun hb3=>?_
 .
  refine act ?_;obtain rfl:op=6:=by simpa using hb3
  have hab:a*b<18446744073709551616:=by have:=Nat.mul_lt_mul'' ha hb;omega
  refine wk 4 ?_;refine aq 34 (AG (r:=.int .u64 ((a*b:Nat):Int)) rfl rfl rfl (MJ (Cm hab))) ?_;refine aq 35 (AG (r:=.int .u64 ((a*b%4294967296:Nat):Int)) rfl rfl rfl (FK (a:=a*b) (b:=4294967296) Ab)) ?_;refine aq 36 (Cd Aj rfl rfl rfl rfl rfl (C5 (Nat.mod_lt _ Ab))) ?_;refine wk 4 ?_;refine⟨[_,_],⟨rfl,rfl,trivial⟩,?_,rfl⟩;show AV.tup _=_;rw[Wt];rfl
 refine wk 6 ?_;refine asp 37 (fun hb4=>?_) fun hb4=>?_
 .
  refine act ?_;obtain rfl:op=7:=by simpa using hb4
  refine wk 6 ?_;refine asp 40 (fun hb5=>?_) fun hb5=>?_
  .
   refine act ?_;obtain rfl:b=0:=by have h:=hb5;simp at h;omega
   exact bB
  refine Ej ?_;have hb0:¬b=0:=by have h:=hb5;simp at h;omega
  have hda:=Nat.div_le_self a b;refine wk 5 ?_;refine aq 43 (AG (r:=.int .u64 ((a/b:Nat):Int)) rfl rfl rfl (JH (Nat.pos_of_ne_zero hb0) (Cm Aa))) ?_;refine aq 44 (Cd Aj rfl rfl rfl rfl rfl (C5 Aa)) ?_;refine wk 4 ?_;refine⟨[_,_],⟨rfl,rfl,trivial⟩,?_,rfl⟩;show AV.tup _=_;rw[Wv ha hb0];rfl
 refine wk 6 ?_;refine asp 45 (fun hb6=>?_) fun hb6=>?_
 .
  refine act ?_;obtain rfl:op=8:=by simpa using hb6
  refine wk 6 ?_;refine asp 48 (fun hb7=>?_) fun hb7=>?_
  .
   refine act ?_;obtain rfl:b=0:=by have h:=hb7;simp at h;omega
   exact bB
  refine Ej ?_;have hb0:¬b=0:=by have h:=hb7;simp at h;omega
  have hma:=Nat.mod_lt a (Nat.pos_of_ne_zero hb0);refine wk 5 ?_;refine aq 51 (AG (r:=.int .u64 ((a%b:Nat):Int)) rfl rfl rfl (FK (Nat.pos_of_ne_zero hb0))) ?_;refine aq 52 (Cd Aj rfl rfl rfl rfl rfl (C5 Aa)) ?_;refine wk 4 ?_;refine⟨[_,_],⟨rfl,rfl,trivial⟩,?_,rfl⟩;show AV.tup _=_;rw[Wu hb0];rfl
 refine wk 7 ?_;refine asp 53 (fun hb8=>?_) fun hb8=>?_
 .
  refine wk 5 ?_;exact cy
 refine wk 6 ?_;refine asp 53 (fun hb9=>?_) fun hb9=>?_
 .
  refine wk 5 ?_;exact cy
 refine wk 5 ?_;refine asp 53 (fun hb10=>?_) fun hb10=>?_
 .
  refine wk 3 ?_;exact cy
 refine wk 7 ?_;refine asp 61 (fun hb11=>?_) fun hb11=>?_
 .
  refine wk 5 ?_;exact eW
 refine wk 5 ?_;refine asp 61 (fun hb12=>?_) fun hb12=>?_
 .
  refine wk 3 ?_;exact eW
 refine wk 6 ?_;refine asp 68 (fun hb13=>?_) fun hb13=>?_
 .
  refine act ?_;obtain rfl:op=14:=by simpa using hb13
  refine wk 5 ?_;refine ax 73 (Bs Tryz.func88 (T4 _)) ?_;refine wk 4 ?_;refine⟨[_,_],⟨rfl,rfl,trivial⟩,?_,rfl⟩;show AV.tup _=_;rw[Y6];rfl
 refine wk 6 ?_;refine asp 74 (fun hb14=>?_) fun hb14=>?_
 .
  refine act ?_;obtain rfl:op=15:=by simpa using hb14
  refine wk 5 ?_;refine ax 79 (Bs Tryz.func88 (T4 _)) ?_;refine wk 4 ?_;refine⟨[_,_],⟨rfl,rfl,trivial⟩,?_,rfl⟩;show AV.tup _=_;rw[Y7];rfl
 refine wk 8 ?_;refine⟨[_,_],⟨rfl,rfl,trivial⟩,?_,rfl⟩;show AV.tup _=AV.tup _;simp[BG, *]
theorem NT(op a b:Int)(ha:CW a)(hb:CW b):Pu Tryz.prog 64 [.int .i64 op,.int .u32 a,.int .u32 b] (bV (BG op a b)):=by
 obtain⟨n,rfl⟩:=Int.eq_ofNat_of_zero_le ha.1;obtain⟨m,rfl⟩:=Int.eq_ofNat_of_zero_le hb.1;exact Sf op n m Ja (by have:=hb.2;omega)
theorem FH{l:List PE}{x:PE}(h:l[0]?=some x):(l.map PE.cells)[(0:Int).toNat]?=some x.row:=Dg (k:=0) h
theorem Pg{l:List PE}{x:PE}(h:l[1]?=some x):(l.map PE.cells)[(1:Int).toNat]?=some x.row:=Dg (k:=1) h
theorem So(p:PProg)(s:ByteArray)(fuel:Int)(cl:Ct)(n f:Nat)(b:Bool)(e:PE)(x:PX)(hp:PSz p)(hfu:fuel<=9223372036854775807)(hs:s.size<=9223372036854775807)(hfit:e.fit p f b)(hk:e.Ok)(hx:x.good p fuel n)(hcl:II p fuel cl)(hG:∀g,p.funcs[f]?=some g->g.names.length=n)
 (hE:∀y∈e.kids,∀x,PX.good p fuel n x->Ca Tryz.prog 83 [.ptr 0 1 0 0,.ptr 4 1 0 0,.agg y.row] (ER p s fuel n f x) (.int .u32 (y.ev p cl s f x.ws x.c).1) (BJ (kf 6) hNone (ER p s fuel n f {x with c:=(y.ev p cl s f x.ws x.c).2}))) (hcall:e.kind=4->Ca Tryz.prog 85 [.ptr 0 1 0 0,.ptr 4 1 0 0,.str e.name,(.lst false (e.kids.map PE.cells))] (ER p s fuel n f x) (.int .u32 (PE.evC p cl s f x.ws (p.find f e.name).2.toNat e.kids [] x.c).1) (BJ (kf 6) hNone (ER p s fuel n f {x with c:=(PE.evC p cl s f x.ws (p.find f e.name).2.toNat e.kids [] x.c).2}))):Ca Tryz.prog 83 [.ptr 0 1 0 0,.ptr 4 1 0 0,.agg e.row] (ER p s fuel n f x) (.int .u32 (e.ev p cl s f x.ws x.c).1) (BJ (kf 6) hNone (ER p s fuel n f {x with c:=(e.ev p cl s f x.ws x.c).2})):=by
 refine ACall.of_body (n:=232) Aj Tryz.func83 rfl rfl ?_;refine wk 2 ?_;refine ax 5 (Ek 5 6) ?_;refine wk 11 ?_;refine asp 21 (fun hb1=>?_) fun hb1=>?_
 .
  refine wk 1 ?_;have hoff:=hb1;refine wk 5 ?_;rw[Zp hoff];exact RD
 refine wk 1 ?_;have h0:(x.c.m.fin !=0)=false:=hb1;refine wk 13 ?_;refine asp 24 (fun hb2=>?_) fun hb2=>?_
 .
  refine wk 1 ?_;have ho:e.kind=1:=by simpa using hb2
  refine wk 7 ?_;rw[jG h0 ho];exact RD
 refine wk 1 ?_;have n1:e.kind≠1:=by simpa using hb2
 refine wk 5 ?_;refine asp 28 (fun hb3=>?_) fun hb3=>?_
 .
  refine wk 1 ?_;have ho:e.kind=2:=by simpa using hb3
  refine wk 12 ?_;refine dx 41 (Bs Tryz.func62 (DV p f e.name hp.v hp.a hp.n200 hp.fn)) ?_;refine wk 12 ?_;refine asp 45 (fun hb4=>?_) fun hb4=>?_
  .
   refine wk 1 ?_;have hne:=hb4;obtain⟨g,hg,ho0,ho1⟩:=(BQ p f e.name).1 (beq_iff_eq.1 hb4);have hgn:=hG g hg;have hown:0<=(p.find f e.name).2/\(p.find f e.name).2<x.ws.length:=by rw[hx.len];omega
   refine wk 7 ?_;refine aq 51 (Ap Aj (hm:=Tv) (h0:=hown.1) (hn:=(by have:=hown.2;have:=hx.len;omega))) ?_;refine aq 52 (BE Aj rfl rfl rfl (.ptr _ _ _ _ _ _ _ _ rfl Tv (CH hown)) rfl) ?_;refine wk 3 ?_;rw[dS h0 ho hne];exact RD
  refine wk 1 ?_;have hnv:=hb4;have hvar:0<=(p.find f e.name).2/\(p.find f e.name).2<x.c.m.words.length:=by rw[hx.c.vl];exact(BQ p f e.name).2.1 ((dN hfit ho).resolve_left (by simpa using hnv))
  refine wk 8 ?_;refine aq 58 (Ap Aj (hm:=(by rw[AR,hx.c.vl])) (h0:=hvar.1) (hn:=(by have:=hvar.2;have:=hx.c.vl;omega))) ?_;refine aq 59 (BE Aj rfl rfl rfl (.ptr _ _ _ _ _ _ _ _ rfl (by rw[AR,hx.c.vl]) (CH hvar)) rfl) ?_;refine wk 3 ?_;rw[dR h0 ho hnv];exact RD
 refine wk 1 ?_;have n2:e.kind≠2:=by simpa using hb3
 refine wk 5 ?_;refine asp 60 (fun hb5=>?_) fun hb5=>?_
 .
  refine wk 1 ?_;have ho:e.kind=3:=by simpa using hb5
  obtain⟨hf3,hl1⟩:=dM hfit ho;have hs3:=(BQ p f e.name).2.2.1 hf3;obtain⟨A,hA⟩:=Ah (l:=p.arrays) (k:=(p.find f e.name).2.toNat) Aa;obtain⟨y,hy⟩:=Ah (l:=e.kids) (k:=0) Aa;have hym:=List.mem_of_getElem? hy;have hgy:=BM (s:=s) (f:=f) hcl hx.ws y.parts y (Nat.le_refl _) (hk.kidsOk.1 y hym) x.c hx.c;have hx1:PX.good p fuel n {x with c:=(y.ev p cl s f x.ws x.c).2}:=(hx.put hgy.1).1;have hv1:=hgy.2.1;have hv2:=hgy.2.2;have hAz:=hp.arr A (List.mem_of_getElem? hA);have haz:(((y.ev p cl s f x.ws x.c).2.arr (p.find f e.name).2).length:Int)=A.2:=by have:=hgy.1.1.az (p.find f e.name).2.toNat A hA;rwa[show(((p.find f e.name).2.toNat:Nat):Int)=(p.find f e.name).2 by omega]at this
  have hal:(p.find f e.name).2<(y.ev p cl s f x.ws x.c).2.arrs.length:=by rw[hgy.1.1.al];exact hs3.2
  refine wk 12 ?_;refine dx 73 (Bs Tryz.func62 (DV p f e.name hp.v hp.a hp.n200 hp.fn)) ?_;refine wk 12 ?_;refine aq 80 (Ae Aj rfl rfl rfl rfl rfl rfl Ab (FH hy) rfl) ?_;refine wk 1 ?_;refine AOps.call 82 rfl rfl rfl (Bv (n:=n) (f:=f) (x:=x) (y:={x with c:=(y.ev p cl s f x.ws x.c).2}) (hE y hym x hx) rfl Tryz.func83 Al rfl rfl rfl ⟨rfl,rfl,rfl,rfl,rfl,rfl,trivial⟩ CN rfl) ?_;refine wk 11 ?_;refine asp 87 (fun hb6=>?_) fun hb6=>?_
  .
   refine wk 1 ?_;have hf:=hb6;refine wk 5 ?_;rw[Xa h0 ho hy,H8 hf,cond_false];exact RD
  refine wk 1 ?_;have hf:=hb6;refine wk 5 ?_;refine aq 89 (Co Aj rfl rfl rfl rfl rfl (r:=(y.ev p cl s f x.ws x.c).1) PO) ?_;refine wk 5 ?_;refine aq 95 (Ap Aj rfl rfl rfl rfl rfl rfl rfl (Cw p).symm rfl hs3.1 hs3.2) ?_;refine aq 96 (BE Aj rfl rfl rfl (.ptr _ _ _ _ _ _ _ _ rfl (Cw p).symm (HS hA)) rfl) ?_;refine wk 1 ?_;refine aq 98 (Co Aj rfl rfl rfl rfl rfl (r:=(A.2.toNat:Int)) PO) ?_;refine wk 2 ?_;refine asp 99 (fun hb7=>?_) fun hb7=>?_
  .
   refine wk 1 ?_;have hz3:decide (((y.ev p cl s f x.ws x.c)).1>=(((y.ev p cl s f x.ws x.c).2.arr (p.find f e.name).2).length:Int))=true:=by have h:=of_decide_eq_true hb7;exact decide_eq_true Aa
   refine wk 5 ?_;refine wk 1 ?_;refine wk 6 ?_;rw[Xa h0 ho hy,BU hf,hz3,cond_true,cond_true];exact RD
  refine wk 1 ?_;have hz3:decide (((y.ev p cl s f x.ws x.c)).1>=(((y.ev p cl s f x.ws x.c).2.arr (p.find f e.name).2).length:Int))=false:=by have h:=of_decide_eq_false hb7;exact decide_eq_false Aa
  have hz4:=of_decide_eq_false hz3;refine wk 8 ?_;refine aq 108 (Ap Aj rfl rfl rfl rfl rfl rfl rfl (Cw p).symm rfl hs3.1 hs3.2) ?_;refine aq 109 (BE Aj rfl rfl rfl (.ptr _ _ _ _ _ _ _ _ rfl (Cw p).symm (HS hA)) rfl) ?_;refine wk 1 ?_;refine aq 111 (Ap Aj rfl rfl rfl rfl rfl rfl ((FV _ _ _ _ _).trans (congrArg some (Lh (c:=(y.ev p cl s f x.ws x.c).2) hs3.1 hal))) (by rw[AR];omega) rfl hv1 Aa) ?_;refine aq 112 (BE Aj rfl rfl rfl (.ptr _ _ _ _ _ _ _ _ ((FV _ _ _ _ _).trans (congrArg some (Lh (c:=(y.ev p cl s f x.ws x.c).2) hs3.1 hal))) (by rw[AR];omega) (CH Aa)) rfl) ?_;refine wk 3 ?_;rw[Xa h0 ho hy,BU hf,hz3,cond_true,cond_false];exact RD
 refine wk 1 ?_;have n3:e.kind≠3:=by simpa using hb5
 refine wk 5 ?_;refine asp 113 (fun hb8=>?_) fun hb8=>?_
 .
  refine wk 1 ?_;have ho:e.kind=4:=by simpa using hb8
  refine wk 8 ?_;refine AOps.call 121 rfl rfl rfl (Bv (n:=n) (f:=f) (x:=x) (y:={x with c:=(PE.evC p cl s f x.ws (p.find f e.name).2.toNat e.kids [] x.c).2}) (hcall ho) rfl Tryz.func85 Al rfl rfl rfl ⟨rfl,rfl,rfl,rfl,rfl,rfl,trivial⟩ CN rfl) ?_;refine wk 3 ?_;rw[jF h0 ho];exact RD
 refine wk 1 ?_;have n4:e.kind≠4:=by simpa using hb8
 refine wk 5 ?_;refine asp 122 (fun hb9=>?_) fun hb9=>?_
 .
  refine wk 1 ?_;have ho:e.kind=5:=by simpa using hb9
  refine wk 14 ?_;refine asp 133 (fun hb10=>?_) fun hb10=>?_
  .
   refine wk 1 ?_;have hrd:¬x.c.m.read<s.size:=by have h:=of_decide_eq_true hb10;omega
   refine wk 5 ?_;rw[dO h0 ho hrd];exact RD
  refine wk 1 ?_;have hrd:x.c.m.read<s.size:=by have h:=of_decide_eq_false hb10;omega
  refine wk 7 ?_;refine aq 138 (A8 rfl rfl hrd DD) ?_;refine wk 2 ?_;refine wk 1 ?_;refine wk 11 ?_;refine dq 149 (AG (r:=.int .i64 (x.c.m.read:Int)) rfl rfl rfl Wl) ?_;refine dq 150 (DU (c:=FE s x.c.m.read) Aj rfl rfl rfl rfl rfl (Int.natCast_nonneg _) (Mu hrd)) ?_;refine dq 151 (Co Aj rfl rfl rfl rfl rfl (r:=((FE s x.c.m.read).toNat:Int)) (by rw[IntKind.wrap_u32];have:=(MU (FE s x.c.m.read)).2;omega)) ?_;refine wk 3 ?_;rw[dP h0 ho hrd];exact RD
 refine wk 1 ?_;have n5:e.kind≠5:=by simpa using hb9
 refine wk 5 ?_;refine asp 152 (fun hb11=>?_) fun hb11=>?_
 .
  refine wk 1 ?_;have ho:e.kind=6:=by simpa using hb11
  obtain⟨hl2,_,_⟩:=dK hfit ho;obtain⟨y,hy⟩:=Ah (l:=e.kids) (k:=0) Aa;have hym:=List.mem_of_getElem? hy;have hgy:=BM (s:=s) (f:=f) hcl hx.ws y.parts y (Nat.le_refl _) (hk.kidsOk.1 y hym) x.c hx.c;have hx1:PX.good p fuel n {x with c:=(y.ev p cl s f x.ws x.c).2}:=(hx.put hgy.1).1;have hv1:=hgy.2.1;have hv2:=hgy.2.2;obtain⟨z,hz⟩:=Ah (l:=e.kids) (k:=1) Aa;have hzm:=List.mem_of_getElem? hz;have hgz:=BM (s:=s) (f:=f) hcl hx.ws z.parts z (Nat.le_refl _) (hk.kidsOk.1 z hzm) (y.ev p cl s f x.ws x.c).2 hgy.1.1;refine wk 6 ?_;refine aq 158 (Ae Aj rfl rfl rfl rfl rfl rfl Ab (FH hy) rfl) ?_;refine wk 1 ?_;refine AOps.call 160 rfl rfl rfl (Bv (n:=n) (f:=f) (x:=x) (y:={x with c:=(y.ev p cl s f x.ws x.c).2}) (hE y hym x hx) rfl Tryz.func83 Al rfl rfl rfl ⟨rfl,rfl,rfl,rfl,rfl,rfl,trivial⟩ CN rfl) ?_;refine wk 8 ?_;refine aq 165 (Ae Aj rfl rfl rfl rfl rfl rfl Ab (Pg hz) rfl) ?_;refine wk 1 ?_;refine AOps.call 167 rfl rfl rfl (Bv (n:=n) (f:=f) (x:={x with c:=(y.ev p cl s f x.ws x.c).2}) (y:={x with c:=(z.ev p cl s f x.ws (y.ev p cl s f x.ws x.c).2).2}) (hE z hzm {x with c:=(y.ev p cl s f x.ws x.c).2} hx1) rfl Tryz.func83 Al rfl rfl rfl ⟨rfl,rfl,rfl,rfl,rfl,rfl,trivial⟩ CN rfl) ?_;refine wk 11 ?_;refine asp 172 (fun hb12=>?_) fun hb12=>?_
  .
   refine wk 1 ?_;have hf:=hb12;refine wk 5 ?_;rw[W9 h0 ho hy hz,H8 hf,cond_false];exact RD
  refine wk 1 ?_;have hf:=hb12;refine wk 7 ?_;refine ax 178 (Bs Tryz.func64 (NT e.op (y.ev p cl s f x.ws x.c).1 (z.ev p cl s f x.ws (y.ev p cl s f x.ws x.c).2).1 hgy.2 hgz.2)) ?_;refine wk 12 ?_;refine asp 182 (fun hb13=>?_) fun hb13=>?_
  .
   refine wk 1 ?_;have hw:=hb13;refine wk 4 ?_;refine wk 1 ?_;exact fG
  refine wk 1 ?_;have hw:=hb13;exact fG
 refine wk 1 ?_;have n6:e.kind≠6:=by simpa using hb11
 refine wk 5 ?_;refine asp 187 (fun hb14=>?_) fun hb14=>?_
 .
  refine wk 1 ?_;have ho:e.kind=7:=by simpa using hb14
  have hl1:=dJ hfit ho;obtain⟨y,hy⟩:=Ah (l:=e.kids) (k:=0) Aa;have hym:=List.mem_of_getElem? hy;have hgy:=BM (s:=s) (f:=f) hcl hx.ws y.parts y (Nat.le_refl _) (hk.kidsOk.1 y hym) x.c hx.c;have hx1:PX.good p fuel n {x with c:=(y.ev p cl s f x.ws x.c).2}:=(hx.put hgy.1).1;have hv1:=hgy.2.1;have hv2:=hgy.2.2;refine wk 6 ?_;refine aq 193 (Ae Aj rfl rfl rfl rfl rfl rfl Ab (FH hy) rfl) ?_;refine wk 1 ?_;refine AOps.call 195 rfl rfl rfl (Bv (n:=n) (f:=f) (x:=x) (y:={x with c:=(y.ev p cl s f x.ws x.c).2}) (hE y hym x hx) rfl Tryz.func83 Al rfl rfl rfl ⟨rfl,rfl,rfl,rfl,rfl,rfl,trivial⟩ CN rfl) ?_;refine wk 1 ?_;refine ax 197 (Bs Tryz.func98 (RX _)) ?_;refine wk 3 ?_;rw[jE h0 ho hy];exact RD
 refine wk 1 ?_;have n7:e.kind≠7:=by simpa using hb14
 refine wk 5 ?_;refine asp 198 (fun hb15=>?_) fun hb15=>?_
 .
  refine wk 1 ?_;have ho:e.kind=8:=by simpa using hb15
  have hl2:=dI hfit ho;obtain⟨y,hy⟩:=Ah (l:=e.kids) (k:=0) Aa;have hym:=List.mem_of_getElem? hy;have hgy:=BM (s:=s) (f:=f) hcl hx.ws y.parts y (Nat.le_refl _) (hk.kidsOk.1 y hym) x.c hx.c;have hx1:PX.good p fuel n {x with c:=(y.ev p cl s f x.ws x.c).2}:=(hx.put hgy.1).1;have hv1:=hgy.2.1;have hv2:=hgy.2.2;obtain⟨z,hz⟩:=Ah (l:=e.kids) (k:=1) Aa;have hzm:=List.mem_of_getElem? hz;have hgz:=BM (s:=s) (f:=f) hcl hx.ws z.parts z (Nat.le_refl _) (hk.kidsOk.1 z hzm) (y.ev p cl s f x.ws x.c).2 hgy.1.1;refine wk 7 ?_;refine aq 204 (Ae Aj rfl rfl rfl rfl rfl rfl Ab (FH hy) rfl) ?_;refine wk 1 ?_;refine AOps.call 206 rfl rfl rfl (Bv (n:=n) (f:=f) (x:=x) (y:={x with c:=(y.ev p cl s f x.ws x.c).2}) (hE y hym x hx) rfl Tryz.func83 Al rfl rfl rfl ⟨rfl,rfl,rfl,rfl,rfl,rfl,trivial⟩ CN rfl) ?_;refine wk 2 ?_;refine asp 207 (fun hb16=>?_) fun hb16=>?_
  .
   refine wk 1 ?_;have hw:=hb16;refine wk 5 ?_;rw[O6 h0 (.inl ho) hy hz,ho,hw,show((8:Int)==8)=true from rfl,cond_true,cond_true];exact RD
  refine wk 1 ?_;have hw:=hb16;refine wk 7 ?_;refine aq 212 (Ae Aj rfl rfl rfl rfl rfl rfl Ab (Pg hz) rfl) ?_;refine wk 1 ?_;refine AOps.call 214 rfl rfl rfl (Bv (n:=n) (f:=f) (x:={x with c:=(y.ev p cl s f x.ws x.c).2}) (y:={x with c:=(z.ev p cl s f x.ws (y.ev p cl s f x.ws x.c).2).2}) (hE z hzm {x with c:=(y.ev p cl s f x.ws x.c).2} hx1) rfl Tryz.func83 Al rfl rfl rfl ⟨rfl,rfl,rfl,rfl,rfl,rfl,trivial⟩ CN rfl) ?_;refine wk 3 ?_;rw[O6 h0 (.inl ho) hy hz,ho,hw,show((8:Int)==8)=true from rfl,cond_true,cond_false];exact RD
 refine wk 1 ?_;have n8:e.kind≠8:=by simpa using hb15
 obtain⟨ho,hl2⟩:=dH hfit n1 n2 n3 n4 n5 n6 n7 n8;obtain⟨y,hy⟩:=Ah (l:=e.kids) (k:=0) Aa;have hym:=List.mem_of_getElem? hy;have hgy:=BM (s:=s) (f:=f) hcl hx.ws y.parts y (Nat.le_refl _) (hk.kidsOk.1 y hym) x.c hx.c;have hx1:PX.good p fuel n {x with c:=(y.ev p cl s f x.ws x.c).2}:=(hx.put hgy.1).1;have hv1:=hgy.2.1;have hv2:=hgy.2.2;obtain⟨z,hz⟩:=Ah (l:=e.kids) (k:=1) Aa;have hzm:=List.mem_of_getElem? hz;have hgz:=BM (s:=s) (f:=f) hcl hx.ws z.parts z (Nat.le_refl _) (hk.kidsOk.1 z hzm) (y.ev p cl s f x.ws x.c).2 hgy.1.1;refine wk 7 ?_;refine aq 219 (Ae Aj rfl rfl rfl rfl rfl rfl Ab (FH hy) rfl) ?_;refine wk 1 ?_;refine AOps.call 221 rfl rfl rfl (Bv (n:=n) (f:=f) (x:=x) (y:={x with c:=(y.ev p cl s f x.ws x.c).2}) (hE y hym x hx) rfl Tryz.func83 Al rfl rfl rfl ⟨rfl,rfl,rfl,rfl,rfl,rfl,trivial⟩ CN rfl) ?_;refine wk 8 ?_;refine asp 223 (fun hb17=>?_) fun hb17=>?_
 .
  refine wk 1 ?_;have hw:((y.ev p cl s f x.ws x.c).1==0)=false:=by have h:=hb17;simpa using h
  refine wk 6 ?_;rw[O6 h0 (.inr ho) hy hz,ho,hw,show((9:Int)==8)=false from rfl,cond_false,cond_false];exact RD
 refine wk 1 ?_;have hw:((y.ev p cl s f x.ws x.c).1==0)=true:=by have h:=hb17;simpa using h
 refine wk 7 ?_;refine aq 229 (Ae Aj rfl rfl rfl rfl rfl rfl Ab (Pg hz) rfl) ?_;refine wk 1 ?_;refine AOps.call 231 rfl rfl rfl (Bv (n:=n) (f:=f) (x:={x with c:=(y.ev p cl s f x.ws x.c).2}) (y:={x with c:=(z.ev p cl s f x.ws (y.ev p cl s f x.ws x.c).2).2}) (hE z hzm {x with c:=(y.ev p cl s f x.ws x.c).2} hx1) rfl Tryz.func83 Al rfl rfl rfl ⟨rfl,rfl,rfl,rfl,rfl,rfl,trivial⟩ CN rfl) ?_;refine wk 3 ?_;rw[O6 h0 (.inr ho) hy hz,ho,hw,show((9:Int)==8)=false from rfl,cond_false,cond_true];exact RD
theorem Sl(p:PProg)(s:ByteArray)(fuel:Int)(cl:Ct)(n f:Nat)(w:Bool)(e:PSt)(x:PX)(hp:PSz p)(hfu:fuel<=9223372036854775807)(hs:s.size<=9223372036854775807)(hfit:e.fit p f w)(hk:e.Ok)(hx:x.good p fuel n)(hcl:II p fuel cl)(hG:∀g,p.funcs[f]?=some g->g.names.length=n)
 (hE:∀y∈e.es,∀x,PX.good p fuel n x->Ca Tryz.prog 83 [.ptr 0 1 0 0,.ptr 4 1 0 0,.agg y.row] (ER p s fuel n f x) (.int .u32 (y.ev p cl s f x.ws x.c).1) (BJ (kf 6) hNone (ER p s fuel n f {x with c:=(y.ev p cl s f x.ws x.c).2}))) (hcall:e.kind=6->Ca Tryz.prog 85 [.ptr 0 1 0 0,.ptr 4 1 0 0,.str e.name,(.lst false (e.es.map PE.cells))] (ER p s fuel n f x) (.int .u32 (PE.evC p cl s f x.ws (p.find f e.name).2.toNat e.es [] x.c).1) (BJ (kf 6) hNone (ER p s fuel n f {x with c:=(PE.evC p cl s f x.ws (p.find f e.name).2.toNat e.es [] x.c).2}))) (hT:∀x,PX.good p fuel n x->Ca Tryz.prog 40 [.ptr 0 1 0 0,.ptr 4 1 0 0,(.lst false (e.thn.map PSt.cells))] (ER p s fuel n f x) (.tup []) (BJ (kf 6) hNone (ER p s fuel n f (PSt.runL p cl s fuel f e.thn x)))) (hL:∀x,PX.good p fuel n x->Ca Tryz.prog 40 [.ptr 0 1 0 0,.ptr 4 1 0 0,(.lst false (e.els.map PSt.cells))] (ER p s fuel n f x) (.tup []) (BJ (kf 6) hNone (ER p s fuel n f (PSt.runL p cl s fuel f e.els x)))) (hTg:∀x,PX.good p fuel n x->PX.to p fuel n x (PSt.runL p cl s fuel f e.thn x)):Ca Tryz.prog 63 [.ptr 0 1 0 0,.ptr 4 1 0 0,.agg e.row] (ER p s fuel n f x) (.tup []) (BJ (kf 6) hNone (ER p s fuel n f (e.run p cl s fuel f x))):=by
 refine ACall.of_body (n:=251) Aj Tryz.func63 rfl rfl ?_;refine wk 2 ?_;refine ax 5 (Ek 5 6) ?_;refine wk 12 ?_;refine asp 18 (fun hb1=>?_) fun hb1=>?_
 .
  refine wk 1 ?_;have ho:e.kind=1:=by simpa using hb1
  obtain⟨hvr,hl1⟩:=TP hfit ho;obtain⟨y,hy⟩:=Ah (l:=e.es) (k:=0) Aa;have hym:=List.mem_of_getElem? hy;have hgy:=BM (s:=s) (f:=f) hcl hx.ws y.parts y (Nat.le_refl _) (hk.esOk.1 y hym) x.c hx.c;have hx1:PX.good p fuel n {x with c:=(y.ev p cl s f x.ws x.c).2}:=(hx.put hgy.1).1;have hv1:=hgy.2.1;have hv2:=hgy.2.2;refine wk 6 ?_;refine aq 24 (Ae Aj rfl rfl rfl rfl rfl rfl Ab (FH hy) rfl) ?_;refine wk 1 ?_;refine AOps.call 26 rfl rfl rfl (Bv (n:=n) (f:=f) (x:=x) (y:={x with c:=(y.ev p cl s f x.ws x.c).2}) (hE y hym x hx) rfl Tryz.func83 Al rfl rfl rfl ⟨rfl,rfl,rfl,rfl,rfl,rfl,trivial⟩ CN rfl) ?_;refine wk 11 ?_;refine asp 31 (fun hb2=>?_) fun hb2=>?_
  .
   refine wk 1 ?_;have hf:=hb2;refine wk 1 ?_;rw[dG ho hy,H8 hf,cond_false];exact OH
  refine wk 1 ?_;have hf:=hb2;refine wk 13 ?_;refine dx 43 (Bs Tryz.func62 (DV p f e.name hp.v hp.a hp.n200 hp.fn)) ?_;refine wk 11 ?_;refine asp 47 (fun hb3=>?_) fun hb3=>?_
  .
   refine wk 1 ?_;have hone:=hb3;obtain⟨g,hg,ho0,ho1⟩:=(BQ p f e.name).1 (beq_iff_eq.1 hb3);have hgn:=hG g hg;have hown:0<=(p.find f e.name).2/\(p.find f e.name).2<x.ws.length:=by rw[hx.len];omega
   refine wk 7 ?_;refine aq 54 (Ap Aj (hm:=Tv) (h0:=hown.1) (hn:=(by have:=hown.2;have:=hx.len;omega))) ?_;refine AOps.w rfl rfl (BA Aj rfl rfl rfl rfl rfl rfl Tv (CH hown) rfl Ab rfl Gc) ?_;refine wk 1 ?_;rw[dG ho hy,BU hf,hone,cond_true,cond_true];exact⟨[],trivial,rfl,Df ⟨rfl,rfl,rfl,rfl,rfl,(congrArg (fun es=>some (rt 1 es)) (Gu _ _ _)),trivial⟩ CN⟩
  refine wk 1 ?_;have hnv:=hb3;have hvar:0<=(p.find f e.name).2/\(p.find f e.name).2<(y.ev p cl s f x.ws x.c).2.m.words.length:=by rw[hgy.1.1.vl];exact(BQ p f e.name).2.1 ((TP hfit ho).1.resolve_left (by simpa using hnv))
  refine wk 7 ?_;refine aq 61 (Ap Aj (hm:=(by rw[AR,hgy.1.1.vl])) (h0:=hvar.1) (hn:=(by have:=hvar.2;have:=hgy.1.1.vl;omega))) ?_;refine AOps.w rfl rfl (BA Aj rfl rfl rfl rfl rfl rfl (by rw[AR,hgy.1.1.vl]) (CH hvar) rfl Ab rfl Gc) ?_;refine wk 1 ?_;rw[dG ho hy,BU hf,hnv,cond_true,cond_false];exact⟨[],trivial,rfl,Df ⟨rfl,(congrArg (fun es=>some (rt 1 es)) (Gu _ _ _)),rfl,rfl,rfl,rfl,trivial⟩ CN⟩
 refine wk 1 ?_;have n1:e.kind≠1:=by simpa using hb1
 refine wk 5 ?_;refine asp 62 (fun hb4=>?_) fun hb4=>?_
 .
  refine wk 1 ?_;have ho:e.kind=2:=by simpa using hb4
  obtain⟨hf3,hl2⟩:=Zl hfit ho;have hs3:=(BQ p f e.name).2.2.1 hf3;obtain⟨A,hA⟩:=Ah (l:=p.arrays) (k:=(p.find f e.name).2.toNat) Aa;obtain⟨y,hy⟩:=Ah (l:=e.es) (k:=0) Aa;have hym:=List.mem_of_getElem? hy;have hgy:=BM (s:=s) (f:=f) hcl hx.ws y.parts y (Nat.le_refl _) (hk.esOk.1 y hym) x.c hx.c;have hx1:PX.good p fuel n {x with c:=(y.ev p cl s f x.ws x.c).2}:=(hx.put hgy.1).1;have hv1:=hgy.2.1;have hv2:=hgy.2.2;obtain⟨z,hz⟩:=Ah (l:=e.es) (k:=1) Aa;have hzm:=List.mem_of_getElem? hz;have hgz:=BM (s:=s) (f:=f) hcl hx.ws z.parts z (Nat.le_refl _) (hk.esOk.1 z hzm) (y.ev p cl s f x.ws x.c).2 hgy.1.1;have hAz:=hp.arr A (List.mem_of_getElem? hA);have haz:(((z.ev p cl s f x.ws (y.ev p cl s f x.ws x.c).2).2.arr (p.find f e.name).2).length:Int)=A.2:=by have:=hgz.1.1.az (p.find f e.name).2.toNat A hA;rwa[show(((p.find f e.name).2.toNat:Nat):Int)=(p.find f e.name).2 by omega]at this
  have hal:(p.find f e.name).2<(z.ev p cl s f x.ws (y.ev p cl s f x.ws x.c).2).2.arrs.length:=by rw[hgz.1.1.al];exact hs3.2
  refine wk 12 ?_;refine dx 75 (Bs Tryz.func62 (DV p f e.name hp.v hp.a hp.n200 hp.fn)) ?_;refine wk 12 ?_;refine aq 82 (Ae Aj rfl rfl rfl rfl rfl rfl Ab (FH hy) rfl) ?_;refine wk 1 ?_;refine AOps.call 84 rfl rfl rfl (Bv (n:=n) (f:=f) (x:=x) (y:={x with c:=(y.ev p cl s f x.ws x.c).2}) (hE y hym x hx) rfl Tryz.func83 Al rfl rfl rfl ⟨rfl,rfl,rfl,rfl,rfl,rfl,trivial⟩ CN rfl) ?_;refine wk 8 ?_;refine aq 89 (Ae Aj rfl rfl rfl rfl rfl rfl Ab (Pg hz) rfl) ?_;refine wk 1 ?_;refine AOps.call 91 rfl rfl rfl (Bv (n:=n) (f:=f) (x:={x with c:=(y.ev p cl s f x.ws x.c).2}) (y:={x with c:=(z.ev p cl s f x.ws (y.ev p cl s f x.ws x.c).2).2}) (hE z hzm {x with c:=(y.ev p cl s f x.ws x.c).2} hx1) rfl Tryz.func83 Al rfl rfl rfl ⟨rfl,rfl,rfl,rfl,rfl,rfl,trivial⟩ CN rfl) ?_;refine wk 11 ?_;refine asp 96 (fun hb5=>?_) fun hb5=>?_
  .
   refine wk 1 ?_;have hf:=hb5;refine wk 1 ?_;rw[dF ho hy hz,H8 hf,cond_false];exact OH
  refine wk 1 ?_;have hf:=hb5;refine wk 5 ?_;refine aq 98 (Co Aj rfl rfl rfl rfl rfl (r:=(y.ev p cl s f x.ws x.c).1) PO) ?_;refine wk 5 ?_;refine aq 104 (Ap Aj rfl rfl rfl rfl rfl rfl rfl (Cw p).symm rfl hs3.1 hs3.2) ?_;refine aq 105 (BE Aj rfl rfl rfl (.ptr _ _ _ _ _ _ _ _ rfl (Cw p).symm (HS hA)) rfl) ?_;refine wk 1 ?_;refine aq 107 (Co Aj rfl rfl rfl rfl rfl (r:=(A.2.toNat:Int)) PO) ?_;refine wk 2 ?_;refine asp 108 (fun hb6=>?_) fun hb6=>?_
  .
   refine wk 1 ?_;have hz3:decide (((y.ev p cl s f x.ws x.c)).1>=(((z.ev p cl s f x.ws (y.ev p cl s f x.ws x.c).2).2.arr (p.find f e.name).2).length:Int))=true:=by have h:=of_decide_eq_true hb6;exact decide_eq_true Aa
   refine wk 5 ?_;refine wk 1 ?_;refine wk 2 ?_;rw[dF ho hy hz,BU hf,hz3,cond_true,cond_true];exact OH
  refine wk 1 ?_;have hz3:decide (((y.ev p cl s f x.ws x.c)).1>=(((z.ev p cl s f x.ws (y.ev p cl s f x.ws x.c).2).2.arr (p.find f e.name).2).length:Int))=false:=by have h:=of_decide_eq_false hb6;exact decide_eq_false Aa
  have hz4:=of_decide_eq_false hz3;refine wk 7 ?_;refine aq 117 (Ap Aj rfl rfl rfl rfl rfl rfl rfl (Cw p).symm rfl hs3.1 hs3.2) ?_;refine aq 118 (BE Aj rfl rfl rfl (.ptr _ _ _ _ _ _ _ _ rfl (Cw p).symm (HS hA)) rfl) ?_;refine wk 2 ?_;refine aq 121 (Ap Aj rfl rfl rfl rfl rfl rfl ((FV _ _ _ _ _).trans (congrArg some (Lh (c:=(z.ev p cl s f x.ws (y.ev p cl s f x.ws x.c).2).2) hs3.1 hal))) (by rw[AR];omega) rfl hv1 Aa) ?_;refine AOps.w rfl rfl (BA Aj rfl rfl rfl rfl rfl ((FV _ _ _ _ _).trans (congrArg some (Lh (c:=(z.ev p cl s f x.ws (y.ev p cl s f x.ws x.c).2).2) hs3.1 hal))) (by rw[AR];omega) (CH Aa) rfl Ab rfl Gc) ?_;refine wk 1 ?_;rw[dF ho hy hz,BU hf,hz3,cond_true,cond_false];exact⟨[],trivial,rfl,Df ⟨rfl,rfl,rfl,rfl,rfl,rfl,trivial⟩ (fun x_=>by(try simp only[AB]);exact(Ph (fun y_=>by first|exact FV _ _ _ _ _|exact Ax _ _ _) _ _ x_).trans (congrArg some (Yv (c:=(z.ev p cl s f x.ws (y.ev p cl s f x.ws x.c).2).2) hs3.1 hal (y.ev p cl s f x.ws x.c).1 (z.ev p cl s f x.ws (y.ev p cl s f x.ws x.c).2).1 x_)))⟩
 refine wk 1 ?_;have n2:e.kind≠2:=by simpa using hb4
 refine wk 5 ?_;refine asp 122 (fun hb7=>?_) fun hb7=>?_
 .
  refine wk 1 ?_;have ho:e.kind=3:=by simpa using hb7
  have hl1:=J1 hfit (.inl ho);obtain⟨y,hy⟩:=Ah (l:=e.es) (k:=0) Aa;have hym:=List.mem_of_getElem? hy;have hgy:=BM (s:=s) (f:=f) hcl hx.ws y.parts y (Nat.le_refl _) (hk.esOk.1 y hym) x.c hx.c;have hx1:PX.good p fuel n {x with c:=(y.ev p cl s f x.ws x.c).2}:=(hx.put hgy.1).1;have hv1:=hgy.2.1;have hv2:=hgy.2.2;refine wk 6 ?_;refine aq 128 (Ae Aj rfl rfl rfl rfl rfl rfl Ab (FH hy) rfl) ?_;refine wk 1 ?_;refine AOps.call 130 rfl rfl rfl (Bv (n:=n) (f:=f) (x:=x) (y:={x with c:=(y.ev p cl s f x.ws x.c).2}) (hE y hym x hx) rfl Tryz.func83 Al rfl rfl rfl ⟨rfl,rfl,rfl,rfl,rfl,rfl,trivial⟩ CN rfl) ?_;refine wk 11 ?_;refine asp 135 (fun hb8=>?_) fun hb8=>?_
  .
   refine wk 1 ?_;have hf:=hb8;refine wk 1 ?_;rw[dE ho hy,H8 hf,cond_false];exact OH
  refine wk 1 ?_;have hf:=hb8;refine wk 11 ?_;refine asp 141 (fun hb9=>?_) fun hb9=>?_
  .
   refine wk 1 ?_;have hou:decide ((y.ev p cl s f x.ws x.c).2.m.out.length>=65536)=true:=by have h9:(((y.ev p cl s f x.ws x.c).2.m.out.length:Nat):Int)>=65536:=of_decide_eq_true hb9;exact decide_eq_true Aa
   refine wk 5 ?_;refine wk 1 ?_;refine wk 2 ?_;rw[dE ho hy,BU hf,hou,cond_true,cond_true];exact OH
  refine wk 1 ?_;have hou:decide ((y.ev p cl s f x.ws x.c).2.m.out.length>=65536)=false:=by have h9:¬(((y.ev p cl s f x.ws x.c).2.m.out.length:Nat):Int)>=65536:=of_decide_eq_false hb9;exact decide_eq_false Aa
  have hou2:=hgy.1.1.out;refine wk 8 ?_;refine aq 151 (Co Aj rfl rfl rfl rfl rfl (Nq hgy.2)) ?_;refine ax 152 EI ?_;refine ax 153 (Ba Aj (n:=(y.ev p cl s f x.ws x.c).2.m.out.length) (m:=1) rfl rfl rfl rfl rfl rfl rfl rfl rfl (by simp[AC]) rfl rfl (Nat.zero_lt_succ _) (.lst _ _) GK Hp rfl (by simp[AC,partVals];have:=hgy.1.1.out;omega) (by simp[AC,partVals];simp only[maxLen];have:=hgy.1.1.out;omega)) ?_;refine wk 2 ?_;refine wk 1 ?_;refine wk 1 ?_;rw[dE ho hy,BU hf,hou,cond_true,cond_false];exact⟨[],trivial,rfl,Df ⟨(by first|rfl|exact congrArg (fun n=>some (rf 11 [[.lst false (p.vars.map D6),.lst false (p.arrays.map Rr),.lst false (p.funcs.map PFn.cells),.str s,.int .i64 fuel,.ref 1 p.vars.length 0 p.vars.length,.ref 2 p.arrays.length 0 p.arrays.length,.ref 3 n 0 n,.int .i64 ((y.ev p cl s f x.ws x.c).2.m.read:Int),.int .i64 ((y.ev p cl s f x.ws x.c).2.m.steps:Int),.int .i64 (y.ev p cl s f x.ws x.c).2.m.fin]])) (by simp[PM.put])),rfl,rfl,(by first|rfl|exact congrArg (fun es=>some (rt 1 es)) (by simp[AC,partVals,PM.put];rfl)),rfl,rfl,trivial⟩ CN⟩
 refine wk 1 ?_;have n3:e.kind≠3:=by simpa using hb7
 refine wk 5 ?_;refine asp 156 (fun hb10=>?_) fun hb10=>?_
 .
  refine wk 1 ?_;have ho:e.kind=4:=by simpa using hb10
  have hl1:=J1 hfit (.inr (.inl ho));obtain⟨y,hy⟩:=Ah (l:=e.es) (k:=0) Aa;have hym:=List.mem_of_getElem? hy;have hgy:=BM (s:=s) (f:=f) hcl hx.ws y.parts y (Nat.le_refl _) (hk.esOk.1 y hym) x.c hx.c;have hx1:PX.good p fuel n {x with c:=(y.ev p cl s f x.ws x.c).2}:=(hx.put hgy.1).1;have hv1:=hgy.2.1;have hv2:=hgy.2.2;refine wk 6 ?_;refine aq 162 (Ae Aj rfl rfl rfl rfl rfl rfl Ab (FH hy) rfl) ?_;refine wk 1 ?_;refine AOps.call 164 rfl rfl rfl (Bv (n:=n) (f:=f) (x:=x) (y:={x with c:=(y.ev p cl s f x.ws x.c).2}) (hE y hym x hx) rfl Tryz.func83 Al rfl rfl rfl ⟨rfl,rfl,rfl,rfl,rfl,rfl,trivial⟩ CN rfl) ?_;refine wk 7 ?_;refine asp 166 (fun hb11=>?_) fun hb11=>?_
  .
   refine wk 1 ?_;have hw:=gn hb11;refine wk 5 ?_;refine AOps.call 171 rfl rfl rfl (Bv (n:=n) (f:=f) (x:={x with c:=(y.ev p cl s f x.ws x.c).2}) (y:=(PSt.runL p cl s fuel f e.thn {x with c:=(y.ev p cl s f x.ws x.c).2})) (hT {x with c:=(y.ev p cl s f x.ws x.c).2} hx1) rfl Tryz.func40 Al rfl rfl rfl ⟨rfl,rfl,rfl,rfl,rfl,rfl,trivial⟩ CN rfl) ?_;refine wk 1 ?_;rw[jD ho hy,hw,cond_false];exact OH
  refine wk 1 ?_;have hw:=gp hb11;refine wk 5 ?_;refine AOps.call 176 rfl rfl rfl (Bv (n:=n) (f:=f) (x:={x with c:=(y.ev p cl s f x.ws x.c).2}) (y:=(PSt.runL p cl s fuel f e.els {x with c:=(y.ev p cl s f x.ws x.c).2})) (hL {x with c:=(y.ev p cl s f x.ws x.c).2} hx1) rfl Tryz.func40 Al rfl rfl rfl ⟨rfl,rfl,rfl,rfl,rfl,rfl,trivial⟩ CN rfl) ?_;refine wk 1 ?_;rw[jD ho hy,hw,cond_true];exact OH
 refine wk 1 ?_;have n4:e.kind≠4:=by simpa using hb10
 refine wk 5 ?_;refine asp 177 (fun hb12=>?_) fun hb12=>?_
 .
  refine wk 1 ?_;have ho:e.kind=5:=by simpa using hb12
  have hl1:=J1 hfit (.inr (.inr ho));obtain⟨y,hy⟩:=Ah (l:=e.es) (k:=0) Aa;have hym:=List.mem_of_getElem? hy;refine wk 3 ?_;refine AOps.call 180 rfl rfl rfl (Ma (c:=x.c) (d:=(x.c.tick fuel)) (L1 p s fuel x.c hfu) rfl Tryz.func84 Al rfl rfl rfl ⟨rfl,rfl,rfl,rfl,trivial⟩ CN rfl) ?_;refine wk 2 ?_;refine CV (γ:=Nat×PX) (fun q=>⟨251,(Ad (Ad (Ad AM 0 (pZ 0)) 1 (pZ 4)) 5 (pZ 6)),(Ar (BJ (kf 6) hNone (ER p s fuel n f q.2)) 6 (rf 5 [e.row]))⟩) (fun q=>PWhI p fuel n (fun x=>PX.ev p cl s f e.es x) (fun x=>PSt.runL p cl s fuel f e.thn x) (DA fuel (fun x=>PX.ev p cl s f e.es x) (fun x=>PSt.runL p cl s fuel f e.thn x) (fuel.toNat+1) (x.tick fuel)) q) (fun q=>q.1) (fuel.toNat+1,x.tick fuel) (Sub.mk' AT (HSub.put (Df ⟨rfl,rfl,rfl,rfl,rfl,rfl,trivial⟩ CN) rfl)) (PWhI.first hx) ?_;intro q hI;refine wk 9 ?_;refine BC 186 (fun hb13=>?_) fun hb13=>?_
  .
   refine wk 7 ?_;refine BC 193 (fun hb14=>?_) fun hb14=>?_
   .
    refine wk 4 ?_;refine aq 198 (Ae Aj rfl rfl rfl rfl rfl rfl Ab (FH hy) rfl) ?_;refine wk 1 ?_;refine AOps.call 200 rfl rfl rfl (Bv (n:=n) (f:=f) (x:=q.2) (y:=({q.2 with c:=(y.ev p cl s f q.2.ws q.2.c).2}:PX)) (hE y hym q.2 hI.good) rfl Tryz.func83 Al rfl rfl rfl ⟨rfl,rfl,rfl,rfl,rfl,rfl,trivial⟩ CN rfl) ?_;refine wk 3 ?_;refine asp 202 (fun hb15=>?_) fun hb15=>?_
    .
     refine wk 1 ?_;have hvz:((y.ev p cl s f q.2.ws q.2.c).1 !=0)=true:=hb15;have hgq:=BM (s:=s) (f:=f) hcl hI.good.ws y.parts y (Nat.le_refl _) (hk.esOk.1 y hym) q.2.c hI.good.c;have hq1:PX.good p fuel n ({q.2 with c:=(y.ev p cl s f q.2.ws q.2.c).2}:PX):=(hI.good.put hgq.1).1;have hnx:=hI.next CO CO (by show((PX.ev p cl s f e.es q.2).1 !=0)=true;rw[ET hy];exact hvz) (by show PM.to p fuel q.2.c (PX.ev p cl s f e.es q.2).2;rw[ET hy];exact hgq.1) (hTg _ (by show PX.good p fuel n {q.2 with c:=(PX.ev p cl s f e.es q.2).2};rw[ET hy];exact hq1)) (fun y hy=>J2 _ hy);have hev:PX.ev p cl s f e.es q.2=(y.ev p cl s f q.2.ws q.2.c):=ET hy;dsimp only at hnx;rw[hev]at hnx;refine wk 8 ?_;refine AOps.call 207 rfl rfl rfl (Bv (n:=n) (f:=f) (x:=({q.2 with c:=(y.ev p cl s f q.2.ws q.2.c).2}:PX)) (y:=(PSt.runL p cl s fuel f e.thn ({q.2 with c:=(y.ev p cl s f q.2.ws q.2.c).2}:PX))) (hT ({q.2 with c:=(y.ev p cl s f q.2.ws q.2.c).2}:PX) hq1) rfl Tryz.func40 Al rfl rfl rfl ⟨rfl,rfl,rfl,rfl,rfl,rfl,trivial⟩ CN rfl) ?_;refine wk 9 ?_;refine BC 213 (fun hb16=>?_) fun hb16=>?_
     .
      refine wk 7 ?_;refine AK (γ:=Unit) (fun _u=>⟨251,(Ad (Ad (Ad AM 0 (pZ 0)) 1 (pZ 4)) 5 (pZ 6)),(Ar (BJ (kf 6) hNone (ER p s fuel n f (bif (PSt.runL p cl s fuel f e.thn ({q.2 with c:=(y.ev p cl s f q.2.ws q.2.c).2}:PX)).on then(PSt.runL p cl s fuel f e.thn ({q.2 with c:=(y.ev p cl s f q.2.ws q.2.c).2}:PX)).tick fuel else(PSt.runL p cl s fuel f e.thn ({q.2 with c:=(y.ev p cl s f q.2.ws q.2.c).2}:PX))))) 6 (rf 5 [e.row]))⟩) (fun _u=>True) ?_ ?_
      .
       refine asp 219 (fun hb17=>?_) fun hb17=>?_
       .
        refine wk 1 ?_;have hon:(PSt.runL p cl s fuel f e.thn ({q.2 with c:=(y.ev p cl s f q.2.ws q.2.c).2}:PX)).on=true:=by rw[Hg,show((PSt.runL p cl s fuel f e.thn ({q.2 with c:=(y.ev p cl s f q.2.ws q.2.c).2}:PX)).c.m.fin==0)=true by assumption,show(!(PSt.runL p cl s fuel f e.thn ({q.2 with c:=(y.ev p cl s f q.2.ws q.2.c).2}:PX)).back)=true from hb17];rfl
        refine wk 2 ?_;refine AOps.call 221 rfl rfl rfl (Ma (c:=(PSt.runL p cl s fuel f e.thn ({q.2 with c:=(y.ev p cl s f q.2.ws q.2.c).2}:PX)).c) (d:=((PSt.runL p cl s fuel f e.thn ({q.2 with c:=(y.ev p cl s f q.2.ws q.2.c).2}:PX)).c.tick fuel)) (L1 p s fuel (PSt.runL p cl s fuel f e.thn ({q.2 with c:=(y.ev p cl s f q.2.ws q.2.c).2}:PX)).c hfu) rfl Tryz.func84 Al rfl rfl rfl ⟨rfl,rfl,rfl,rfl,trivial⟩ CN rfl) ?_;exact cG
       refine wk 1 ?_;have hon:(PSt.runL p cl s fuel f e.thn ({q.2 with c:=(y.ev p cl s f q.2.ws q.2.c).2}:PX)).on=false:=by first|(rw[Hg,show((PSt.runL p cl s fuel f e.thn ({q.2 with c:=(y.ev p cl s f q.2.ws q.2.c).2}:PX)).c.m.fin==0)=false from hb17];rfl)|(rw[Hg,show(!(PSt.runL p cl s fuel f e.thn ({q.2 with c:=(y.ev p cl s f q.2.ws q.2.c).2}:PX)).back)=false from hb17,Bool.and_false])
       exact cG
      intro _u _;exact fy
     refine wk 7 ?_;refine AK (γ:=Unit) (fun _u=>⟨251,(Ad (Ad (Ad AM 0 (pZ 0)) 1 (pZ 4)) 5 (pZ 6)),(Ar (BJ (kf 6) hNone (ER p s fuel n f (bif (PSt.runL p cl s fuel f e.thn ({q.2 with c:=(y.ev p cl s f q.2.ws q.2.c).2}:PX)).on then(PSt.runL p cl s fuel f e.thn ({q.2 with c:=(y.ev p cl s f q.2.ws q.2.c).2}:PX)).tick fuel else(PSt.runL p cl s fuel f e.thn ({q.2 with c:=(y.ev p cl s f q.2.ws q.2.c).2}:PX))))) 6 (rf 5 [e.row]))⟩) (fun _u=>True) ?_ ?_
     .
      refine wk 1 ?_;have hon:(PSt.runL p cl s fuel f e.thn ({q.2 with c:=(y.ev p cl s f q.2.ws q.2.c).2}:PX)).on=false:=by first|(rw[Hg,show((PSt.runL p cl s fuel f e.thn ({q.2 with c:=(y.ev p cl s f q.2.ws q.2.c).2}:PX)).c.m.fin==0)=false from hb16];rfl)|(rw[Hg,show(!(PSt.runL p cl s fuel f e.thn ({q.2 with c:=(y.ev p cl s f q.2.ws q.2.c).2}:PX)).back)=false from hb16,Bool.and_false])
      exact cG
     intro _u _;exact fy
    refine wk 1 ?_;have hzz:=hb15;exact cP
   refine wk 11 ?_;have hzz:=hb14;exact cP
  refine wk 18 ?_;have hzz:=hb13;exact cP
 refine wk 1 ?_;have n5:e.kind≠5:=by simpa using hb12
 refine wk 5 ?_;refine asp 222 (fun hb18=>?_) fun hb18=>?_
 .
  refine wk 1 ?_;have ho:e.kind=6:=by simpa using hb18
  refine wk 7 ?_;refine AOps.call 230 rfl rfl rfl (Bv (n:=n) (f:=f) (x:=x) (y:={x with c:=(PE.evC p cl s f x.ws (p.find f e.name).2.toNat e.es [] x.c).2}) (hcall ho) rfl Tryz.func85 Al rfl rfl rfl ⟨rfl,rfl,rfl,rfl,rfl,rfl,trivial⟩ CN rfl) ?_;refine wk 1 ?_;rw[mB ho];exact OH
 refine wk 1 ?_;have n6:e.kind≠6:=by simpa using hb18
 refine wk 5 ?_;refine asp 231 (fun hb19=>?_) fun hb19=>?_
 .
  refine wk 1 ?_;have ho:e.kind=7:=by simpa using hb19
  refine wk 12 ?_;refine asp 236 (fun hb20=>?_) fun hb20=>?_
  .
   refine wk 1 ?_;obtain⟨y,hy⟩:=Ah (l:=e.es) (k:=0) (by have h:=hb20;simp at h;first|exact h|exact List.length_pos_iff.2 h);have hym:=List.mem_of_getElem? hy;have hgy:=BM (s:=s) (f:=f) hcl hx.ws y.parts y (Nat.le_refl _) (hk.esOk.1 y hym) x.c hx.c;have hx1:PX.good p fuel n {x with c:=(y.ev p cl s f x.ws x.c).2}:=(hx.put hgy.1).1;have hv1:=hgy.2.1;have hv2:=hgy.2.2;refine wk 5 ?_;refine aq 241 (Ae Aj rfl rfl rfl rfl rfl rfl Ab (FH hy) rfl) ?_;refine wk 1 ?_;refine AOps.call 243 rfl rfl rfl (Bv (n:=n) (f:=f) (x:=x) (y:={x with c:=(y.ev p cl s f x.ws x.c).2}) (hE y hym x hx) rfl Tryz.func83 Al rfl rfl rfl ⟨rfl,rfl,rfl,rfl,rfl,rfl,trivial⟩ CN rfl) ?_;refine wk 8 ?_;exact fz
  refine wk 1 ?_;have hn0:e.es.length=0:=by have h:=hb20;simp at h;simp[h]
  refine wk 7 ?_;exact fz
 refine wk 1 ?_;have n7:e.kind≠7:=by simpa using hb19
 refine wk 1 ?_;exact absurd (Zj hfit n1 n2 n3 n4 n5 n6) n7
theorem Pc(x:Nat):Pd (x+16)=true:=by unfold Pd;rw[show Nat.ble 16 (x+16)=true by rw[Nat.ble_eq];omega];simp
theorem WZ(h:Ag)(L:List AObj)(F:Nat->AObj)(x:Nat):BJ Pd h (Gj (nb L) F) (x+16)=some (F x):=by rw[EJ (Pc _),Ax]
theorem Tr{P:Program}{f:FuncId}{x0 x1:AV}{b sz:Nat}{h:Ag}{R:AV->Ag->Prop}(hb:h b=some .free)(hsz:0<sz)(hc:ACall P f [x0,x1,.ref b 0 0 0] (Ar h b (.row true sz [])) R):ACall P f [x0,x1,.nil] h R:=fun H ι w vs hx hr=>by
 obtain⟨u1,u2⟩:=hr.dry hb true hsz;refine(hc H _ w vs ⟨hx.1,fun j x v h1 h2=>?_⟩ u1).mono fun en w' hh=>?_
 . match j,h1 with
   |0,h1=>exact(hx.2 0 x v h1 h2).mono (KLe.refl _) u2.lle
   |1,h1=>exact(hx.2 1 x v h1 h2).mono (KLe.refl _) u2.lle
   |2,h1=>
    cases h1
    exact Pm (x:=.nil) rfl ((hx.2 2 .nil v rfl h2).mono (KLe.refl _) u2.lle) (Bw _ _ _) rfl rfl
 . obtain⟨v,r,h',H',ι',e1,e2,e3,e4,e5⟩:=hh;exact⟨v,r,h',H',ι',e1,e2,e3,e4,u2.trans hr u1 e5⟩
section
variable {p : PProg} {s : ByteArray} {fuel : Int} {c d : PM} {ws us : List Int} {h : Ag}
abbrev mE(p:PProg)(s:ByteArray)(fuel:Int)(c:PM):List AObj:=[.row false 11 [V0 p s fuel c],.row true 1 (Au c.m.words),.row false 1 (C4 p),.row true 1 (AC c.m.out),.free,.free]
abbrev VD(p:PProg)(s:ByteArray)(fuel:Int)(c:PM):Ag:=Gj (nb (mE p s fuel c)) (D7 c)
theorem eL:Ar (VD p s fuel c) 5 (.row true 1 [])=I4 p s fuel c []:=funext fun b=>by
 by_cases h:16<=b
 . obtain⟨x,rfl⟩:∃x,b=x+16:=⟨b-16,by omega⟩
   rw[Bb _ _ Aa];exact(Ax _ _ _).trans (Ax _ _ _).symm
 . rcases QT (by omega:b<16)with rfl|rfl|rfl|rfl|rfl|rfl|rfl|rfl|rfl|rfl|rfl|rfl|rfl|rfl|rfl|rfl<;>rfl
theorem Yk{P:Program}{g:FuncId}{x0 x1:AV}{R:AV->Ag->Prop}(hc:ACall P g [x0,x1,Fw 5 0] (I4 p s fuel c []) R):ACall P g [x0,x1,.nil] (VD p s fuel c) R:=by
 rw[<-eL]at hc;exact Tr rfl Ab hc
theorem Th:∀o∈ai p s fuel c ws,o.avoid Pd=true:=fun o ho=>by
 simp only[ai,List.mem_cons,List.not_mem_nil,or_false]at ho;rcases ho with rfl|rfl|rfl|rfl|rfl|rfl<;>first|rfl|exact D0 p Pc
theorem VH:∀o∈mE p s fuel c,o.avoid Pd=true:=fun o ho=>by
 simp only[mE,List.mem_cons,List.not_mem_nil,or_false]at ho;rcases ho with rfl|rfl|rfl|rfl|rfl|rfl<;>first|rfl|exact D0 p Pc
theorem kh(r0:h 0=some (.row false 11 [V0 p s fuel c]))(r1:h 1=some (.row true 1 (Au c.m.words)))(r2:h 2=some (.row false 1 (C4 p)))(r3:h 3=some (.row true 1 (AC c.m.out)))(r5:h 5=some .free)(hF:∀x,h (x+16)=some (D7 c x))(b:Nat)(hb:Pd b=true):h b=VD p s fuel c b:=by
 exact fe
theorem av(b:Nat)(hb:Pd b=false):VD p s fuel c b=some .free:=by
 by_cases h16:16<=b
 . obtain⟨x,rfl⟩:∃x,b=x+16:=⟨b-16,by omega⟩
   rw[Pc]at hb;cases hb
 . rcases QT (by omega:b<16)with rfl|rfl|rfl|rfl|rfl|rfl|rfl|rfl|rfl|rfl|rfl|rfl|rfl|rfl|rfl|rfl<;>first|rfl|cases hb
theorem Xf{P:Program}{o:Oper}{e:AN}{g:FuncId}{fn:Func}{args:Array Operand}{tys:Array TypeId}{xs:List AV}{r:AV}(hcall:ACall P g xs (VD p s fuel c) (fun r' h'=>r'=r/\HSub (BJ Pd hNone (I4 p s fuel d us)) h'))
 (ho:o.op=.call {callee:=.value (.func g),args:=args,argTypes:=tys}) (hf:P.funcs[g]?=some fn) (hn:(fn.name== "runtime.NumGoroutine")=false) (hb:fn.body.isSome=true) (hx:Bo e args.toList=some xs) (hxa:xs.all (AV.avoid Pd)=true)
 (r0:h 0=some (.row false 11 [V0 p s fuel c])) (r1:h 1=some (.row true 1 (Au c.m.words))) (r2:h 2=some (.row false 1 (C4 p))) (r3:h 3=some (.row true 1 (AC c.m.out))) (r5:h 5=some .free) (hF:∀x,h (x+16)=some (D7 c x)) (hra:r.avoid Pd=true):HT P o e h (BJ Pd h (I4 p s fuel d us)) r:=
 Mb (W:=VD p s fuel c) (W':=I4 p s fuel d us) Pd ho hf hn hb hx hxa (kh r0 r1 r2 r3 r5 hF) (fun b _=>Fi VH (Dk _ _) b) av (fun b _=>Fi Th (Dk _ _) b) hra hcall
end
theorem Sp{p:PProg}{s:ByteArray}{fuel:Int}{m g:Nat}{args:List Int}{c:PM}{t:Int×PM}(h:(c.m.fin==0)=true)(hT:CQ p s fuel (m+1) g args c=t):PCEnd fuel c t (c.tick fuel):=by
 cases ht:(c.tick fuel).m.fin !=0 with
 |true=>exact .inl ⟨ht,by rw[<-hT,Zn h ht]⟩
 |false=>exact .inr ⟨ht,h,rfl⟩
theorem U0{p:PProg}{s:ByteArray}{fuel:Int}{m g:Nat}{args:List Int}{c:PM}{t:Int×PM}(h:(c.m.fin==0)=false)(hT:CQ p s fuel (m+1) g args c=t):PCEnd fuel c t c:=
 .inl ⟨by simpa using h,by rw[<-hT,W7 h]⟩
theorem PCEnd.over{fuel:Int}{c d:PM}{t:Int×PM}(h:PCEnd fuel c t d)(hd:(d.m.fin !=0)=true):t=(0,d):=by
 rcases h with h|h
 . exact h.2
 . rw[h.1]at hd;cases hd
theorem PCEnd.on{fuel:Int}{c d:PM}{t:Int×PM}(h:PCEnd fuel c t d)(hd:(d.m.fin !=0)=false):(c.m.fin==0)=true/\d=c.tick fuel:=by
 rcases h with h|h
 . rw[h.1]at hd;cases hd
 . exact h.2
def zF(p:PProg)(k i:Nat):AObj:=if i<k then .row true 1 (Au (List.replicate ((p.arrays[i]?).getD (⟨#[]⟩,0)).2.toNat 0))else .free
theorem cR(p:PProg):zF p p.arrays.length=D7 p.start:=funext fun i=>by
 unfold zF D7 PProg.start;dsimp only;rw[List.getElem?_map]
 by_cases h:i<p.arrays.length
 . rw[if_pos h,List.getElem?_eq_getElem h];rfl
 . rw[if_neg h,List.getElem?_eq_none Aa];rfl
theorem YP(p:PProg)(i:Nat):zF p 0 i=.free:=rfl
theorem YR(p:PProg)(k:Nat):zF p k k=.free:=by unfold zF;rw[if_neg (Nat.lt_irrefl _)]
theorem YQ{p:PProg}{k:Nat}{a:ByteArray×Int}(hx:p.arrays[k]?=some a)(es:List (List AV))(he:es=Au (List.replicate a.2.toNat 0))(i:Nat):(if i=k then AObj.row true 1 es else zF p k i)=zF p (k+1) i:=by
 unfold zF;subst he
 by_cases h:i=k
 . subst h;rw[if_pos rfl,if_pos Aa,hx];rfl
 . rw[if_neg h]
   by_cases h2:i<k
   . rw[if_pos h2,if_pos Aa]
   . rw[if_neg h2,if_neg Aa]
theorem Wg(p:PProg)(k:Nat)(κ:Nat->Bool)(i:Nat):(zF p k i).avoid κ=true:=by unfold zF;split<;>rfl
theorem Tk{p:PProg}{k:Nat}{a:ByteArray×Int}(hx:p.arrays[k]?=some a):(C4 p).take (k+1)=(C4 p).take k++[[AV.ref (k+16) a.2.toNat 0 a.2.toNat]]:=AZ (by have:=HS (p:=p) (i:=(k:Int)) (a:=a) (by rw[Int.toNat_natCast];exact hx);rw[Nat.zero_add,Int.toNat_natCast]at this;exact this)
theorem Lw{p:PProg}{k:Nat}{κ:Nat->Bool}(hk:∀x,κ (x+16)=true):(AObj.row false 1 ((C4 p).take k)).avoid κ=true:=by
 have h:(C4 p).all (fun cs=>cs.all (AV.avoid κ))=true:=D0 p hk;show((C4 p).take k).all (fun cs=>cs.all (AV.avoid κ))=true;rw[List.all_eq_true]at h|-;exact fun cs hc=>h cs (List.mem_of_mem_take hc)
theorem R4{p:PProg}(hp:PSz p)(fuel:Int):p.start.good p fuel:=by
 refine⟨by show(List.replicate _ (0:Int)).length=_;rw[List.length_replicate],GH _,by show 0<=65536;decide,by show(p.arrays.map _).length=_;rw[List.length_map],fun i x hx=>?_,fun a ha=>?_,Nat.zero_le _⟩
 . show((((p.arrays.map fun a=>List.replicate a.2.toNat (0:Int))[((i:Nat):Int).toNat]?).getD []).length:Int)=x.2;rw[Int.toNat_natCast,List.getElem?_map,hx];have:=(hp.arr x (List.mem_of_getElem? hx)).1;show((List.replicate x.2.toNat (0:Int)).length:Int)=x.2;rw[List.length_replicate];omega
 . obtain⟨b,_,rfl⟩:=List.mem_map.1 ha;exact GH _
theorem KC(p:PProg)(s:ByteArray)(fuel:Int)(cl:Ct)(n f:Nat)(l:List PSt)(x:PX)(hx:x.good p fuel n)(hS:∀st∈l,∀x,PX.good p fuel n x->Ca Tryz.prog 63 [.ptr 0 1 0 0,.ptr 4 1 0 0,.agg st.row] (ER p s fuel n f x) (.tup []) (BJ (kf 6) hNone (ER p s fuel n f (st.run p cl s fuel f x))))(hg:∀st∈l,VW p fuel n cl s f st):Ca Tryz.prog 40 [.ptr 0 1 0 0,.ptr 4 1 0 0,(.lst false (l.map PSt.cells))] (ER p s fuel n f x) (.tup []) (BJ (kf 6) hNone (ER p s fuel n f (PSt.runL p cl s fuel f l x))):=by
 refine ACall.of_body (n:=34) Aj Tryz.func40 rfl rfl ?_;refine wk 1 ?_;refine AGo.slot 2 (φ:=l.length<=maxLen) rfl (fun H ι v h=>by have:=B5 h;simpa using this) fun hlen=>?_
 refine wk 4 ?_;refine CV (γ:=Nat×PX) (fun q=>⟨34,(Ad (Ad (Ad (Ad AM 0 (pZ 0)) 1 (pZ 4)) 2 (.lst false (l.map PSt.cells))) 6 (iN q.1)),(BJ (kf 6) hNone (ER p s fuel n f q.2))⟩) (fun q=>StI p fuel n cl s f l (PSt.runL p cl s fuel f l x) q) (fun q=>l.length-q.1) (0,x) (Sub.mk' AT (Df ⟨rfl,rfl,rfl,rfl,rfl,rfl,trivial⟩ CN)) ⟨hx,rfl,Nat.zero_le _⟩ ?_;intro q hI;refine wk 8 ?_;refine BC 11 (fun hb1=>?_) fun hb1=>?_
 .
  refine wk 7 ?_;refine BC 18 (fun hb2=>?_) fun hb2=>?_
  .
   refine wk 7 ?_;refine asp 24 (fun hb3=>?_) fun hb3=>?_
   .
    refine wk 1 ?_;have hkl:q.1<l.length:=Ao hb1;obtain⟨st,hst⟩:=Ah hkl;have hstm:=List.mem_of_getElem? hst;refine wk 8 ?_;refine aq 31 (Ae Aj rfl rfl rfl rfl rfl rfl (Int.natCast_nonneg _) (CI hst) rfl) ?_;refine wk 1 ?_;refine AOps.call 33 rfl rfl rfl (Bv (n:=n) (f:=f) (x:=q.2) (y:=(st.run p cl s fuel f q.2)) (hS st hstm q.2 hI.good) rfl Tryz.func63 Al rfl rfl rfl ⟨rfl,rfl,rfl,rfl,rfl,rfl,trivial⟩ CN rfl) ?_;refine wk 3 ?_;refine aq 26 (A8 rfl rfl hkl hlen) ?_;refine wk 2 ?_;exact⟨(q.1+1,st.run p cl s fuel f q.2),Sub.mk' AT (Df ⟨rfl,rfl,rfl,rfl,rfl,rfl,trivial⟩ CN),hI.next hst hb2 hb3 (hg st hstm),YX⟩
   refine wk 2 ?_;exact We
  refine wk 9 ?_;exact We
 refine wk 16 ?_;exact We
theorem L6(p:PProg)(s:ByteArray)(fuel:Int)(cl:Ct)(n f:Nat)(G:PFn)(ws:List Int)(c:PM)(hG:p.funcs[f]?=some G)(hl:G.locals.length<=200)(h6:ws.length<=200)(hn:ws.length+G.locals.length=n)(hS:Ca Tryz.prog 40 [.ptr 0 1 0 0,.ptr 4 1 0 0,(.lst false (G.body.map PSt.cells))] (ER p s fuel n f (⟨ws++List.replicate G.locals.length 0,false,0,c⟩:PX)) (.tup []) (BJ (kf 6) hNone (ER p s fuel n f (PSt.runL p cl s fuel f G.body (⟨ws++List.replicate G.locals.length 0,false,0,c⟩:PX))))):Ca Tryz.prog 24 [.ptr 0 1 0 0,.int .i64 (f:Int),Fw 5 ws.length] (I4 p s fuel c ws) (.int .u32 (Dy p cl s fuel f G ws c).val) (BJ Pd hNone (I4 p s fuel (Dy p cl s fuel f G ws c).c (Dy p cl s fuel f G ws c).ws)):=by
 refine ACall.of_body (n:=46) Aj Tryz.func24 rfl rfl ?_;refine wk 10 ?_;refine CV (γ:=Nat) (fun k=>⟨46,(Ad (Ad (Ad (Ad AM 0 (pZ 0)) 1 (iN f)) 2 (Fw 5 (ws.length+k))) 7 (iN k)),(Ar (BJ Pd hNone (I4 p s fuel c (ws++List.replicate k 0))) 4 .free)⟩) (fun k=>k<=G.locals.length) (fun k=>G.locals.length-k) 0 (Sub.mk' AT (HSub.put (Yt rfl rfl rfl rfl (by rw[List.replicate_zero,List.append_nil];rfl) KX) rfl)) (Nat.zero_le _) ?_;intro k hk;refine wk 10 ?_;refine aq 16 (GI Aj (AU hG)) ?_;refine wk 5 ?_;refine asp 20 (fun hb1=>?_) fun hb1=>?_
 .
  refine wk 1 ?_;have hkl:k<G.locals.length:=Ao hb1;refine wk 5 ?_;refine ax 24 EI ?_;refine ax 25 (Ba Aj (n:=ws.length+k) (m:=1) rfl rfl rfl rfl rfl rfl rfl rfl rfl (by rw[AR,List.length_append,List.length_replicate]) rfl rfl (Nat.zero_lt_succ _) (.lst _ _) GK Hp rfl (by rw[AR,List.length_append,List.length_replicate];simp only[partVals,List.length_cons,List.length_nil];show _*4<=_;omega) (by rw[AR,List.length_append,List.length_replicate];simp only[partVals,List.length_cons,List.length_nil,maxLen];omega)) ?_;refine wk 4 ?_;refine aq 22 (A8 rfl rfl hkl DD) ?_;refine wk 2 ?_;exact⟨k+1,Sub.mk' AT (HSub.put (Yt rfl rfl rfl rfl (congrArg (fun es=>some (rt 1 es)) ((Iz _ _).trans (by rw[List.append_assoc,<-List.replicate_succ']))) KX) rfl),hkl,by omega⟩
 refine wk 1 ?_;obtain rfl:k=G.locals.length:=Nat.le_antisymm hk (As hb1);rw[hn];refine wk 6 ?_;refine ax 29 (Ek 4 4) ?_;refine wk 12 ?_;refine aq 38 (GI Aj (AU hG)) ?_;refine wk 2 ?_;refine AOps.call 41 rfl rfl rfl (Bv (n:=n) (f:=f) (x:=(⟨ws++List.replicate G.locals.length 0,false,0,c⟩:PX)) (y:=(Dy p cl s fuel f G ws c)) (hS) rfl Tryz.func40 Al rfl rfl rfl ⟨rfl,rfl,rfl,rfl,rfl,rfl,trivial⟩ KX rfl) ?_;refine wk 10 ?_;exact⟨[_],⟨rfl,trivial⟩,rfl,Yt rfl rfl rfl rfl rfl KX⟩
theorem Sq(p:PProg)(s:ByteArray)(fuel:Int)(cl:Ct)(m n f:Nat)(nm:ByteArray)(G:PFn)(l:List PE)(x:PX)(hp:PSz p)(hfu:fuel<=9223372036854775807)(hs:s.size<=9223372036854775807)(hc0:cl=CQ p s fuel (m+1))(hx:x.good p fuel n)(hf0:0<=(p.find f nm).2)(hG:p.funcs[(p.find f nm).2.toNat]?=some G)(hlen:l.length=G.params.length)(h6:l.length<=200)(hk:∀y∈l,y.Ok)(hcl:II p fuel cl)
 (hE:∀y∈l,∀x,PX.good p fuel n x->Ca Tryz.prog 83 [.ptr 0 1 0 0,.ptr 4 1 0 0,.agg y.row] (ER p s fuel n f x) (.int .u32 (y.ev p cl s f x.ws x.c).1) (BJ (kf 6) hNone (ER p s fuel n f {x with c:=(y.ev p cl s f x.ws x.c).2}))) (hB:∀ws c,ws.length=G.params.length->Dc ws->PM.good p fuel c->Ca Tryz.prog 24 [.ptr 0 1 0 0,.int .i64 (p.find f nm).2,Fw 6 ws.length] (Kk p s fuel c ws) (.int .u32 (Dy p (CQ p s fuel m) s fuel (p.find f nm).2.toNat G ws c).val) (BJ SO hNone (Kk p s fuel (Dy p (CQ p s fuel m) s fuel (p.find f nm).2.toNat G ws c).c (Dy p (CQ p s fuel m) s fuel (p.find f nm).2.toNat G ws c).ws))):Ca Tryz.prog 85 [.ptr 0 1 0 0,.ptr 4 1 0 0,.str nm,(.lst false (l.map PE.cells))] (ER p s fuel n f x) (.int .u32 (PE.evC p cl s f x.ws (p.find f nm).2.toNat l [] x.c).1) (BJ (kf 6) hNone (ER p s fuel n f {x with c:=(PE.evC p cl s f x.ws (p.find f nm).2.toNat l [] x.c).2})):=by
 refine ACall.of_body (n:=58) Aj Tryz.func85 rfl rfl ?_;refine wk 15 ?_;refine dx 23 (Bs Tryz.func62 (DV p f nm hp.v hp.a hp.n200 hp.fn)) ?_;refine wk 12 ?_;refine AX (.dry 11 6 1 true rfl rfl rfl Ab) ?_;refine wk 4 ?_;refine CV (γ:=Nat×List Int×PM) (fun q=>⟨58,(Ad (Ad (Ad (Ad (Ad (Ad AM 0 (pZ 0)) 1 (pZ 4)) 3 (.lst false (l.map PE.cells))) 10 (.int .i64 (p.find f nm).2)) 11 (Fw 6 q.1)) 12 (iN q.1)),(Ar (BJ (kf 6) hNone (ER p s fuel n f ({x with c:=q.2.2}:PX))) 6 (rt 1 (Au q.2.1)))⟩) (fun q=>PCallI p fuel cl s f x.ws (p.find f nm).2.toNat l (PE.evC p cl s f x.ws (p.find f nm).2.toNat l [] x.c) q) (fun q=>l.length-q.1) (0,[],x.c) (Sub.mk' AT (HSub.put (Df ⟨rfl,rfl,rfl,rfl,rfl,rfl,trivial⟩ KX) rfl)) ⟨rfl,Kr,hx.c,rfl,Nat.zero_le _⟩ ?_;intro q hI;refine wk 8 ?_;refine asp 29 (fun hb1=>?_) fun hb1=>?_
 .
  refine wk 1 ?_;have hkl:q.1<l.length:=Ao hb1;obtain⟨y,hy⟩:=Ah hkl;have hym:=List.mem_of_getElem? hy;have hxq:PX.good p fuel n ({x with c:=q.2.2}:PX):=⟨hI.good,hx.ws,hx.len,hx.val⟩;have hgy:=BM (s:=s) (f:=f) hcl hx.ws y.parts y (Nat.le_refl _) (hk y hym) q.2.2 hI.good;refine wk 9 ?_;refine aq 37 (Ae Aj rfl rfl rfl rfl rfl rfl (Int.natCast_nonneg _) (Dg hy) rfl) ?_;refine wk 1 ?_;refine AOps.call 39 rfl rfl rfl (Bv (n:=n) (f:=f) (x:=({x with c:=q.2.2}:PX)) (y:=({x with c:=(y.ev p cl s f x.ws q.2.2).2}:PX)) (hE y hym ({x with c:=q.2.2}:PX) hxq) rfl Tryz.func83 Al rfl rfl rfl ⟨rfl,rfl,rfl,rfl,rfl,rfl,trivial⟩ KX rfl) ?_;refine ax 40 EI ?_;refine ax 41 (Ba Aj (n:=q.1) (m:=1) rfl rfl rfl rfl rfl rfl rfl rfl rfl (by rw[AR,hI.len]) rfl rfl (Nat.zero_lt_succ _) (.lst _ _) GK Hp rfl (by rw[AR,hI.len];simp only[partVals,List.length_cons,List.length_nil];show _*4<=_;omega) (by rw[AR,hI.len];simp only[partVals,List.length_cons,List.length_nil,maxLen];omega)) ?_;refine wk 4 ?_;refine aq 31 (A8 rfl rfl hkl DD) ?_;refine wk 2 ?_;exact⟨(q.1+1,q.2.1++[(y.ev p cl s f x.ws q.2.2).1],(y.ev p cl s f x.ws q.2.2).2),Sub.mk' AT (HSub.put (Df ⟨rfl,rfl,rfl,rfl,rfl,rfl,trivial⟩ KX) (congrArg (fun es=>some (rt 1 es)) (Iz _ _))),hI.next hy hgy,YX⟩
 refine wk 1 ?_;have hge:l.length<=q.1:=As hb1;have hle:=hI.le;have hdn:=(congrFun (congrFun (congrFun hc0.symm (p.find f nm).2.toNat) q.2.1) q.2.2).trans (hI.done hge);refine wk 10 ?_;refine AK (γ:=PM) (fun d=>⟨58,(Ad (Ad (Ad AM 0 (pZ 0)) 10 (.int .i64 (p.find f nm).2)) 11 (Fw 6 q.1)),(Ar (BJ (kf 6) hNone (ER p s fuel n f ({x with c:=d}:PX))) 6 (rt 1 (Au q.2.1)))⟩) (fun d=>PCEnd fuel q.2.2 (PE.evC p cl s f x.ws (p.find f nm).2.toNat l [] x.c) d/\d.good p fuel) ?_ ?_
 .
  refine asp 46 (fun hb2=>?_) fun hb2=>?_
  .
   refine wk 1 ?_;have hfe:=hb2;refine wk 2 ?_;refine AOps.call 48 rfl rfl rfl (Ma (c:=q.2.2) (d:=(q.2.2.tick fuel)) (L1 p s fuel q.2.2 hfu) rfl Tryz.func84 Al rfl rfl rfl ⟨rfl,rfl,rfl,rfl,trivial⟩ (fun x_=>by(try simp only[AB]);repeat(first|exact Ax _ _ _|exact FV _ _ _ _ _|refine AQ Ho ?_)) rfl) ?_;refine wk 1 ?_;exact⟨(q.2.2.tick fuel),Sub.mk' AT (HSub.put (Df ⟨rfl,rfl,rfl,rfl,rfl,rfl,trivial⟩ KX) rfl),⟨Sp hfe hdn,hI.good.tick.1⟩⟩
  refine wk 1 ?_;have hfe:=hb2;refine wk 1 ?_;exact⟨q.2.2,Sub.mk' AT (HSub.put (Df ⟨rfl,rfl,rfl,rfl,rfl,rfl,trivial⟩ KX) rfl),⟨U0 hfe hdn,hI.good⟩⟩
 intro d hpe0;obtain⟨hpe,hgd⟩:=hpe0;refine wk 9 ?_;refine asp 53 (fun hb3=>?_) fun hb3=>?_
 .
  refine wk 1 ?_;have hT:=hpe.over hb3;refine wk 5 ?_;exact fb
 refine wk 1 ?_;obtain⟨hfe2,hd⟩:=hpe.on hb3;have hT:(PE.evC p cl s f x.ws (p.find f nm).2.toNat l [] x.c)=((Dy p (CQ p s fuel m) s fuel (p.find f nm).2.toNat G q.2.1 d).val,(Dy p (CQ p s fuel m) s fuel (p.find f nm).2.toNat G q.2.1 d).c):=by rw[<-hdn,Zo hfe2 (by rw[<-hd];exact hb3) hG,<-hd]
 refine wk 6 ?_;refine AOps.call 57 rfl rfl rfl (Xh (c:=d) (ws:=q.2.1) (d:=(Dy p (CQ p s fuel m) s fuel (p.find f nm).2.toNat G q.2.1 d).c) (us:=(Dy p (CQ p s fuel m) s fuel (p.find f nm).2.toNat G q.2.1 d).ws) (by have h:=hB q.2.1 d (by rw[hI.len,<-hlen];omega) hI.args hgd;rw[hI.len]at h;exact h) rfl Tryz.func24 Al rfl rfl rfl rfl rfl rfl rfl rfl KX rfl) ?_;refine wk 3 ?_;exact fb
theorem QE(p:PProg)(s:ByteArray)(fuel:Int)(hp:PSz p)(hfu:fuel<=9223372036854775807)(hs:s.size<=9223372036854775807)(hok:p.Ok)(cl:Ct)(n f:Nat)(hcl:II p fuel cl)(hG:∀g,p.funcs[f]?=some g->g.names.length=n)(hcall:∀(nm:ByteArray) (l:List PE),(p.find f nm).1=4->(p.find f nm).2<f->(∃G,p.funcs[(p.find f nm).2.toNat]?=some G/\l.length=G.params.length)->(∀y∈l,y.Ok)->(∀y∈l,∀x,PX.good p fuel n x->ACall Tryz.prog 83 [.ptr 0 1 0 0,.ptr 4 1 0 0,.agg y.row] (ER p s fuel n f x) (fun r h'=>r=.int .u32 (y.ev p cl s f x.ws x.c).1/\HSub (BJ (kf 6) hNone (ER p s fuel n f {x with c:=(y.ev p cl s f x.ws x.c).2})) h'))->∀x,PX.good p fuel n x->ACall Tryz.prog 85 [.ptr 0 1 0 0,.ptr 4 1 0 0,.str nm,(.lst false (l.map PE.cells))] (ER p s fuel n f x) (fun r h'=>r=.int .u32 (PE.evC p cl s f x.ws (p.find f nm).2.toNat l [] x.c).1/\HSub (BJ (kf 6) hNone (ER p s fuel n f {x with c:=(PE.evC p cl s f x.ws (p.find f nm).2.toNat l [] x.c).2})) h')):
 ∀(m:Nat) (e:PE) (b:Bool),e.parts<=m->e.fit p f b->e.Ok->∀x,PX.good p fuel n x->ACall Tryz.prog 83 [.ptr 0 1 0 0,.ptr 4 1 0 0,.agg e.row] (ER p s fuel n f x) (fun r h'=>r=.int .u32 (e.ev p cl s f x.ws x.c).1/\HSub (BJ (kf 6) hNone (ER p s fuel n f {x with c:=(e.ev p cl s f x.ws x.c).2})) h')
 |0,e,b,hm,_,_,_,_=>absurd hm (by have:=PE.parts_kids e;omega)
 |m+1,e,b,hm,hf,hk,x,hx=>by
  have ih:∀y∈e.kids,∀x,PX.good p fuel n x->ACall Tryz.prog 83 [.ptr 0 1 0 0,.ptr 4 1 0 0,.agg y.row] (ER p s fuel n f x) (fun r h'=>r=.int .u32 (y.ev p cl s f x.ws x.c).1/\HSub (BJ (kf 6) hNone (ER p s fuel n f {x with c:=(y.ev p cl s f x.ws x.c).2})) h'):=fun y hy x hx=>by
   obtain⟨b',hb⟩:=W8 hf hy;exact QE p s fuel hp hfu hs hok cl n f hcl hG hcall m y b' (by have:=PE.parts_mem hy;have:=PE.parts_kids e;omega) hb (hk.kidsOk.1 y hy) x hx
  refine So p s fuel cl n f b e x hp hfu hs hf hk hx hcl hG ih fun h4=>?_
  obtain⟨h1,h2,h3⟩:=dL hf h4;exact hcall e.name e.kids h1 h2 h3 hk.kidsOk.1 ih x hx
theorem H6(p:PProg)(s:ByteArray)(fuel:Int)(hp:PSz p)(hfu:fuel<=9223372036854775807)(hs:s.size<=9223372036854775807)(hok:p.Ok)(cl:Ct)(n f:Nat)(w:Bool)(hcl:II p fuel cl)(hG:∀g,p.funcs[f]?=some g->g.names.length=n)(hcall:∀(nm:ByteArray) (l:List PE),(p.find f nm).1=4->(p.find f nm).2<f->(∃G,p.funcs[(p.find f nm).2.toNat]?=some G/\l.length=G.params.length)->(∀y∈l,y.Ok)->(∀y∈l,∀x,PX.good p fuel n x->ACall Tryz.prog 83 [.ptr 0 1 0 0,.ptr 4 1 0 0,.agg y.row] (ER p s fuel n f x) (fun r h'=>r=.int .u32 (y.ev p cl s f x.ws x.c).1/\HSub (BJ (kf 6) hNone (ER p s fuel n f {x with c:=(y.ev p cl s f x.ws x.c).2})) h'))->∀x,PX.good p fuel n x->ACall Tryz.prog 85 [.ptr 0 1 0 0,.ptr 4 1 0 0,.str nm,(.lst false (l.map PE.cells))] (ER p s fuel n f x) (fun r h'=>r=.int .u32 (PE.evC p cl s f x.ws (p.find f nm).2.toNat l [] x.c).1/\HSub (BJ (kf 6) hNone (ER p s fuel n f {x with c:=(PE.evC p cl s f x.ws (p.find f nm).2.toNat l [] x.c).2})) h')):
 ∀(m:Nat) (l:List PSt),PSt.partsL l<=m->(∀st∈l,st.fit p f w)->(∀st∈l,st.Ok)->∀x,PX.good p fuel n x->ACall Tryz.prog 40 [.ptr 0 1 0 0,.ptr 4 1 0 0,(.lst false (l.map PSt.cells))] (ER p s fuel n f x) (fun r h'=>r=.tup []/\HSub (BJ (kf 6) hNone (ER p s fuel n f (PSt.runL p cl s fuel f l x))) h')
 |0,l,hm,hf,hk,x,hx=>KC p s fuel cl n f l x hx (fun st hst=>absurd (PSt.parts_mem hst) (by have:=PSt.parts_kids st;omega)) (fun st hst=>absurd (PSt.parts_mem hst) (by have:=PSt.parts_kids st;omega))
 |m+1,l,hm,hf,hk,x,hx=>by
  refine KC p s fuel cl n f l x hx (fun st hst x hx=>?_) (fun st hst=>Gv hcl st.parts st (Nat.le_refl _) (hk st hst));have hpm:=PSt.parts_mem hst;have hpk:=PSt.parts_kids st;have hE:∀y∈st.es,∀x,PX.good p fuel n x->ACall Tryz.prog 83 [.ptr 0 1 0 0,.ptr 4 1 0 0,.agg y.row] (ER p s fuel n f x) (fun r h'=>r=.int .u32 (y.ev p cl s f x.ws x.c).1/\HSub (BJ (kf 6) hNone (ER p s fuel n f {x with c:=(y.ev p cl s f x.ws x.c).2})) h'):=fun y hy x hx=>by
   obtain⟨b,hb⟩:=W4 (hf st hst) hy;exact QE p s fuel hp hfu hs hok cl n f hcl hG hcall y.parts y b (Nat.le_refl _) hb ((hk st hst).esOk.1 y hy) x hx
  refine Sl p s fuel cl n f w st x hp hfu hs (hf st hst) (hk st hst) hx hcl hG hE (fun h6=>?_) (fun x hx=>H6 p s fuel hp hfu hs hok cl n f w hcl hG hcall m st.thn Aa (UW (hf st hst)) (hk st hst).thnOk.1 x hx) (fun x hx=>H6 p s fuel hp hfu hs hok cl n f w hcl hG hcall m st.els Aa (UX (hf st hst)) (hk st hst).elsOk.1 x hx)
   (fun x hx=>Og (fun t ht=>Gv hcl t.parts t (Nat.le_refl _) ((hk st hst).thnOk.1 t ht)) hx)
  obtain⟨h1,h2,h3⟩:=Zk (hf st hst) h6;exact hcall st.name st.es h1 h2 h3 (hk st hst).esOk.1 hE x hx
theorem W6(p:PProg)(s:ByteArray)(fuel:Int)(hp:PSz p)(hfu:fuel<=9223372036854775807)(hs:s.size<=9223372036854775807)(hok:p.Ok)(hfit:∀(f:Nat) (G:PFn),p.funcs[f]?=some G->PSt.fitL p f G.word G.body):∀(k f:Nat) (G:PFn),f<=k->p.funcs[f]?=some G->∀(ws:List Int) (c:PM),ws.length=G.params.length->Dc ws->PM.good p fuel c->ACall Tryz.prog 24 [.ptr 0 1 0 0,.int .i64 (f:Int),Fw 5 ws.length] (I4 p s fuel c ws) (fun r h'=>r=.int .u32 (Dy p (CQ p s fuel k) s fuel f G ws c).val/\HSub (BJ Pd hNone (I4 p s fuel (Dy p (CQ p s fuel k) s fuel f G ws c).c (Dy p (CQ p s fuel k) s fuel f G ws c).ws)) h')
 |0,f,G,hf,hG,ws,c,hw,hr,hc=>by
  have hfn:=hp.fn G (List.mem_of_getElem? hG);refine L6 p s fuel _ G.names.length f G ws c hG hfn.2 Aa (by rw[PFn.names,List.length_append,hw]) ?_;refine H6 p s fuel hp hfu hs hok _ _ f G.word (H7 hok 0) (fun g hg=>by rw[hG]at hg;cases hg;rfl) (fun nm l h1 h2=>absurd h2 (by have:=(BQ p f nm).2.2.2 h1;omega)) _ G.body (Nat.le_refl _) (PSt.fitL_mem (hfit f G hG)) (hok.funcs G (List.mem_of_getElem? hG)).body _ ⟨hc,?_,by rw[List.length_append,List.length_replicate,PFn.names,List.length_append,hw],isW_zero⟩;exact fun v hv=>by
   exact bh
 |k+1,f,G,hf,hG,ws,c,hw,hr,hc=>by
  have hfn:=hp.fn G (List.mem_of_getElem? hG);refine L6 p s fuel _ G.names.length f G ws c hG hfn.2 Aa (by rw[PFn.names,List.length_append,hw]) ?_;refine H6 p s fuel hp hfu hs hok _ _ f G.word (H7 hok (k+1)) (fun g hg=>by rw[hG]at hg;cases hg;rfl) (fun nm l h1 h2 h3 hk hE x hx=>?_) _ G.body (Nat.le_refl _) (PSt.fitL_mem (hfit f G hG)) (hok.funcs G (List.mem_of_getElem? hG)).body _ ⟨hc,?_,by rw[List.length_append,List.length_replicate,PFn.names,List.length_append,hw],isW_zero⟩
  . obtain⟨G',hG',hl⟩:=h3;have h0:=(BQ p f nm).2.2.2 h1;have hfn':=hp.fn G' (List.mem_of_getElem? hG');refine Sq p s fuel _ k _ f nm G' l x hp hfu hs rfl hx h0.1 hG' hl Aa hk (H7 hok (k+1)) hE fun ws c hw hr hc=>Yj ?_
    have h:=W6 p s fuel hp hfu hs hok hfit k (p.find f nm).2.toNat G' Aa hG' ws c hw hr hc;rw[show(((p.find f nm).2.toNat:Nat):Int)=(p.find f nm).2 by omega]at h;exact h
  . exact fun v hv=>by
     exact bh
theorem Zm{p:PProg}{s:ByteArray}{fuel:Int}{G:PFn}(hG:p.funcs[p.funcs.length-1]?=some G):Js p s fuel=bif (Dy p (CQ p s fuel (p.funcs.length-1)) s fuel (p.funcs.length-1) G [] p.start).c.m.fin==0 then {(Dy p (CQ p s fuel (p.funcs.length-1)) s fuel (p.funcs.length-1) G [] p.start).c.m with fin:=1}else(Dy p (CQ p s fuel (p.funcs.length-1)) s fuel (p.funcs.length-1) G [] p.start).c.m:=by
 unfold Js;rw[hG];rfl
theorem WL(p:PProg)(s:ByteArray)(fuel:Int)(hp:PSz p)(hfu:fuel<=9223372036854775807)(hs:s.size<=9223372036854775807)(hok:p.Ok)(hfit:∀(f:Nat) (G:PFn),p.funcs[f]?=some G->PSt.fitL p f G.word G.body)(hmain:∀G,p.funcs[p.funcs.length-1]?=some G->G.params=[])(hn1:1<=p.funcs.length)(hf0:decide (fuel<0)=false):Pu Tryz.prog 8 [.agg p.cells,.str s,.int .i64 fuel] (.agg (Jp (Js p s fuel))):=by
 have hpn:=hp.n;have hpa:=hp.a;obtain⟨G,hG⟩:=Ah (l:=p.funcs) (k:=p.funcs.length-1) Aa;refine APure.of_body (n:=76) Aj Tryz.func8 rfl rfl ?_;refine wk 2 ?_;refine ax 3 (Ek 3 7) ?_;refine ax 6 (Lc Aj 8) ?_;refine wk 9 ?_;refine asp 12 (fun hb1=>?_) fun hb1=>?_
 .
  refine wk 4 ?_;refine wk 1 ?_;refine wk 2 ?_;exact absurd hn1 (by have h:=hb1;simp at h;simp[h])
 refine wk 6 ?_;refine aq 15 (AG (r:=.bool false) rfl rfl rfl (congrArg (fun b=>some (AV.bool b)) hf0)) ?_;refine wk 11 ?_;refine dx 22 (FW Aj (n:=p.vars.length) (m:=p.vars.length) 1 true rfl rfl rfl (congrArg (fun(m:Nat)=>(m:Int)) (List.length_map _)) (congrArg (fun(m:Nat)=>(m:Int)) (List.length_map _)) rfl rfl rfl rfl rfl (Nat.zero_lt_succ _) rfl (Nat.le_refl _) (by have:=hp.v;show 4*p.vars.length<=_;omega) (by have:=hp.v;simp only[maxLen];omega)) ?_;refine wk 1 ?_;refine dx 24 (Ek 11 0) ?_;refine wk 4 ?_;refine AX (.dryCell 0 0 6 2 1 false rfl rfl rfl rfl rfl Ab) ?_;refine AX (.dryCell 0 0 7 3 1 true rfl rfl rfl rfl rfl Ab) ?_;refine wk 4 ?_;refine Dw (γ:=Nat) (kf 9) (fun k=>⟨76,(Ad (Ad (Ad (Ad AM 3 (pZ 7)) 6 (pZ 8)) 7 (pZ 0)) 8 (iN k)),(Gj (nb [(rf 11 [[.lst false (p.vars.map D6),.lst false (p.arrays.map Rr),.lst false (p.funcs.map PFn.cells),.str s,.int .i64 fuel,.ref 1 p.vars.length 0 p.vars.length,.ref 2 k 0 k,.ref 3 0 0 0,.int .i64 0,.int .i64 0,.int .i64 0]]),(rt 1 (Au (List.replicate p.vars.length 0))),(rf 1 ((C4 p).take k)),(rt 1 []),.free,.free,.free,(rf 3 [p.cells]),(rf 3 [[.int .i64 0,.str ⟨#[]⟩,.int .i64 0]])]) (zF p k))⟩) (fun k=>k<=p.arrays.length) (fun k=>p.arrays.length-k) 0 (Sub.mk' AT (Ey (k0:=9) rfl (by repeat(first|exact trivial|refine⟨⟨by first|rfl|exact congrArg (fun es=>some (rt 1 es)) (GQ _),by first|rfl|exact Lw (Hj 9)⟩,?_⟩)) (fun x_=>by(try simp only[AB]);repeat(first|exact congrArg some (YP p x_).symm|refine AQ Ho ?_)) (fun c h1 h2=>by rcases(by omega:c=9\/c=10\/c=11\/c=12\/c=13\/c=14\/c=15)with rfl|rfl|rfl|rfl|rfl|rfl|rfl<;>first|rfl|(try simp only[AB];repeat(first|rfl|refine AQ Ho ?_|refine hrm_skip Aa ?_))))) (Nat.zero_le _) (fun g b hb=>EG (k0:=9) rfl hb) ?_
 intro k hk;refine wk 9 ?_;refine asp 29 (fun hb2=>?_) fun hb2=>?_
 .
  refine wk 1 ?_;have hkl:k<p.arrays.length:=Ao hb2;obtain⟨x,hx⟩:=Ah hkl;have hAz:=hp.arr x (List.mem_of_getElem? hx);refine wk 12 ?_;refine dq 40 (GI Aj (AU hx)) ?_;refine wk 2 ?_;refine dx 43 (FW Aj (n:=x.2.toNat) (m:=x.2.toNat) (k+16) true rfl rfl rfl Aa Aa rfl rfl rfl ((Ax _ _ _).trans (congrArg some (YR p k))) rfl (Nat.zero_lt_succ _) rfl (Nat.le_refl _) (by show 4*x.2.toNat<=_;omega) DD) ?_;refine dx 44 (L8 Aj 9 false rfl rfl rfl rfl rfl rfl Ab rfl rfl rfl rfl Gc rfl rfl) ?_;refine dx 45 (Ba Aj (n:=k) (m:=1) rfl rfl rfl rfl rfl rfl rfl rfl rfl (by rw[List.length_take,Cw];omega) rfl rfl (Nat.zero_lt_succ _) (.ref _ _ _ _ _ _ _ rfl rfl) GK (by intro h;cases h) rfl (by rw[List.length_take,Cw];simp[partVals];show _*24<=_;omega) (by rw[List.length_take,Cw];simp[partVals];simp only[maxLen];omega)) ?_;refine wk 2 ?_;refine wk 1 ?_;refine wk 3 ?_;refine aq 31 (A8 rfl rfl hkl DD) ?_;refine wk 2 ?_
  exact⟨k+1,DropK.mk' PT (G6 (k0:=9) rfl (by repeat(first|exact trivial|refine⟨⟨by first|rfl|exact Hm (Tk hx).symm,by first|rfl|exact Lw (Hj 9)⟩,?_⟩)) (fun x_=>by(try simp only[AB]);(repeat(first|refine AQ Ho ?_));exact(Ph (fun y_=>by exact Ax _ _ _) _ _ x_).trans (congrArg some (YQ hx _ (GQ _) x_))) (Wg _ _ _)),hkl,Aa⟩
 refine wk 1 ?_;obtain rfl:k=p.arrays.length:=Nat.le_antisymm hk (As hb2);rw[cR,List.take_of_length_le (by rw[Cw];exact Nat.le_refl _)];refine wk 7 ?_;refine aq 52 (AG (r:=.int .i64 ((p.funcs.length-1:Nat):Int)) rfl rfl rfl (by simp only[Bh,BP,isShift,cond_false,if_true];rw[List.length_map,BF Aa Aa];congr 2;omega)) ?_;refine AOps.call 53 rfl rfl rfl (Xf (c:=p.start) (d:=(Dy p (CQ p s fuel (p.funcs.length-1)) s fuel (p.funcs.length-1) G [] p.start).c) (us:=(Dy p (CQ p s fuel (p.funcs.length-1)) s fuel (p.funcs.length-1) G [] p.start).ws) (Yk (W6 p s fuel hp hfu hs hok hfit (p.funcs.length-1) (p.funcs.length-1) G (Nat.le_refl _) hG [] p.start (by rw[hmain G hG];rfl) Kr (R4 hp fuel))) rfl Tryz.func24 Al rfl rfl rfl rfl rfl rfl rfl rfl KX rfl) ?_;refine wk 10 ?_;refine asp 58 (fun hb3=>?_) fun hb3=>?_
 .
  refine wk 1 ?_;have hz:=hb3;refine wk 4 ?_;refine wk 1 ?_;exact fw
 refine wk 1 ?_;have hz:=hb3;exact fw
theorem Lq(p:PProg)(hp:PSz p):Pu Tryz.prog 22 [.agg p.cells] (.tup [.int .i64 p.words,(.lst false ((FJ p p.funcs.length).map fun b=>[.int .i64 b]))]):=by
 refine APure.of_body (n:=56) Aj Tryz.func22 rfl rfl ?_;refine wk 2 ?_;refine ax 1 (Ek 3 0) ?_;refine wk 16 ?_;refine Aw (γ:=Nat) 1 (fun k=>⟨56,(Ad (Ad (Ad AM 1 (pZ 0)) 4 (.int .i64 (p.aoff k))) 5 (iN k)),(Ar (AE 1) 0 (rf 3 [p.cells]))⟩) (fun k=>k<=p.arrays.length) (fun k=>p.arrays.length-k) 0 (Sub.mk' gc Bn) (Nat.zero_le _) (fun _=>Dz) ?_;intro k hk;refine wk 9 ?_;refine asp 15 (fun hb1=>?_) fun hb1=>?_
 .
  refine wk 1 ?_;have hkl:k<p.arrays.length:=Ao hb1;obtain⟨x,hx⟩:=Ah hkl;refine wk 8 ?_;refine aq 22 (GI Aj (AU hx)) ?_;refine wk 2 ?_;refine aq 25 (AG (r:=.int .i64 (p.aoff (k+1))) rfl rfl rfl gh) ?_;refine wk 4 ?_;refine aq 17 (A8 rfl rfl hkl (by have:=hp.a;simp only[maxLen];omega)) ?_;refine wk 2 ?_;exact⟨k+1,Drop.mk' FSq FT,hkl,by omega⟩
 refine wk 1 ?_;have hke:k=p.arrays.length:=Nat.le_antisymm hk (As hb1);refine wk 7 ?_;refine AX (.dry 6 1 1 true rfl rfl rfl Ab) ?_;refine wk 4 ?_;refine Aw (γ:=Nat) 2 (fun k=>⟨56,(Ad (Ad (Ad (Ad AM 1 (pZ 0)) 4 (.int .i64 (p.first k))) 6 (Fw 1 k)) 7 (iN k)),(Ar (Ar (AE 2) 0 (rf 3 [p.cells])) 1 (rt 1 ((FJ p k).map fun b=>[.int .i64 b])))⟩) (fun k=>k<=p.funcs.length) (fun k=>p.funcs.length-k) 0 (Sub.mk' (by repeat(first|exact ESub.new _|refine ESub.put ?_ (by first|rfl|exact congrArg (fun n=>some (AV.int .i64 n)) (by rw[MC,<-Rt,hke])))) (by repeat(first|exact HSub.refl _|exact HSub.none _|exact Be _|exact A6 E3|refine HSub.put ?_ (by first|rfl|exact Hm (by simp[FJ]))|refine Bc ?_ E3|refine Bq ?_ Ab))) (Nat.zero_le _) (fun _=>Dz) ?_;intro k hk;refine wk 9 ?_;refine asp 30 (fun hb2=>?_) fun hb2=>?_
 .
  refine wk 1 ?_;have hkl:k<p.funcs.length:=Ao hb2;obtain⟨x,hx⟩:=Ah hkl;refine wk 7 ?_;refine ax 35 EI ?_;refine ax 36 (Ba Aj (n:=k) (m:=1) rfl rfl rfl rfl rfl rfl rfl rfl rfl (by rw[List.length_map,G4]) rfl rfl (Nat.zero_lt_succ _) (.lst _ _) GK Hp rfl (by have hpn:=hp.n;rw[List.length_map,G4];simp only[partVals,List.length_cons,List.length_nil];show _*8<=140737488355328;omega) (by have hpn:=hp.n;rw[List.length_map,G4];simp only[partVals,List.length_cons,List.length_nil];simp only[maxLen];omega)) ?_;refine wk 7 ?_;refine dq 41 (GI Aj (AU hx)) ?_;refine wk 3 ?_;refine dq 45 (AG (r:=.int .i64 (p.first k+x.params.length)) rfl rfl rfl (by have h9:=hp.first k hk;have h8:=hp.n;have h7:=hp.fn x (List.mem_of_getElem? hx);simp only[Bh,BP,isShift,cond_false,if_true];rw[List.length_map,BF Aa Aa])) ?_;refine wk 3 ?_;refine dq 49 (GI Aj (AU hx)) ?_
  refine wk 3 ?_;refine dq 53 (AG (r:=.int .i64 (p.first (k+1))) rfl rfl rfl (by have h9:=hp.first k hk;have h8:=hp.n;have h7:=hp.fn x (List.mem_of_getElem? hx);simp only[Bh,BP,isShift,cond_false,if_true];rw[List.length_map,BF Aa Aa,Ex hx,PFn.names,List.length_append];congr 2;omega)) ?_;refine wk 4 ?_;refine aq 32 (A8 rfl rfl hkl YV) ?_;refine wk 2 ?_;exact⟨k+1,Drop.mk' FSq (by repeat(first|exact HDrop.none _ _|exact C1 _ _|refine HDrop.put ?_ (by first|rfl|exact Hm (Q6 p k).symm) rfl PV)),hkl,by omega⟩
 refine wk 1 ?_;have hke2:k=p.funcs.length:=Nat.le_antisymm hk (As hb2);refine wk 2 ?_;refine AX (.freezeA 6 1 rfl rfl (by rw[List.length_map,G4])) ?_;refine wk 7 ?_;refine⟨[_,_],⟨rfl,rfl,trivial⟩,?_,rfl⟩;show AV.tup _=AV.tup _;rw[hke2];rfl
theorem NF(p:PProg)(f:Nat)(s:ByteArray)(hp:PSz p)(hf:f<p.funcs.length):Pu Tryz.prog 39 [.agg p.cells,.int .i64 (f:Int),.str s] (.tup [.int .i64 (p.slot f s).1,.int .i64 (p.slot f s).2]):=by
 refine APure.of_body (n:=61) Aj Tryz.func39 rfl rfl ?_;refine wk 2 ?_;refine ax 3 (Ek 3 0) ?_;refine wk 6 ?_;refine ax 16 (Bs Tryz.func22 (Lq p hp)) ?_;refine wk 11 ?_;refine ax 23 (Bs Tryz.func62 (DV p f s hp.v hp.a hp.n200 hp.fn)) ?_;refine wk 17 ?_;refine asp 27 (fun hb1=>?_) fun hb1=>?_
 .
  refine wk 1 ?_;have h1:=hb1;obtain⟨g,hg,hg1,hg2⟩:=(BQ p f s).1 (beq_iff_eq.1 h1);have h9:=hp.first f Aa
  have h8:=hp.n;have h7:=hp.fn g (List.mem_of_getElem? hg);have h6:g.names.length=g.params.length+g.locals.length:=by unfold PFn.names;rw[List.length_append]
  refine wk 4 ?_;refine aq 31 (GI Aj (AU (MB hf))) ?_;refine wk 2 ?_;refine aq 34 (AG (r:=.int .i64 (p.first f+(p.find f s).2)) rfl rfl rfl DL) ?_;refine wk 4 ?_;refine⟨[_,_],⟨rfl,rfl,trivial⟩,?_,rfl⟩;show AV.tup _=AV.tup _;rw[WF h1]
 refine wk 1 ?_;have h1:=hb1;refine wk 5 ?_;refine asp 35 (fun hb2=>?_) fun hb2=>?_
 .
  refine wk 1 ?_;have h3:=hb2;have hs3:=(BQ p f s).2.2.1 (beq_iff_eq.1 h3);have hpa:=hp.a;obtain⟨A,hA⟩:=Ah (l:=p.arrays) (k:=(p.find f s).2.toNat) Aa;refine wk 13 ?_;refine Aw (γ:=Nat) 1 (fun k=>⟨61,(Ad (Ad (Ad (Ad AM 3 (pZ 0)) 11 (.int .i64 (p.find f s).2)) 12 (.int .i64 (p.aoff k))) 13 (iN k)),(Ar (AE 1) 0 (rf 3 [p.cells]))⟩) (fun k=>(k:Int)<=(p.find f s).2) (fun k=>(p.find f s).2.toNat-k) 0 (Sub.mk' gc Bn) hs3.1 (fun _=>Dz) ?_;intro k hk;refine wk 7 ?_;refine asp 42 (fun hb3=>?_) fun hb3=>?_
  .
   refine wk 1 ?_;have hkl2:(k:Int)<(p.find f s).2:=of_decide_eq_true hb3;have hkl:k<p.arrays.length:=by omega
   obtain⟨x,hx⟩:=Ah hkl;refine wk 8 ?_;refine aq 49 (GI Aj (AU hx)) ?_;refine wk 2 ?_;refine aq 52 (AG (r:=.int .i64 (p.aoff (k+1))) rfl rfl rfl gh) ?_;refine wk 4 ?_;refine aq 44 (A8 rfl rfl hkl (by have:=hp.a;simp only[maxLen];omega)) ?_;refine wk 2 ?_;exact⟨k+1,Drop.mk' FSq FT,Aa,by omega⟩
  refine wk 1 ?_;have hke:k=(p.find f s).2.toNat:=by have:=of_decide_eq_false hb3;omega
  refine wk 7 ?_;refine dq 57 (Ae Aj rfl rfl rfl rfl rfl rfl hs3.1 (EL hA) rfl) ?_;refine wk 6 ?_;refine⟨[_,_],⟨rfl,rfl,trivial⟩,?_,rfl⟩;show AV.tup _=AV.tup _;rw[WE h3 hA,hke]
 refine wk 1 ?_;have h3:=hb2;refine wk 8 ?_;refine⟨[_,_],⟨rfl,rfl,trivial⟩,?_,rfl⟩;show AV.tup _=AV.tup _;rw[WG h1 h3]
theorem ME(p:PProg)(f:Nat)(l:List PE)(hp:PSz p)(hf:f<p.funcs.length)(hl:PE.partsL l<=1000000)(hrec:∀x∈l,Pu Tryz.prog 38 [.agg p.cells,.int .i64 (f:Int),(.lst false (x.kids.map PE.cells))] (.lst false ((PE.coreL p f (x.kids)).map CE.cells))):Pu Tryz.prog 38 [.agg p.cells,.int .i64 (f:Int),(.lst false (l.map PE.cells))] (.lst false ((PE.coreL p f (l)).map CE.cells)):=by
 refine APure.of_body (n:=64) Aj Tryz.func38 rfl rfl ?_;refine wk 1 ?_;refine AGo.slot 2 (φ:=l.length<=maxLen) rfl (fun H ι v h=>by have:=B5 h;simpa using this) fun hlen=>?_
 refine wk 1 ?_;refine ax 3 (Ek 3 0) ?_;refine wk 8 ?_;refine AX (.dry 7 1 6 true rfl rfl rfl Ab) ?_;refine wk 4 ?_;refine Aw (γ:=Nat) 2 (fun k=>⟨64,(Ad (Ad (Ad (Ad (Ad AM 1 (.int .i64 (f:Int))) 2 (.lst false (l.map PE.cells))) 3 (pZ 0)) 7 (Fw 1 k)) 8 (iN k)),(Ar (Ar (AE 2) 0 (rf 3 [p.cells])) 1 (rt 6 ((PE.coreL p f (l.take k)).map CE.cells)))⟩) (fun k=>k<=l.length) (fun k=>l.length-k) 0 (Sub.mk' AT (by repeat(first|exact HSub.refl _|exact HSub.none _|exact Be _|exact A6 E3|refine HSub.put ?_ (by first|rfl|exact Hm (by rw[List.take_zero,PE.coreL];rfl))|refine Bc ?_ E3|refine Bq ?_ Ab))) (Nat.zero_le _) (fun _=>Dz) ?_;intro k hk;refine wk 8 ?_;refine asp 13 (fun hb1=>?_) fun hb1=>?_
 .
  refine wk 1 ?_;have hkl:k<l.length:=Ao hb1;obtain⟨x,hx⟩:=Ah hkl;refine wk 7 ?_;refine dq 18 (Ae Aj rfl rfl rfl rfl rfl rfl (Int.natCast_nonneg _) (Dg hx) rfl) ?_;refine wk 4 ?_;refine dq 23 (Ae Aj rfl rfl rfl rfl rfl rfl (Int.natCast_nonneg _) (Dg hx) rfl) ?_;refine wk 4 ?_;refine dq 28 (Ae Aj rfl rfl rfl rfl rfl rfl (Int.natCast_nonneg _) (Dg hx) rfl) ?_;refine wk 6 ?_;refine dq 35 (Ae Aj rfl rfl rfl rfl rfl rfl (Int.natCast_nonneg _) (Dg hx) rfl) ?_;refine wk 2 ?_;refine dx 38 (Bs Tryz.func38 (hrec x (List.mem_of_getElem? hx))) ?_;refine wk 1 ?_;refine dx 9 (Lc Aj 2) ?_;refine wk 1 ?_;refine wk 6 ?_;refine aq 42 (Ae Aj rfl rfl rfl rfl rfl rfl (Int.natCast_nonneg _) (Dg hx) rfl) ?_;refine wk 4 ?_;refine AK (γ:=Unit) (fun _u=>⟨64,(Ad (Ad (Ad (Ad (Ad (Ad AM 1 (.int .i64 (f:Int))) 2 (.lst false (l.map PE.cells))) 3 (pZ 0)) 7 (Fw 1 k)) 8 (iN k)) 9 (pZ 2)),(Ar (Ar (Ar (AE 3) 0 (rf 3 [p.cells])) 1 (rt 6 ((PE.coreL p f (l.take k)).map CE.cells))) 2 (rf 6 [X6 p f x (YF p f x.name) (YE p f x.name)]))⟩) (fun _u=>True) ?_ ?_
  .
   refine asp 45 (fun hb2=>?_) fun hb2=>?_
   .
    refine wk 1 ?_;have hnm:=TS (p:=p) (f:=f) hb2;refine wk 5 ?_;refine dq 51 (Ae Aj rfl rfl rfl rfl rfl rfl (Int.natCast_nonneg _) (Dg hx) rfl) ?_;refine wk 2 ?_;refine dx 54 (Bs Tryz.func39 (NF p f x.name hp hf)) ?_;refine wk 4 ?_;refine wk 1 ?_;refine wk 1 ?_;refine wk 1 ?_;exact YL
   refine wk 1 ?_;have hnm:=TU (p:=p) (f:=f) hb2;exact YL
  intro _u _;refine wk 3 ?_;refine ax 61 EI ?_;refine ax 62 (Ba Aj (n:=k) (m:=1) rfl rfl rfl rfl rfl rfl rfl rfl rfl (by rw[List.length_map,F3 hk]) rfl rfl (Nat.zero_lt_succ _) (.lst _ _) GK Hp rfl (by have hpl:=IR l;rw[List.length_map,F3 hk];simp only[partVals,List.length_cons,List.length_nil];show _*64<=140737488355328;omega) (by have hpl:=IR l;rw[List.length_map,F3 hk];simp only[partVals,List.length_cons,List.length_nil];simp only[maxLen];omega)) ?_;refine wk 4 ?_;refine aq 15 (A8 rfl rfl hkl hlen) ?_;refine wk 2 ?_;exact⟨k+1,Drop.mk' FSq (by repeat(first|exact HDrop.none _ _|exact C1 _ _|refine HDrop.put ?_ (by first|rfl|exact Hm (Rc hx).symm) rfl PV)),hkl,by omega⟩
 refine wk 1 ?_;have hge:=As hb1;refine wk 2 ?_;refine AX (.freezeA 7 1 rfl rfl (by rw[List.length_map,F3 hk])) ?_;exact cr
theorem Q9(p:PProg)(f:Nat)(hp:PSz p)(hf:f<p.funcs.length):∀(m:Nat) (l:List PE),PE.partsL l<=m->PE.partsL l<=1000000->Pu Tryz.prog 38 [.agg p.cells,.int .i64 (f:Int),(.lst false (l.map PE.cells))] (.lst false ((PE.coreL p f (l)).map CE.cells))
 |0,l,hm,hl=>ME p f l hp hf hl fun x hx=>absurd (PE.parts_mem hx) (by have:=PE.parts_kids x;omega)
 |m+1,l,hm,hl=>ME p f l hp hf hl fun x hx=>Q9 p f hp hf m x.kids Wi Wi
theorem LA(p:PProg)(f:Nat)(l:List PSt)(hp:PSz p)(hf:f<p.funcs.length)(hl:PSt.partsL l<=1000000)(hrec:∀x∈l,Pu Tryz.prog 23 [.agg p.cells,.int .i64 (f:Int),(.lst false (x.thn.map PSt.cells))] (.lst false ((PSt.coreL p f (x.thn)).map CS.cells))/\Pu Tryz.prog 23 [.agg p.cells,.int .i64 (f:Int),(.lst false (x.els.map PSt.cells))] (.lst false ((PSt.coreL p f (x.els)).map CS.cells))):Pu Tryz.prog 23 [.agg p.cells,.int .i64 (f:Int),(.lst false (l.map PSt.cells))] (.lst false ((PSt.coreL p f (l)).map CS.cells)):=by
 refine APure.of_body (n:=70) Aj Tryz.func23 rfl rfl ?_;refine wk 1 ?_;refine AGo.slot 2 (φ:=l.length<=maxLen) rfl (fun H ι v h=>by have:=B5 h;simpa using this) fun hlen=>?_
 refine wk 1 ?_;refine ax 3 (Ek 3 0) ?_;refine wk 8 ?_;refine AX (.dry 7 1 6 true rfl rfl rfl Ab) ?_;refine wk 4 ?_;refine Aw (γ:=Nat) 2 (fun k=>⟨70,(Ad (Ad (Ad (Ad (Ad AM 1 (.int .i64 (f:Int))) 2 (.lst false (l.map PSt.cells))) 3 (pZ 0)) 7 (Fw 1 k)) 8 (iN k)),(Ar (Ar (AE 2) 0 (rf 3 [p.cells])) 1 (rt 6 ((PSt.coreL p f (l.take k)).map CS.cells)))⟩) (fun k=>k<=l.length) (fun k=>l.length-k) 0 (Sub.mk' AT (by repeat(first|exact HSub.refl _|exact HSub.none _|exact Be _|exact A6 E3|refine HSub.put ?_ (by first|rfl|exact Hm (by rw[List.take_zero,PSt.coreL];rfl))|refine Bc ?_ E3|refine Bq ?_ Ab))) (Nat.zero_le _) (fun _=>Dz) ?_;intro k hk;refine wk 8 ?_;refine asp 13 (fun hb1=>?_) fun hb1=>?_
 .
  refine wk 1 ?_;have hkl:k<l.length:=Ao hb1;obtain⟨x,hx⟩:=Ah hkl;refine wk 7 ?_;refine dq 18 (Ae Aj rfl rfl rfl rfl rfl rfl (Int.natCast_nonneg _) (CI hx) rfl) ?_;refine wk 6 ?_;refine dq 25 (Ae Aj rfl rfl rfl rfl rfl rfl (Int.natCast_nonneg _) (CI hx) rfl) ?_;refine wk 2 ?_;refine dx 28 (Bs Tryz.func38 (Q9 p f hp hf _ x.es (Nat.le_refl _) fW)) ?_;refine wk 4 ?_;refine dq 33 (Ae Aj rfl rfl rfl rfl rfl rfl (Int.natCast_nonneg _) (CI hx) rfl) ?_;refine wk 2 ?_;refine dx 36 (Bs Tryz.func23 ((hrec x (List.mem_of_getElem? hx)).1)) ?_;refine wk 4 ?_;refine dq 41 (Ae Aj rfl rfl rfl rfl rfl rfl (Int.natCast_nonneg _) (CI hx) rfl) ?_;refine wk 2 ?_;refine dx 44 (Bs Tryz.func23 ((hrec x (List.mem_of_getElem? hx)).2)) ?_;refine wk 1 ?_;refine dx 9 (Lc Aj 2) ?_;refine wk 1 ?_;refine wk 6 ?_;refine aq 48 (Ae Aj rfl rfl rfl rfl rfl rfl (Int.natCast_nonneg _) (CI hx) rfl) ?_;refine wk 4 ?_;refine AK (γ:=Unit) (fun _u=>⟨70,(Ad (Ad (Ad (Ad (Ad (Ad AM 1 (.int .i64 (f:Int))) 2 (.lst false (l.map PSt.cells))) 3 (pZ 0)) 7 (Fw 1 k)) 8 (iN k)) 9 (pZ 2)),(Ar (Ar (Ar (AE 3) 0 (rf 3 [p.cells])) 1 (rt 6 ((PSt.coreL p f (l.take k)).map CS.cells))) 2 (rf 6 [WI p f x (YF p f x.name) (YE p f x.name)]))⟩) (fun _u=>True) ?_ ?_
  .
   refine asp 51 (fun hb2=>?_) fun hb2=>?_
   .
    refine wk 1 ?_;have hnm:=TS (p:=p) (f:=f) hb2;refine wk 5 ?_;refine dq 57 (Ae Aj rfl rfl rfl rfl rfl rfl (Int.natCast_nonneg _) (CI hx) rfl) ?_;refine wk 2 ?_;refine dx 60 (Bs Tryz.func39 (NF p f x.name hp hf)) ?_;refine wk 4 ?_;refine wk 1 ?_;refine wk 1 ?_;refine wk 1 ?_;exact YL
   refine wk 1 ?_;have hnm:=TU (p:=p) (f:=f) hb2;exact YL
  intro _u _;refine wk 3 ?_;refine ax 67 EI ?_;refine ax 68 (Ba Aj (n:=k) (m:=1) rfl rfl rfl rfl rfl rfl rfl rfl rfl (by rw[List.length_map,FU hk]) rfl rfl (Nat.zero_lt_succ _) (.lst _ _) GK Hp rfl (by have hpl:=HA l;rw[List.length_map,FU hk];simp only[partVals,List.length_cons,List.length_nil];show _*96<=140737488355328;omega) (by have hpl:=HA l;rw[List.length_map,FU hk];simp only[partVals,List.length_cons,List.length_nil];simp only[maxLen];omega)) ?_;refine wk 4 ?_;refine aq 15 (A8 rfl rfl hkl hlen) ?_;refine wk 2 ?_;exact⟨k+1,Drop.mk' FSq (by repeat(first|exact HDrop.none _ _|exact C1 _ _|refine HDrop.put ?_ (by first|rfl|exact Hm (Qe hx).symm) rfl PV)),hkl,by omega⟩
 refine wk 1 ?_;have hge:=As hb1;refine wk 2 ?_;refine AX (.freezeA 7 1 rfl rfl (by rw[List.length_map,FU hk])) ?_;exact cr
theorem LB(p:PProg)(f:Nat)(hp:PSz p)(hf:f<p.funcs.length):∀(m:Nat) (l:List PSt),PSt.partsL l<=m->PSt.partsL l<=1000000->Pu Tryz.prog 23 [.agg p.cells,.int .i64 (f:Int),(.lst false (l.map PSt.cells))] (.lst false ((PSt.coreL p f (l)).map CS.cells))
 |0,l,hm,hl=>LA p f l hp hf hl fun x hx=>absurd (PSt.parts_mem hx) YT
 |m+1,l,hm,hl=>LA p f l hp hf hl fun x hx=>⟨LB p f hp hf m x.thn KW KW,LB p f hp hf m x.els KW KW⟩
theorem Lf(p:PProg)(s:ByteArray)(h:p.funcs.length<=200):Pu Tryz.prog 78 [.agg p.cells,.str s] (.int .i64 (p.fnum s)):=by
 refine APure.of_body (n:=22) Aj Tryz.func78 rfl rfl ?_;refine wk 2 ?_;refine ax 2 (Ek 3 0) ?_;refine wk 8 ?_;refine Aw (γ:=Nat) 1 (fun k=>⟨22,(Ad (Ad (Ad AM 1 (.str s)) 2 (pZ 0)) 5 (iN k)),(Ar (AE 1) 0 (rf 3 [p.cells]))⟩) (fun k=>placeOf s ((p.funcs.map (·.name)).drop k) k=p.fnum s) (fun k=>p.funcs.length-k) 0 (Sub.mk' AT Bn) rfl (fun _=>Dz) ?_;intro k hk;refine wk 9 ?_;refine asp 10 (fun hb1=>?_) fun hb1=>?_
 .
  refine wk 1 ?_;have hkl:k<p.funcs.length:=Ao hb1;obtain⟨x,hx⟩:=Ah hkl;refine wk 8 ?_;refine aq 16 (GI Aj (AU hx)) ?_;refine wk 5 ?_;refine asp 20 (fun hb2=>?_) fun hb2=>?_
  .
   refine wk 1 ?_;have heq:=hb2;refine wk 6 ?_;refine⟨[_],⟨rfl,trivial⟩,?_,rfl⟩;rw[<-hk,ZP hx heq];rfl
  refine wk 1 ?_;have hne:=hb2;refine wk 3 ?_;refine aq 12 (A8 rfl rfl hkl DD) ?_;refine wk 2 ?_;exact⟨k+1,Drop.mk' FSq FT,((ZO hx hne).symm.trans hk),by omega⟩
 refine wk 1 ?_;have hge:=As hb1;refine wk 6 ?_;refine⟨[_],⟨rfl,trivial⟩,?_,rfl⟩;rw[<-hk,XN hge];rfl
theorem Mp(p:PProg)(l:List PE)(hn:p.funcs.length<=200)(hrec:∀x∈l,Pu Tryz.prog 79 [.agg p.cells,(.lst false (x.kids.map PE.cells))] (.bool (PE.knownL p x.kids))):Pu Tryz.prog 79 [.agg p.cells,(.lst false (l.map PE.cells))] (.bool (PE.knownL p l)):=by
 refine APure.of_body (n:=38) Aj Tryz.func79 rfl rfl ?_;refine wk 1 ?_;refine AGo.slot 1 (φ:=l.length<=maxLen) rfl (fun H ι v h=>by have:=B5 h;simpa using this) fun hlen=>?_
 refine wk 1 ?_;refine ax 2 (Ek 3 0) ?_;refine wk 8 ?_;refine Aw (γ:=Nat) 1 (fun k=>⟨38,(Ad (Ad (Ad AM 1 (.lst false (l.map PE.cells))) 2 (pZ 0)) 5 (iN k)),(Ar (AE 1) 0 (rf 3 [p.cells]))⟩) (fun k=>(l.take k).all (fun e=>e.known p)=true) (fun k=>l.length-k) 0 (Sub.mk' AT Bn) rfl (fun _=>Dz) ?_;intro k hk;refine wk 8 ?_;refine asp 9 (fun hb1=>?_) fun hb1=>?_
 .
  refine wk 1 ?_;have hkl:k<l.length:=Ao hb1;obtain⟨x,hx⟩:=Ah hkl;refine wk 4 ?_;refine AK (γ:=Bool) (fun c=>⟨38,(Ad (Ad (Ad (Ad AM 1 (.lst false (l.map PE.cells))) 2 (pZ 0)) 5 (iN k)) 37 (.bool c)),(Ar (AE 1) 0 (rf 3 [p.cells]))⟩) (fun c=>c= !(x.known p)) ?_ ?_
  .
   refine wk 3 ?_;refine dq 14 (Ae Aj rfl rfl rfl rfl rfl rfl (Int.natCast_nonneg _) (Dg hx) rfl) ?_;refine wk 4 ?_;refine DOps.split 18 rfl (fun hb2=>?_) (fun hb2=>?_)
   .
    refine wk 3 ?_;refine dq 22 (Ae Aj rfl rfl rfl rfl rfl rfl (Int.natCast_nonneg _) (Dg hx) rfl) ?_;refine wk 2 ?_;refine dx 25 (Bs Tryz.func78 (Lf p x.name hn)) ?_;refine wk 3 ?_;refine DOps.split 28 rfl (fun hb3=>?_) (fun hb3=>?_)
    .
     refine wk 10 ?_;exact fM
    refine wk 3 ?_;exact bP
   refine wk 13 ?_;exact bP
  intro c hc;refine asp 37 (fun hb4=>?_) fun hb4=>?_
  .
   refine wk 1 ?_;have hno:=IU hc hb4;refine wk 5 ?_;refine⟨[_],⟨rfl,trivial⟩,?_,rfl⟩;refine bc ?_;rw[PE.knownL_all];exact(Bp hx hno).symm
  refine wk 1 ?_;have hy:=IV hc hb4;exact Um
 refine wk 1 ?_;have hge:=As hb1;refine wk 6 ?_;refine⟨[_],⟨rfl,trivial⟩,?_,rfl⟩;refine bc ?_;rw[PE.knownL_all];exact(BB hk hge).symm
theorem Mq(p:PProg)(hn:p.funcs.length<=200):∀(m:Nat) (l:List PE),PE.partsL l<=m->Pu Tryz.prog 79 [.agg p.cells,(.lst false (l.map PE.cells))] (.bool (PE.knownL p l))
 |0,l,hm=>Mp p l hn fun x hx=>absurd (PE.parts_mem hx) (by have:=PE.parts_kids x;omega)
 |m+1,l,hm=>Mp p l hn fun x hx=>Mq p hn m x.kids Wi
theorem Ky(p:PProg)(l:List PSt)(hn:p.funcs.length<=200)(hrec:∀x∈l,Pu Tryz.prog 60 [.agg p.cells,(.lst false (x.thn.map PSt.cells))] (.bool (PSt.knownL p x.thn))/\Pu Tryz.prog 60 [.agg p.cells,(.lst false (x.els.map PSt.cells))] (.bool (PSt.knownL p x.els))):Pu Tryz.prog 60 [.agg p.cells,(.lst false (l.map PSt.cells))] (.bool (PSt.knownL p l)):=by
 refine APure.of_body (n:=58) Aj Tryz.func60 rfl rfl ?_;refine wk 1 ?_;refine AGo.slot 1 (φ:=l.length<=maxLen) rfl (fun H ι v h=>by have:=B5 h;simpa using this) fun hlen=>?_
 refine wk 1 ?_;refine ax 2 (Ek 3 0) ?_;refine wk 8 ?_;refine Aw (γ:=Nat) 1 (fun k=>⟨58,(Ad (Ad (Ad AM 1 (.lst false (l.map PSt.cells))) 2 (pZ 0)) 5 (iN k)),(Ar (AE 1) 0 (rf 3 [p.cells]))⟩) (fun k=>(l.take k).all (fun e=>e.known p)=true) (fun k=>l.length-k) 0 (Sub.mk' AT Bn) rfl (fun _=>Dz) ?_;intro k hk;refine wk 8 ?_;refine asp 9 (fun hb1=>?_) fun hb1=>?_
 .
  refine wk 1 ?_;have hkl:k<l.length:=Ao hb1;obtain⟨x,hx⟩:=Ah hkl;refine wk 4 ?_;refine AK (γ:=Bool) (fun c=>⟨58,(Ad (Ad (Ad (Ad AM 1 (.lst false (l.map PSt.cells))) 2 (pZ 0)) 5 (iN k)) 57 (.bool c)),(Ar (AE 1) 0 (rf 3 [p.cells]))⟩) (fun c=>c= !(x.known p)) ?_ ?_
  .
   refine wk 3 ?_;refine dq 14 (Ae Aj rfl rfl rfl rfl rfl rfl (Int.natCast_nonneg _) (CI hx) rfl) ?_;refine wk 4 ?_;refine DOps.split 18 rfl (fun hb2=>?_) (fun hb2=>?_)
   .
    refine wk 3 ?_;refine dq 22 (Ae Aj rfl rfl rfl rfl rfl rfl (Int.natCast_nonneg _) (CI hx) rfl) ?_;refine wk 2 ?_;refine dx 25 (Bs Tryz.func78 (Lf p x.name hn)) ?_;refine wk 3 ?_;refine DOps.split 28 rfl (fun hb3=>?_) (fun hb3=>?_)
    .
     refine wk 30 ?_;exact eR
    refine wk 3 ?_;refine dq 32 (Ae Aj rfl rfl rfl rfl rfl rfl (Int.natCast_nonneg _) (CI hx) rfl) ?_;refine wk 2 ?_;refine dx 35 (Bs Tryz.func79 (Mq p hn _ x.es (Nat.le_refl _))) ?_;refine wk 3 ?_;refine DOps.split 38 rfl (fun hb4=>?_) (fun hb4=>?_)
    .
     refine wk 20 ?_;exact eR
    refine wk 3 ?_;refine dq 42 (Ae Aj rfl rfl rfl rfl rfl rfl (Int.natCast_nonneg _) (CI hx) rfl) ?_;refine wk 2 ?_;refine dx 45 (Bs Tryz.func60 ((hrec x (List.mem_of_getElem? hx)).1)) ?_;refine wk 3 ?_;refine DOps.split 48 rfl (fun hb5=>?_) (fun hb5=>?_)
    .
     refine wk 10 ?_;exact eR
    exact eX
   refine wk 13 ?_;refine dq 32 (Ae Aj rfl rfl rfl rfl rfl rfl (Int.natCast_nonneg _) (CI hx) rfl) ?_;refine wk 2 ?_;refine dx 35 (Bs Tryz.func79 (Mq p hn _ x.es (Nat.le_refl _))) ?_;refine wk 3 ?_;refine DOps.split 38 rfl (fun hb6=>?_) (fun hb6=>?_)
   .
    refine wk 20 ?_;exact eR
   refine wk 3 ?_;refine dq 42 (Ae Aj rfl rfl rfl rfl rfl rfl (Int.natCast_nonneg _) (CI hx) rfl) ?_;refine wk 2 ?_;refine dx 45 (Bs Tryz.func60 ((hrec x (List.mem_of_getElem? hx)).1)) ?_;refine wk 3 ?_;refine DOps.split 48 rfl (fun hb7=>?_) (fun hb7=>?_)
   .
    refine wk 10 ?_;exact eR
   exact eX
  intro c hc;refine asp 57 (fun hb8=>?_) fun hb8=>?_
  .
   refine wk 1 ?_;have hno:=IU hc hb8;refine wk 5 ?_;refine⟨[_],⟨rfl,trivial⟩,?_,rfl⟩;refine bc ?_;rw[PSt.knownL_all];exact(Bp hx hno).symm
  refine wk 1 ?_;have hy:=IV hc hb8;exact Um
 refine wk 1 ?_;have hge:=As hb1;refine wk 6 ?_;refine⟨[_],⟨rfl,trivial⟩,?_,rfl⟩;refine bc ?_;rw[PSt.knownL_all];exact(BB hk hge).symm
theorem JS(p:PProg)(hn:p.funcs.length<=200):∀(m:Nat) (l:List PSt),PSt.partsL l<=m->Pu Tryz.prog 60 [.agg p.cells,(.lst false (l.map PSt.cells))] (.bool (PSt.knownL p l))
 |0,l,hm=>Ky p l hn fun x hx=>absurd (PSt.parts_mem hx) YT
 |m+1,l,hm=>Ky p l hn fun x hx=>⟨JS p hn m x.thn KW,JS p hn m x.els KW⟩
theorem Lp(p:PProg)(l:List PE)(hrec:∀x∈l,Pu Tryz.prog 97 [.agg p.cells,.agg x.row] (.int .i64 (x.ty p))):Pu Tryz.prog 81 [.agg p.cells,(.lst false (l.map PE.cells))] (.bool (AW p 1 l)):=by
 refine APure.of_body (n:=19) Aj Tryz.func81 rfl rfl ?_;refine wk 1 ?_;refine AGo.slot 1 (φ:=l.length<=maxLen) rfl (fun H ι v h=>by have:=B5 h;simpa using this) fun hlen=>?_
 refine wk 1 ?_;refine ax 2 (Ek 3 0) ?_;refine wk 8 ?_;refine Aw (γ:=Nat) 1 (fun k=>⟨19,(Ad (Ad (Ad AM 1 (.lst false (l.map PE.cells))) 2 (pZ 0)) 5 (iN k)),(Ar (AE 1) 0 (rf 3 [p.cells]))⟩) (fun k=>(l.take k).all (fun e=>e.ty p==1)=true) (fun k=>l.length-k) 0 (Sub.mk' AT Bn) rfl (fun _=>Dz) ?_;intro k hk;refine wk 8 ?_;refine asp 9 (fun hb1=>?_) fun hb1=>?_
 .
  refine wk 1 ?_;have hkl:k<l.length:=Ao hb1;obtain⟨x,hx⟩:=Ah hkl;refine wk 8 ?_;refine dq 15 (Ae Aj rfl rfl rfl rfl rfl rfl (Int.natCast_nonneg _) (Dg hx) rfl) ?_;refine wk 1 ?_;refine dx 17 (Bs Tryz.func97 (hrec x (List.mem_of_getElem? hx))) ?_;refine wk 2 ?_;refine asp 18 (fun hb2=>?_) fun hb2=>?_
  .
   refine wk 1 ?_;have hno:(x.ty p==1)=false:=by have h:=hb2;simpa using h
   exact bm
  refine wk 1 ?_;have hy:(x.ty p==1)=true:=by have h:=hb2;simpa using h
  exact Um
 exact bx
theorem MY(p:PProg)(l:List PE)(hrec:∀x∈l,Pu Tryz.prog 97 [.agg p.cells,.agg x.row] (.int .i64 (x.ty p))):Pu Tryz.prog 80 [.agg p.cells,(.lst false (l.map PE.cells))] (.bool (AW p 2 l)):=by
 refine APure.of_body (n:=19) Aj Tryz.func80 rfl rfl ?_;refine wk 1 ?_;refine AGo.slot 1 (φ:=l.length<=maxLen) rfl (fun H ι v h=>by have:=B5 h;simpa using this) fun hlen=>?_
 refine wk 1 ?_;refine ax 2 (Ek 3 0) ?_;refine wk 8 ?_;refine Aw (γ:=Nat) 1 (fun k=>⟨19,(Ad (Ad (Ad AM 1 (.lst false (l.map PE.cells))) 2 (pZ 0)) 5 (iN k)),(Ar (AE 1) 0 (rf 3 [p.cells]))⟩) (fun k=>(l.take k).all (fun e=>e.ty p==2)=true) (fun k=>l.length-k) 0 (Sub.mk' AT Bn) rfl (fun _=>Dz) ?_;intro k hk;refine wk 8 ?_;refine asp 9 (fun hb1=>?_) fun hb1=>?_
 .
  refine wk 1 ?_;have hkl:k<l.length:=Ao hb1;obtain⟨x,hx⟩:=Ah hkl;refine wk 8 ?_;refine dq 15 (Ae Aj rfl rfl rfl rfl rfl rfl (Int.natCast_nonneg _) (Dg hx) rfl) ?_;refine wk 1 ?_;refine dx 17 (Bs Tryz.func97 (hrec x (List.mem_of_getElem? hx))) ?_;refine wk 2 ?_;refine asp 18 (fun hb2=>?_) fun hb2=>?_
  .
   refine wk 1 ?_;have hno:(x.ty p==2)=false:=by have h:=hb2;simpa using h
   exact bm
  refine wk 1 ?_;have hy:(x.ty p==2)=true:=by have h:=hb2;simpa using h
  exact Um
 exact bx
theorem UC(p:PProg)(e:PE)(hn:p.funcs.length<=200)(hW:Pu Tryz.prog 81 [.agg p.cells,(.lst false (e.kids.map PE.cells))] (.bool (AW p 1 e.kids)))(hB:Pu Tryz.prog 80 [.agg p.cells,(.lst false (e.kids.map PE.cells))] (.bool (AW p 2 e.kids))):Pu Tryz.prog 97 [.agg p.cells,.agg e.row] (.int .i64 (e.ty p)):=by
 refine APure.of_body (n:=63) Aj Tryz.func97 rfl rfl ?_;refine wk 2 ?_;refine ax 2 (Ek 3 0) ?_;refine ax 3 (Ek 5 1) ?_;refine wk 15 ?_;refine asp 8 (fun hb1=>?_) fun hb1=>?_
 .
  refine wk 8 ?_;exact Gm
 refine wk 6 ?_;refine asp 8 (fun hb2=>?_) fun hb2=>?_
 .
  refine wk 8 ?_;exact Gm
 refine wk 5 ?_;refine asp 8 (fun hb3=>?_) fun hb3=>?_
 .
  refine wk 6 ?_;exact Gm
 refine wk 6 ?_;refine asp 12 (fun hb4=>?_) fun hb4=>?_
 .
  refine wk 6 ?_;refine ax 17 (Bs Tryz.func81 (hW)) ?_;refine wk 1 ?_;refine asp 17 (fun hb5=>?_) fun hb5=>?_
  .
   refine wk 6 ?_;exact Gm
  refine wk 7 ?_;exact Gm
 refine wk 6 ?_;refine asp 18 (fun hb6=>?_) fun hb6=>?_
 .
  refine wk 6 ?_;refine ax 23 (Bs Tryz.func78 (Lf p e.name hn)) ?_;refine wk 7 ?_;refine BC 26 (fun hb7=>?_) fun hb7=>?_
  .
   have hf0:0<=p.fnum e.name:=of_decide_eq_true hb7;obtain⟨G,hG⟩:=Q3 hf0;have hw:=PY hG;refine wk 3 ?_;refine aq 30 (Ae Aj rfl rfl rfl rfl rfl rfl hf0 (EL hG) rfl) ?_;refine wk 4 ?_;refine BC 34 (fun hb8=>?_) fun hb8=>?_
   .
    refine wk 3 ?_;refine ax 38 (Bs Tryz.func81 (hW)) ?_;refine wk 2 ?_;refine asp 39 (fun hb9=>?_) fun hb9=>?_
    .
     refine wk 6 ?_;exact Gm
    refine wk 7 ?_;exact Gm
   refine wk 13 ?_;exact Gm
  refine wk 21 ?_;exact Gm
 refine wk 6 ?_;refine asp 40 (fun hb10=>?_) fun hb10=>?_
 .
  refine wk 7 ?_;refine ax 45 (Bs Tryz.func81 (hW)) ?_;refine wk 2 ?_;refine asp 46 (fun hb11=>?_) fun hb11=>?_
  .
   refine wk 6 ?_;exact Gm
  refine wk 9 ?_;refine BC 50 (fun hb12=>?_) fun hb12=>?_
  .
   refine wk 11 ?_;exact Gm
  refine wk 5 ?_;refine asp 54 (fun hb13=>?_) fun hb13=>?_
  .
   refine wk 6 ?_;exact Gm
  refine wk 7 ?_;exact Gm
 refine wk 7 ?_;refine asp 55 (fun hb14=>?_) fun hb14=>?_
 .
  refine wk 8 ?_;refine ax 62 (Bs Tryz.func80 (hB)) ?_;refine wk 1 ?_;refine asp 62 (fun hb15=>?_) fun hb15=>?_
  .
   refine wk 6 ?_;exact Gm
  refine wk 7 ?_;exact Gm
 refine wk 6 ?_;refine asp 55 (fun hb16=>?_) fun hb16=>?_
 .
  refine wk 8 ?_;refine ax 62 (Bs Tryz.func80 (hB)) ?_;refine wk 1 ?_;refine asp 62 (fun hb17=>?_) fun hb17=>?_
  .
   refine wk 6 ?_;exact Gm
  refine wk 7 ?_;exact Gm
 refine wk 5 ?_;refine asp 55 (fun hb18=>?_) fun hb18=>?_
 .
  refine wk 6 ?_;refine ax 62 (Bs Tryz.func80 (hB)) ?_;refine wk 1 ?_;refine asp 62 (fun hb19=>?_) fun hb19=>?_
  .
   refine wk 6 ?_;exact Gm
  refine wk 7 ?_;exact Gm
 refine wk 7 ?_;exact Gm
theorem K3(p:PProg)(hn:p.funcs.length<=200):∀(m:Nat) (e:PE),e.parts<=m->Pu Tryz.prog 97 [.agg p.cells,.agg e.row] (.int .i64 (e.ty p))
 |0,e,hm=>absurd hm (by have:=PE.parts_kids e;omega)
 |m+1,e,hm=>UC p e hn (Lp p e.kids fun x hx=>K3 p hn m x cZ) (MY p e.kids fun x hx=>K3 p hn m x cZ)
theorem Wn(p:PProg)(hn:p.funcs.length<=200)(l:List PE):Pu Tryz.prog 81 [.agg p.cells,(.lst false (l.map PE.cells))] (.bool (AW p 1 l)):=Lp p l fun x hx=>K3 p hn _ x (Nat.le_refl _)
theorem Yi(p:PProg)(hn:p.funcs.length<=200)(l:List PE):Pu Tryz.prog 80 [.agg p.cells,(.lst false (l.map PE.cells))] (.bool (AW p 2 l)):=MY p l fun x hx=>K3 p hn _ x (Nat.le_refl _)
theorem Oi(p:PProg)(w:Bool)(l:List PSt)(hn:p.funcs.length<=200)(hkn:PSt.knownL p l=true)(hrec:∀x∈l,x.known p=true->Pu Tryz.prog 61 [.agg p.cells,.bool w,(.lst false (x.thn.map PSt.cells))] (.bool (Bj p w x.thn))/\Pu Tryz.prog 61 [.agg p.cells,.bool w,(.lst false (x.els.map PSt.cells))] (.bool (Bj p w x.els))):Pu Tryz.prog 61 [.agg p.cells,.bool w,(.lst false (l.map PSt.cells))] (.bool (Bj p w l)):=by
 refine APure.of_body (n:=80) Aj Tryz.func61 rfl rfl ?_;refine wk 1 ?_;refine AGo.slot 2 (φ:=l.length<=maxLen) rfl (fun H ι v h=>by have:=B5 h;simpa using this) fun hlen=>?_
 refine wk 1 ?_;refine ax 3 (Ek 3 0) ?_;refine wk 8 ?_;refine Aw (γ:=Nat) 1 (fun k=>⟨80,(Ad (Ad (Ad (Ad AM 1 (.bool w)) 2 (.lst false (l.map PSt.cells))) 3 (pZ 0)) 7 (iN k)),(Ar (AE 1) 0 (rf 3 [p.cells]))⟩) (fun k=>(l.take k).all (fun e=>e.fits p w)=true) (fun k=>l.length-k) 0 (Sub.mk' AT Bn) rfl (fun _=>Dz) ?_;intro k hk;refine wk 8 ?_;refine asp 12 (fun hb1=>?_) fun hb1=>?_
 .
  refine wk 1 ?_;have hkl:k<l.length:=Ao hb1;obtain⟨x,hx⟩:=Ah hkl;have hkx:x.known p=true:=by rw[PSt.knownL_all,List.all_eq_true]at hkn;exact hkn x (List.mem_of_getElem? hx)
  refine wk 7 ?_;refine aq 17 (Ae Aj rfl rfl rfl rfl rfl rfl (Int.natCast_nonneg _) (CI hx) rfl) ?_;refine wk 1 ?_;refine ax 8 (Lc Aj 1) ?_;refine wk 1 ?_;refine wk 3 ?_;refine AK (γ:=Bool) (fun c=>⟨80,(Ad (Ad (Ad (Ad (Ad (Ad AM 1 (.bool w)) 2 (.lst false (l.map PSt.cells))) 3 (pZ 0)) 7 (iN k)) 8 (pZ 1)) 26 (.bool c)),(Ar (Ar (AE 2) 0 (rf 3 [p.cells])) 1 (rf 5 [x.row]))⟩) (fun c=>c=(x.kind==4||x.kind==5)) ?_ ?_
  .
   refine wk 5 ?_;refine BC 22 (fun hb2=>?_) fun hb2=>?_
   .
    refine wk 5 ?_;exact YN
   refine wk 5 ?_;exact YN
  intro c hc;refine AK (γ:=Unit) (fun _u=>⟨80,(Ad (Ad (Ad (Ad (Ad AM 1 (.bool w)) 2 (.lst false (l.map PSt.cells))) 3 (pZ 0)) 7 (iN k)) 8 (pZ 1)),(Ar (Ar (AE 2) 0 (rf 3 [p.cells])) 1 (rf 5 [x.row]))⟩) (fun _u=>(bif x.kind==4||x.kind==5 then AW p 2 x.es else AW p 1 x.es)=true) ?_ ?_
  .
   refine asp 26 (fun hb3=>?_) fun hb3=>?_
   .
    refine wk 1 ?_;have hk45:(x.kind==4||x.kind==5)=true:=hc.symm.trans hb3;refine wk 5 ?_;refine ax 30 (Bs Tryz.func80 (Yi p hn x.es)) ?_;refine wk 2 ?_;refine asp 31 (fun hb4=>?_) fun hb4=>?_
    .
     refine wk 1 ?_;have hno:(bif x.kind==4||x.kind==5 then AW p 2 x.es else AW p 1 x.es)=false:=by rw[hk45];have h:=hb4;simpa using h
     exact bu
    refine wk 1 ?_;have h1:(bif x.kind==4||x.kind==5 then AW p 2 x.es else AW p 1 x.es)=true:=by rw[hk45];have h:=hb4;simpa using h
    exact ff
   refine wk 1 ?_;have hk45:(x.kind==4||x.kind==5)=false:=hc.symm.trans hb3;refine wk 5 ?_;refine ax 35 (Bs Tryz.func81 (Wn p hn x.es)) ?_;refine wk 2 ?_;refine asp 36 (fun hb5=>?_) fun hb5=>?_
   .
    refine wk 1 ?_;have hno:(bif x.kind==4||x.kind==5 then AW p 2 x.es else AW p 1 x.es)=false:=by rw[hk45];have h:=hb5;simpa using h
    exact bu
   refine wk 1 ?_;have h1:(bif x.kind==4||x.kind==5 then AW p 2 x.es else AW p 1 x.es)=true:=by rw[hk45];have h:=hb5;simpa using h
   exact ff
  intro _u h1;refine wk 2 ?_;refine AK (γ:=Bool) (fun c=>⟨80,(Ad (Ad (Ad (Ad (Ad (Ad AM 1 (.bool w)) 2 (.lst false (l.map PSt.cells))) 3 (pZ 0)) 7 (iN k)) 8 (pZ 1)) 65 (.bool c)),(Ar (Ar (AE 2) 0 (rf 3 [p.cells])) 1 (rf 5 [x.row]))⟩) (fun c=>c= !(!(x.kind==6&&p.wordF (p.fnum x.name))&& !(x.kind==7&&(decide ((x.es.length:Int)>0)&& !w)))) ?_ ?_
  .
   refine wk 5 ?_;refine DOps.split 40 rfl (fun hb6=>?_) (fun hb6=>?_)
   .
    have hf0:=SM hkx hb6;obtain⟨G,hG⟩:=Q3 hf0;have hw:=PY hG;refine wk 5 ?_;refine dx 46 (Bs Tryz.func78 (Lf p x.name hn)) ?_;refine dq 47 (Ae Aj rfl rfl rfl rfl rfl rfl hf0 (EL hG) rfl) ?_;refine wk 4 ?_;refine DOps.split 51 rfl (fun hb7=>?_) (fun hb7=>?_)
    .
     refine wk 15 ?_;exact cA
    refine wk 4 ?_;refine DOps.split 55 rfl (fun hb8=>?_) (fun hb8=>?_)
    .
     refine wk 6 ?_;refine DOps.split 61 rfl (fun hb9=>?_) (fun hb9=>?_)
     .
      refine wk 5 ?_;exact cA
     refine wk 5 ?_;exact cA
    refine wk 11 ?_;exact cA
   refine wk 15 ?_;refine DOps.split 55 rfl (fun hb10=>?_) (fun hb10=>?_)
   .
    refine wk 6 ?_;refine DOps.split 61 rfl (fun hb11=>?_) (fun hb11=>?_)
    .
     refine wk 5 ?_;exact cA
    refine wk 5 ?_;exact cA
   refine wk 11 ?_;exact cA
  intro c hc;refine asp 65 (fun hb12=>?_) fun hb12=>?_
  .
   refine wk 1 ?_;have hno:=IU hc hb12;refine wk 5 ?_;refine⟨[_],⟨rfl,trivial⟩,?_,rfl⟩;refine bc ?_;rw[CG,Bp hx (by rw[F9,h1,ZV hno];rfl)]
  refine wk 1 ?_;have h2:=IV hc hb12;refine wk 2 ?_;refine AK (γ:=Bool) (fun c=>⟨80,(Ad (Ad (Ad (Ad (Ad (Ad AM 1 (.bool w)) 2 (.lst false (l.map PSt.cells))) 3 (pZ 0)) 7 (iN k)) 8 (pZ 1)) 79 (.bool c)),(Ar (Ar (AE 2) 0 (rf 3 [p.cells])) 1 (rf 5 [x.row]))⟩) (fun c=>c= !(Bj p w x.thn&&Bj p w x.els)) ?_ ?_
  .
   refine wk 5 ?_;refine ax 70 (Bs Tryz.func61 ((hrec x (List.mem_of_getElem? hx) hkx).1)) ?_;refine wk 2 ?_;refine BC 72 (fun hb13=>?_) fun hb13=>?_
   .
    refine wk 8 ?_;exact YN
   refine wk 4 ?_;refine ax 77 (Bs Tryz.func61 ((hrec x (List.mem_of_getElem? hx) hkx).2)) ?_;refine wk 3 ?_;exact YN
  intro c hc;refine asp 79 (fun hb14=>?_) fun hb14=>?_
  .
   refine wk 1 ?_;have hno:=IU hc hb14;refine wk 5 ?_;refine⟨[_],⟨rfl,trivial⟩,?_,rfl⟩;refine bc ?_;rw[CG,Bp hx (by rw[F9,h1,ZU hno];rfl)]
  refine wk 1 ?_;have h3:=IV hc hb14;have hy:x.fits p w=true:=by rw[F9,h1,ZW h2 h3];rfl
  refine wk 3 ?_;refine aq 14 (A8 rfl rfl hkl hlen) ?_;exact YJ
 refine wk 1 ?_;have hge:=As hb1;refine wk 6 ?_;refine⟨[_],⟨rfl,trivial⟩,?_,rfl⟩;refine bc ?_;rw[CG];exact(BB hk hge).symm
theorem L5(p:PProg)(w:Bool)(hn:p.funcs.length<=200):∀(m:Nat) (l:List PSt),PSt.partsL l<=m->PSt.knownL p l=true->Pu Tryz.prog 61 [.agg p.cells,.bool w,(.lst false (l.map PSt.cells))] (.bool (Bj p w l))
 |0,l,hm,hk=>Oi p w l hn hk fun x hx=>absurd (PSt.parts_mem hx) YT
 |m+1,l,hm,hk=>Oi p w l hn hk fun x hx hkx=>by
  rw[PSt.known_eq]at hkx;simp only[Bool.and_eq_true]at hkx;exact⟨L5 p w hn m x.thn KW hkx.2.2.1,L5 p w hn m x.els KW hkx.2.2.2⟩
theorem Nx(l:List PE)(hp:PE.partsL l<=1000000)(hrec:∀x∈l,Pu Tryz.prog 96 [(.lst false (x.kids.map PE.cells))] (.lst false ((PE.usesL x.kids).map Use.cells))):Pu Tryz.prog 96 [(.lst false (l.map PE.cells))] (.lst false ((PE.usesL l).map Use.cells)):=by
 refine APure.of_body (n:=64) Aj Tryz.func96 rfl rfl ?_;refine wk 1 ?_;refine AGo.slot 0 (φ:=l.length<=maxLen) rfl (fun H ι v h=>by have:=B5 h;simpa using this) fun hlen=>?_
 refine wk 9 ?_;refine AX (.dry 3 0 3 true rfl rfl rfl Ab) ?_;refine wk 4 ?_;refine Aw (γ:=Nat) 1 (fun k=>⟨64,(Ad (Ad (Ad AM 0 (.lst false (l.map PE.cells))) 3 (Fw 0 (PE.usesL (l.take k)).length)) 4 (iN k)),(Ar (AE 1) 0 (rt 3 ((PE.usesL (l.take k)).map Use.cells)))⟩) (fun k=>k<=l.length) (fun k=>l.length-k) 0 (Sub.mk' (by repeat(first|exact ESub.new _|refine ESub.put ?_ (by first|rfl|exact OQ (by rw[List.take_zero,PE.usesL];rfl)))) (by repeat(first|exact HSub.refl _|exact HSub.none _|exact Be _|exact A6 E3|refine HSub.put ?_ (by first|rfl|exact Hm (by rw[List.take_zero,PE.usesL];rfl))|refine Bc ?_ E3|refine Bq ?_ Ab))) (Nat.zero_le _) (fun _=>Dz) ?_;intro k hk;refine wk 8 ?_;refine asp 8 (fun hb1=>?_) fun hb1=>?_
 .
  refine wk 1 ?_;have hkl:k<l.length:=Ao hb1;obtain⟨x,hx⟩:=Ah hkl;refine wk 8 ?_;refine aq 13 (Ae Aj rfl rfl rfl rfl rfl rfl (Int.natCast_nonneg _) (Dg hx) rfl) ?_;refine wk 3 ?_;refine AK (γ:=Unit) (fun _u=>⟨64,(Ad (Ad (Ad AM 0 (.lst false (l.map PE.cells))) 3 (Fw 0 (PE.usesL (l.take k)++PE.use x.kind x.name x.kids.length).length)) 4 (iN k)),(Ar (AE 1) 0 (rt 3 ((PE.usesL (l.take k)++PE.use x.kind x.name x.kids.length).map Use.cells)))⟩) (fun _u=>True) ?_ ?_
  .
   refine wk 6 ?_;refine asp 16 (fun hb2=>?_) fun hb2=>?_
   .
    refine wk 1 ?_;have huse:=gv x.name x.kids.length hb2;refine wk 4 ?_;refine aq 21 (Ae Aj rfl rfl rfl rfl rfl rfl (Int.natCast_nonneg _) (Dg hx) rfl) ?_;refine wk 3 ?_;refine ax 25 EI ?_;refine ax 26 (Ba Aj (n:=(PE.usesL (l.take k)).length) (m:=1) rfl rfl rfl rfl rfl rfl rfl rfl rfl (List.length_map _).symm rfl rfl (Nat.zero_lt_succ _) (.lst _ _) GK Hp rfl Y4 Y3) ?_;refine wk 2 ?_;exact PL
   refine wk 1 ?_;have u2:=hb2;refine wk 5 ?_;refine asp 27 (fun hb3=>?_) fun hb3=>?_
   .
    refine wk 1 ?_;have huse:=gt x.name x.kids.length u2 hb3;refine wk 4 ?_;refine aq 32 (Ae Aj rfl rfl rfl rfl rfl rfl (Int.natCast_nonneg _) (Dg hx) rfl) ?_;refine wk 3 ?_;refine ax 36 EI ?_;refine ax 37 (Ba Aj (n:=(PE.usesL (l.take k)).length) (m:=1) rfl rfl rfl rfl rfl rfl rfl rfl rfl (List.length_map _).symm rfl rfl (Nat.zero_lt_succ _) (.lst _ _) GK Hp rfl Y4 Y3) ?_;refine wk 2 ?_;exact PL
   refine wk 1 ?_;have u3:=hb3;refine wk 5 ?_;refine asp 38 (fun hb4=>?_) fun hb4=>?_
   .
    refine wk 1 ?_;have huse:PE.use x.kind x.name x.kids.length=[⟨x.name,4,(((x.kids.map PE.cells).length:Nat):Int)⟩]:=by rw[List.length_map];exact gr _ _ u2 u3 hb4
    refine wk 4 ?_;refine dq 43 (Ae Aj rfl rfl rfl rfl rfl rfl (Int.natCast_nonneg _) (Dg hx) rfl) ?_;refine wk 4 ?_;refine dq 48 (Ae Aj rfl rfl rfl rfl rfl rfl (Int.natCast_nonneg _) (Dg hx) rfl) ?_;refine wk 4 ?_;refine dx 53 EI ?_;refine dx 54 (Ba Aj (n:=(PE.usesL (l.take k)).length) (m:=1) rfl rfl rfl rfl rfl rfl rfl rfl rfl (List.length_map _).symm rfl rfl (Nat.zero_lt_succ _) (.lst _ _) GK Hp rfl Y4 Y3) ?_;refine wk 2 ?_;exact PL
   refine wk 1 ?_;have huse:=gy x.name x.kids.length u2 u3 hb4;refine wk 1 ?_;exact PL
  intro _u _;refine wk 4 ?_;refine aq 58 (Ae Aj rfl rfl rfl rfl rfl rfl (Int.natCast_nonneg _) (Dg hx) rfl) ?_;refine wk 2 ?_;refine ax 61 (Bs Tryz.func96 (hrec x (List.mem_of_getElem? hx))) ?_;refine ax 62 (Ba Aj (n:=(PE.usesL (l.take k)++PE.use x.kind x.name x.kids.length).length) (m:=(PE.usesL x.kids).length) rfl rfl rfl rfl rfl rfl rfl rfl rfl (List.length_map _).symm rfl rfl (Nat.zero_lt_succ _) (.lst _ _) RK RL (List.length_map _).symm Y4 Y3) ?_;refine wk 4 ?_;refine aq 10 (A8 rfl rfl hkl hlen) ?_;refine wk 2 ?_;exact⟨k+1,Drop.mk' (by repeat(first|exact EDrop.new _ _|refine EDrop.put ?_ (by first|rfl|exact OQ (by rw[Nw hx];simp only[List.length_append])) PS)) (by repeat(first|exact HDrop.none _ _|exact C1 _ _|refine HDrop.put ?_ (by first|rfl|exact Hm (by rw[Nw hx];simp only[List.map_append])) rfl PV)),hkl,by omega⟩
 exact bl
theorem Qw:∀(m:Nat) (l:List PE),PE.partsL l<=m->PE.partsL l<=1000000->Pu Tryz.prog 96 [(.lst false (l.map PE.cells))] (.lst false ((PE.usesL l).map Use.cells))
 |0,l,hm,hp=>Nx l hp fun x hx=>absurd (PE.parts_mem hx) (by have:=PE.parts_kids x;omega)
 |m+1,l,hm,hp=>Nx l hp fun x hx=>Qw m x.kids Wi Wi
theorem Lz(l:List PSt)(hp:PSt.partsL l<=1000000)(hrec:∀x∈l,Pu Tryz.prog 77 [(.lst false (x.thn.map PSt.cells))] (.lst false ((PSt.usesL x.thn).map Use.cells))/\Pu Tryz.prog 77 [(.lst false (x.els.map PSt.cells))] (.lst false ((PSt.usesL x.els).map Use.cells))):Pu Tryz.prog 77 [(.lst false (l.map PSt.cells))] (.lst false ((PSt.usesL l).map Use.cells)):=by
 refine APure.of_body (n:=80) Aj Tryz.func77 rfl rfl ?_;refine wk 1 ?_;refine AGo.slot 0 (φ:=l.length<=maxLen) rfl (fun H ι v h=>by have:=B5 h;simpa using this) fun hlen=>?_
 refine wk 9 ?_;refine AX (.dry 3 0 3 true rfl rfl rfl Ab) ?_;refine wk 4 ?_;refine Aw (γ:=Nat) 1 (fun k=>⟨80,(Ad (Ad (Ad AM 0 (.lst false (l.map PSt.cells))) 3 (Fw 0 (PSt.usesL (l.take k)).length)) 4 (iN k)),(Ar (AE 1) 0 (rt 3 ((PSt.usesL (l.take k)).map Use.cells)))⟩) (fun k=>k<=l.length) (fun k=>l.length-k) 0 (Sub.mk' (by repeat(first|exact ESub.new _|refine ESub.put ?_ (by first|rfl|exact OQ (by rw[List.take_zero,PSt.usesL];rfl)))) (by repeat(first|exact HSub.refl _|exact HSub.none _|exact Be _|exact A6 E3|refine HSub.put ?_ (by first|rfl|exact Hm (by rw[List.take_zero,PSt.usesL];rfl))|refine Bc ?_ E3|refine Bq ?_ Ab))) (Nat.zero_le _) (fun _=>Dz) ?_;intro k hk;refine wk 8 ?_;refine asp 8 (fun hb1=>?_) fun hb1=>?_
 .
  refine wk 1 ?_;have hkl:k<l.length:=Ao hb1;obtain⟨x,hx⟩:=Ah hkl;refine wk 8 ?_;refine aq 13 (Ae Aj rfl rfl rfl rfl rfl rfl (Int.natCast_nonneg _) (CI hx) rfl) ?_;refine wk 3 ?_;refine AK (γ:=Unit) (fun _u=>⟨80,(Ad (Ad (Ad AM 0 (.lst false (l.map PSt.cells))) 3 (Fw 0 (PSt.usesL (l.take k)++PSt.use x.kind x.name x.es.length).length)) 4 (iN k)),(Ar (AE 1) 0 (rt 3 ((PSt.usesL (l.take k)++PSt.use x.kind x.name x.es.length).map Use.cells)))⟩) (fun _u=>True) ?_ ?_
  .
   refine wk 6 ?_;refine asp 16 (fun hb2=>?_) fun hb2=>?_
   .
    refine wk 1 ?_;have huse:=dw x.name x.es.length hb2;refine wk 4 ?_;refine aq 21 (Ae Aj rfl rfl rfl rfl rfl rfl (Int.natCast_nonneg _) (CI hx) rfl) ?_;refine wk 3 ?_;refine ax 25 EI ?_;refine ax 26 (Ba Aj (n:=(PSt.usesL (l.take k)).length) (m:=1) rfl rfl rfl rfl rfl rfl rfl rfl rfl (List.length_map _).symm rfl rfl (Nat.zero_lt_succ _) (.lst _ _) GK Hp rfl eT eS) ?_;refine wk 2 ?_;exact PL
   refine wk 1 ?_;have u2:=hb2;refine wk 5 ?_;refine asp 27 (fun hb3=>?_) fun hb3=>?_
   .
    refine wk 1 ?_;have huse:=dv x.name x.es.length u2 hb3;refine wk 4 ?_;refine aq 32 (Ae Aj rfl rfl rfl rfl rfl rfl (Int.natCast_nonneg _) (CI hx) rfl) ?_;refine wk 3 ?_;refine ax 36 EI ?_;refine ax 37 (Ba Aj (n:=(PSt.usesL (l.take k)).length) (m:=1) rfl rfl rfl rfl rfl rfl rfl rfl rfl (List.length_map _).symm rfl rfl (Nat.zero_lt_succ _) (.lst _ _) GK Hp rfl eT eS) ?_;refine wk 2 ?_;exact PL
   refine wk 1 ?_;have u3:=hb3;refine wk 5 ?_;refine asp 38 (fun hb4=>?_) fun hb4=>?_
   .
    refine wk 1 ?_;have huse:PSt.use x.kind x.name x.es.length=[⟨x.name,4,(((x.es.map PE.cells).length:Nat):Int)⟩]:=by rw[List.length_map];exact dt _ _ u2 u3 hb4
    refine wk 4 ?_;refine dq 43 (Ae Aj rfl rfl rfl rfl rfl rfl (Int.natCast_nonneg _) (CI hx) rfl) ?_;refine wk 4 ?_;refine dq 48 (Ae Aj rfl rfl rfl rfl rfl rfl (Int.natCast_nonneg _) (CI hx) rfl) ?_;refine wk 4 ?_;refine dx 53 EI ?_;refine dx 54 (Ba Aj (n:=(PSt.usesL (l.take k)).length) (m:=1) rfl rfl rfl rfl rfl rfl rfl rfl rfl (List.length_map _).symm rfl rfl (Nat.zero_lt_succ _) (.lst _ _) GK Hp rfl eT eS) ?_;refine wk 2 ?_;exact PL
   refine wk 1 ?_;have huse:=dy x.name x.es.length u2 u3 hb4;refine wk 1 ?_;exact PL
  intro _u _;refine wk 5 ?_;refine aq 58 (Ae Aj rfl rfl rfl rfl rfl rfl (Int.natCast_nonneg _) (CI hx) rfl) ?_;refine wk 2 ?_;refine ax 61 (Bs Tryz.func96 (Qw _ x.es (Nat.le_refl _) fW)) ?_;refine ax 62 (Ba Aj (n:=(PSt.usesL (l.take k)++PSt.use x.kind x.name x.es.length).length) (m:=(PE.usesL x.es).length) rfl rfl rfl rfl rfl rfl rfl rfl rfl cX rfl rfl (Nat.zero_lt_succ _) (.lst _ _) RK RL (List.length_map _).symm eT eS) ?_;refine wk 7 ?_;refine aq 66 (Ae Aj rfl rfl rfl rfl rfl rfl (Int.natCast_nonneg _) (CI hx) rfl) ?_;refine wk 2 ?_;refine ax 69 (Bs Tryz.func77 ((hrec x (List.mem_of_getElem? hx)).1)) ?_;refine ax 70 (Ba Aj (n:=(PSt.usesL (l.take k)++PSt.use x.kind x.name x.es.length).length+(PE.usesL x.es).length) (m:=(PSt.usesL x.thn).length) rfl rfl rfl rfl rfl rfl rfl rfl rfl cX rfl rfl (Nat.zero_lt_succ _) (.lst _ _) RK RL (List.length_map _).symm eT eS) ?_;refine wk 6 ?_;refine aq 74 (Ae Aj rfl rfl rfl rfl rfl rfl (Int.natCast_nonneg _) (CI hx) rfl) ?_;refine wk 2 ?_;refine ax 77 (Bs Tryz.func77 ((hrec x (List.mem_of_getElem? hx)).2)) ?_;refine ax 78 (Ba Aj (n:=(PSt.usesL (l.take k)++PSt.use x.kind x.name x.es.length).length+(PE.usesL x.es).length+(PSt.usesL x.thn).length) (m:=(PSt.usesL x.els).length) rfl rfl rfl rfl rfl rfl rfl rfl rfl cX rfl rfl (Nat.zero_lt_succ _) (.lst _ _) RK RL (List.length_map _).symm eT eS) ?_;refine wk 4 ?_;refine aq 10 (A8 rfl rfl hkl hlen) ?_;refine wk 2 ?_;exact⟨k+1,Drop.mk' (by repeat(first|exact EDrop.new _ _|refine EDrop.put ?_ (by first|rfl|exact OQ (by rw[Ly hx];simp only[List.length_append])) PS)) (by repeat(first|exact HDrop.none _ _|exact C1 _ _|refine HDrop.put ?_ (by first|rfl|exact Hm (by rw[Ly hx];simp only[List.map_append])) rfl PV)),hkl,by omega⟩
 exact bl
theorem Ji:∀(m:Nat) (l:List PSt),PSt.partsL l<=m->PSt.partsL l<=1000000->Pu Tryz.prog 77 [(.lst false (l.map PSt.cells))] (.lst false ((PSt.usesL l).map Use.cells))
 |0,l,hm,hp=>Lz l hp fun x hx=>absurd (PSt.parts_mem hx) YT
 |m+1,l,hm,hp=>Lz l hp fun x hx=>⟨Ji m x.thn KW KW,Ji m x.els KW KW⟩
theorem Kv(l:List ByteArray):Pu Tryz.prog 74 [(.lst false (l.map D6))] (.bool (Eb l)):=by
 refine APure.of_body (n:=18) Aj Tryz.func74 rfl rfl ?_;refine wk 1 ?_;refine AGo.slot 0 (φ:=l.length<=maxLen) rfl (fun H ι v h=>by have:=B5 h;simpa using this) fun hlen=>?_
 refine wk 9 ?_;refine Aw (γ:=Nat) 0 (fun k=>⟨18,(Ad (Ad AM 0 (.lst false (l.map D6))) 3 (iN k)),(AE 0)⟩) (fun k=>((List.range l.length).take k).all (fun i=>placeOf ((l[i]?).getD ⟨#[]⟩) l 0==(i:Int))=true) (fun k=>l.length-k) 0 (Sub.mk' AT Bn) rfl (fun _=>fun b hb=>BO hb) ?_;intro k hk;refine wk 8 ?_;refine asp 7 (fun hb1=>?_) fun hb1=>?_
 .
  refine wk 1 ?_;have hkl:k<l.length:=Ao hb1;obtain⟨x,hx⟩:=Ah hkl;refine wk 8 ?_;refine aq 13 Ip ?_;refine wk 1 ?_;refine ax 15 (Bs Tryz.func82 (IS l x)) ?_;refine wk 3 ?_;refine asp 17 (fun hb2=>?_) fun hb2=>?_
  .
   refine wk 1 ?_;have hn:(placeOf x l 0==(k:Int))=false:=by have h:=hb2;simpa using h
   refine wk 5 ?_;refine⟨[_],⟨rfl,trivial⟩,?_,rfl⟩;exact bc (Bp (JU hkl) ((P4 hx).trans hn)).symm
  refine wk 1 ?_;have hy:(placeOf x l 0==(k:Int))=true:=by have h:=hb2;simpa using h
  refine wk 3 ?_;refine aq 9 (A8 rfl rfl hkl hlen) ?_;refine wk 2 ?_;exact⟨k+1,Drop.mk' FSq FT,Dl (JU hkl) hk ((P4 hx).trans hy),by omega⟩
 refine wk 1 ?_;have hge:=As hb1;refine wk 6 ?_;refine⟨[_],⟨rfl,trivial⟩,?_,rfl⟩;exact bc (BB hk (by rw[List.length_range];exact hge)).symm
theorem Xm(p:PProg)(hp:PSm p):Pu Tryz.prog 58 [.agg p.cells] (.bool (p.names16)):=by
 refine APure.of_body (n:=94) Aj Tryz.func58 rfl rfl ?_;refine wk 2 ?_;refine ax 1 (Ek 3 0) ?_;refine wk 6 ?_;refine ax 9 (Bs Tryz.func75 (JC p hp.v hp.a hp.n200)) ?_;refine ax 10 (Bs Tryz.func74 (Kv _)) ?_;refine wk 2 ?_;refine asp 11 (fun hb1=>?_) fun hb1=>?_
 .
  refine wk 1 ?_;have hn:Eb p.globals=false:=by have h:=hb1;simpa using h
  refine wk 5 ?_;refine⟨[_],⟨rfl,trivial⟩,?_,rfl⟩;refine bc ?_;rw[Fy,hn];rfl
 refine wk 1 ?_;have hug:Eb p.globals=true:=by have h:=hb1;simpa using h
 refine wk 7 ?_;refine Aw (γ:=Nat) 1 (fun k=>⟨94,(Ad (Ad AM 1 (pZ 0)) 3 (iN k)),(Ar (AE 1) 0 (rf 3 [p.cells]))⟩) (fun k=>(p.funcs.zipIdx.take k).all (Jy p)=true) (fun k=>p.funcs.length-k) 0 (Sub.mk' AT Bn) rfl (fun _=>Dz) ?_;intro k hk;refine wk 9 ?_;refine asp 16 (fun hb2=>?_) fun hb2=>?_
 .
  refine wk 1 ?_;have hkl:k<p.funcs.length:=Ao hb2;obtain⟨x,hx⟩:=Ah hkl;refine wk 9 ?_;refine aq 22 (GI Aj (AU hx)) ?_;refine wk 1 ?_;refine ax 24 (Bs Tryz.func76 (Me x (hp.fn x (List.mem_of_getElem? hx)).1 (hp.fn x (List.mem_of_getElem? hx)).2)) ?_;refine ax 25 (Bs Tryz.func74 (Kv _)) ?_;refine wk 2 ?_;refine asp 26 (fun hb3=>?_) fun hb3=>?_
  .
   refine wk 1 ?_;have hn:Eb x.names=false:=by have h:=hb3;simpa using h
   refine wk 5 ?_;refine⟨[_],⟨rfl,trivial⟩,?_,rfl⟩;refine bc ?_;rw[Fy,Bp (BK hx) (SC hn),Bool.and_false]
  refine wk 1 ?_;have hun:Eb x.names=true:=by have h:=hb3;simpa using h
  refine wk 6 ?_;refine aq 30 (GI Aj (AU hx)) ?_;refine wk 2 ?_;refine ax 33 (Bs Tryz.func77 (Ji _ x.body (Nat.le_refl _) (hp.body x (List.mem_of_getElem? hx)))) ?_;refine wk 7 ?_;refine Aw (γ:=Nat) 1 (fun j=>⟨94,(Ad (Ad (Ad (Ad AM 1 (pZ 0)) 3 (iN k)) 4 (.lst false ((PSt.usesL x.body).map Use.cells))) 5 (iN j)),(Ar (AE 1) 0 (rf 3 [p.cells]))⟩) (fun j=>((PSt.usesL x.body).take j).all (Fq p k)=true) (fun j=>(PSt.usesL x.body).length-j) 0 (Sub.mk' AT Bn) rfl (fun _=>Dz) ?_;intro j hj;refine wk 8 ?_;refine asp 37 (fun hb4=>?_) fun hb4=>?_
  .
   refine wk 1 ?_;have hjl:j<(PSt.usesL x.body).length:=Ao hb4;obtain⟨u,hu⟩:=Ah hjl;refine wk 9 ?_;refine dq 45 (GI Aj (AU hu)) ?_;refine wk 2 ?_;refine dx 48 (Bs Tryz.func62 (DV p k u.name hp.v hp.a hp.n200 hp.fn)) ?_;refine wk 7 ?_;refine AK (γ:=Bool) (fun c=>⟨94,(Ad (Ad (Ad (Ad (Ad AM 1 (pZ 0)) 3 (iN k)) 4 (.lst false ((PSt.usesL x.body).map Use.cells))) 5 (iN j)) 93 (.bool c)),(Ar (AE 1) 0 (rf 3 [p.cells]))⟩) (fun c=>c= !(Fq p k u)) ?_ ?_
   .
    refine wk 3 ?_;refine aq 53 (GI Aj (AU hu)) ?_;refine wk 4 ?_;refine BC 57 (fun hb5=>?_) fun hb5=>?_
    .
     refine wk 4 ?_;refine BC 61 (fun hb6=>?_) fun hb6=>?_
     .
      refine wk 4 ?_;refine BC 65 (fun hb7=>?_) fun hb7=>?_
      .
       refine wk 29 ?_;exact Nf
      refine wk 2 ?_;refine aq 68 (GI Aj (AU hu)) ?_;refine wk 4 ?_;refine BC 72 (fun hb8=>?_) fun hb8=>?_
      .
       refine wk 5 ?_;refine BC 77 (fun hb9=>?_) fun hb9=>?_
       .
        refine wk 17 ?_;exact Nf
       refine wk 2 ?_;refine aq 80 (GI Aj (AU hu)) ?_;refine wk 4 ?_;refine BC 84 (fun hb10=>?_) fun hb10=>?_
       .
        refine wk 3 ?_;refine BC 87 (fun hb11=>?_) fun hb11=>?_
        .
         refine wk 7 ?_;exact Nf
        refine wk 7 ?_;exact Nf
       refine wk 10 ?_;exact Nf
      refine wk 7 ?_;refine aq 80 (GI Aj (AU hu)) ?_;refine wk 4 ?_;refine BC 84 (fun hb12=>?_) fun hb12=>?_
      .
       refine wk 3 ?_;refine BC 87 (fun hb13=>?_) fun hb13=>?_
       .
        refine wk 7 ?_;exact Nf
       refine wk 7 ?_;exact Nf
      refine wk 10 ?_;exact Nf
     refine wk 6 ?_;refine aq 68 (GI Aj (AU hu)) ?_;refine wk 4 ?_;refine BC 72 (fun hb14=>?_) fun hb14=>?_
     .
      refine wk 5 ?_;refine BC 77 (fun hb15=>?_) fun hb15=>?_
      .
       refine wk 17 ?_;exact Nf
      refine wk 2 ?_;refine aq 80 (GI Aj (AU hu)) ?_;refine wk 4 ?_;refine BC 84 (fun hb16=>?_) fun hb16=>?_
      .
       refine wk 3 ?_;refine BC 87 (fun hb17=>?_) fun hb17=>?_
       .
        refine wk 7 ?_;exact Nf
       refine wk 7 ?_;exact Nf
      refine wk 10 ?_;exact Nf
     refine wk 7 ?_;refine aq 80 (GI Aj (AU hu)) ?_;refine wk 4 ?_;refine BC 84 (fun hb18=>?_) fun hb18=>?_
     .
      refine wk 3 ?_;refine BC 87 (fun hb19=>?_) fun hb19=>?_
      .
       refine wk 7 ?_;exact Nf
      refine wk 7 ?_;exact Nf
     refine wk 10 ?_;exact Nf
    refine wk 10 ?_;refine aq 68 (GI Aj (AU hu)) ?_;refine wk 4 ?_;refine BC 72 (fun hb20=>?_) fun hb20=>?_
    .
     refine wk 5 ?_;refine BC 77 (fun hb21=>?_) fun hb21=>?_
     .
      refine wk 17 ?_;exact Nf
     refine wk 2 ?_;refine aq 80 (GI Aj (AU hu)) ?_;refine wk 4 ?_;refine BC 84 (fun hb22=>?_) fun hb22=>?_
     .
      refine wk 3 ?_;refine BC 87 (fun hb23=>?_) fun hb23=>?_
      .
       refine wk 7 ?_;exact Nf
      refine wk 7 ?_;exact Nf
     refine wk 10 ?_;exact Nf
    refine wk 7 ?_;refine aq 80 (GI Aj (AU hu)) ?_;refine wk 4 ?_;refine BC 84 (fun hb24=>?_) fun hb24=>?_
    .
     refine wk 3 ?_;refine BC 87 (fun hb25=>?_) fun hb25=>?_
     .
      refine wk 7 ?_;exact Nf
     refine wk 7 ?_;exact Nf
    refine wk 10 ?_;exact Nf
   intro c hc;refine asp 93 (fun hb26=>?_) fun hb26=>?_
   .
    refine wk 1 ?_;have hn:Fq p k u=false:=IU hc hb26;refine wk 5 ?_;refine⟨[_],⟨rfl,trivial⟩,?_,rfl⟩;refine bc ?_;rw[Fy,Bp (BK hx) (SB hu hn),Bool.and_false]
   refine wk 1 ?_;have hy:Fq p k u=true:=IV hc hb26;refine wk 3 ?_;refine aq 39 (A8 rfl rfl hjl f9) ?_;exact fH
  refine wk 1 ?_;have hall:=BB hj (As hb4);refine wk 3 ?_;refine aq 18 (A8 rfl rfl hkl YV) ?_;refine wk 2 ?_;exact⟨k+1,Drop.mk' FSq FT,Dl (BK hx) hk (U8 hun hall),by omega⟩
 refine wk 1 ?_;have hge:=As hb2;refine wk 6 ?_;refine⟨[_],⟨rfl,trivial⟩,?_,rfl⟩;refine bc ?_;rw[Fy,hug,BB hk (by rw[List.length_zipIdx];exact hge)];rfl
theorem Sy(p:PProg)(hp:PSm p)(h1:1<=p.funcs.length)(hnm:p.names16=true):Pu Tryz.prog 59 [.agg p.cells] (.bool (p.numbers)):=by
 refine APure.of_body (n:=81) Aj Tryz.func59 rfl rfl ?_;refine wk 2 ?_;refine ax 1 (Ek 3 0) ?_;refine wk 8 ?_;refine Aw (γ:=Nat) 1 (fun k=>⟨81,(Ad (Ad AM 1 (pZ 0)) 3 (iN k)),(Ar (AE 1) 0 (rf 3 [p.cells]))⟩) (fun k=>(p.funcs.zipIdx.take k).all (dZ p)=true) (fun k=>p.funcs.length-k) 0 (Sub.mk' AT Bn) rfl (fun _=>Dz) ?_;intro k hk;refine wk 9 ?_;refine asp 13 (fun hb1=>?_) fun hb1=>?_
 .
  refine wk 1 ?_;have hkl:k<p.funcs.length:=Ao hb1;obtain⟨x,hx⟩:=Ah hkl;refine wk 8 ?_;refine aq 19 (GI Aj (AU hx)) ?_;refine wk 2 ?_;refine ax 22 (Bs Tryz.func77 (Ji _ x.body (Nat.le_refl _) (hp.body x (List.mem_of_getElem? hx)))) ?_;refine wk 7 ?_;refine Aw (γ:=Nat) 1 (fun j=>⟨81,(Ad (Ad (Ad (Ad AM 1 (pZ 0)) 3 (iN k)) 4 (.lst false ((PSt.usesL x.body).map Use.cells))) 5 (iN j)),(Ar (AE 1) 0 (rf 3 [p.cells]))⟩) (fun j=>((PSt.usesL x.body).take j).all (Eo p k)=true) (fun j=>(PSt.usesL x.body).length-j) 0 (Sub.mk' AT Bn) rfl (fun _=>Dz) ?_;intro j hj;refine wk 8 ?_;refine asp 26 (fun hb2=>?_) fun hb2=>?_
  .
   refine wk 1 ?_;have hjl:j<(PSt.usesL x.body).length:=Ao hb2;obtain⟨u,hu⟩:=Ah hjl;refine wk 8 ?_;refine aq 31 (GI Aj (AU hu)) ?_;refine wk 4 ?_;refine asp 34 (fun hb3=>?_) fun hb3=>?_
   .
    refine wk 1 ?_;have hy:Eo p k u=true:=RV hb3;exact bD
   refine wk 1 ?_;have hk4:=hb3;obtain⟨hG0,G,hG⟩:=di (Xn hnm hx hu) (by simpa using hk4);refine wk 7 ?_;refine dq 40 (GI Aj (AU hu)) ?_;refine wk 2 ?_;refine dx 43 (Bs Tryz.func62 (DV p k u.name hp.v hp.a hp.n200 hp.fn)) ?_;refine wk 11 ?_;refine dq 49 (Ae Aj rfl rfl rfl rfl rfl rfl hG0 (EL hG) rfl) ?_;refine wk 5 ?_;refine dq 55 (GI Aj (AU hu)) ?_;refine wk 4 ?_;refine asp 58 (fun hb4=>?_) fun hb4=>?_
   .
    refine wk 1 ?_;have hn:Eo p k u=false:=by rw[Ny hk4 hG];have h:=hb4;rw[List.length_map]at h;simpa using h
    refine wk 5 ?_;refine⟨[_],⟨rfl,trivial⟩,?_,rfl⟩;refine bc ?_;unfold PProg.numbers;rw[Bp (BK hx) (Bp hu hn)];rfl
   refine wk 1 ?_;have hy:Eo p k u=true:=by rw[Ny hk4 hG];have h:=hb4;rw[List.length_map]at h;simpa using h
   exact bD
  refine wk 1 ?_;have hall:dZ p (x,k)=true:=BB hj (As hb2);refine wk 3 ?_;refine aq 15 (A8 rfl rfl hkl YV) ?_;refine wk 2 ?_;exact⟨k+1,Drop.mk' FSq FT,Dl (BK hx) hk hall,by omega⟩
 refine wk 1 ?_;have hge:=As hb1;have hpn:=hp.n;obtain⟨g,hlast⟩:=Ah (l:=p.funcs) (k:=p.funcs.length-1) Aa;refine wk 8 ?_;refine aq 64 (AG (r:=.int .i64 ((p.funcs.length:Int)-1)) rfl rfl rfl PU) ?_;refine aq 65 (Ae Aj rfl rfl rfl rfl rfl rfl Aa (EL (by rw[show((p.funcs.length:Int)-1).toNat=p.funcs.length-1 by omega];exact hlast)) rfl) ?_;refine wk 1 ?_;refine ax 8 (Lc Aj 1) ?_;refine wk 1 ?_;refine wk 7 ?_;refine BC 70 (fun hb5=>?_) fun hb5=>?_
 .
  refine wk 6 ?_;refine BC 76 (fun hb6=>?_) fun hb6=>?_
  .
   refine wk 7 ?_;exact ct
  refine wk 7 ?_;exact ct
 refine wk 13 ?_;exact ct
theorem S7(p:PProg)(hp:PSm p)(h1:1<=p.funcs.length):Pu Tryz.prog 36 [.agg p.cells] (.int .i64 p.check16):=by
 refine APure.of_body (n:=9) Aj Tryz.func36 rfl rfl ?_;refine wk 2 ?_;refine ax 1 (Ek 3 0) ?_;refine wk 6 ?_;refine ax 4 (Bs Tryz.func58 (Xm p hp)) ?_;refine wk 2 ?_;refine asp 5 (fun hb1=>?_) fun hb1=>?_
 .
  refine wk 1 ?_;have hn:p.names16=false:=by have h:=hb1;simpa using h
  refine wk 5 ?_;refine⟨[_],⟨rfl,trivial⟩,?_,rfl⟩;unfold PProg.check16;rw[hn];rfl
 refine wk 1 ?_;have hnm:p.names16=true:=by have h:=hb1;simpa using h
 refine wk 5 ?_;refine ax 7 (Bs Tryz.func59 (Sy p hp h1 hnm)) ?_;refine wk 2 ?_;refine asp 8 (fun hb2=>?_) fun hb2=>?_
 .
  refine wk 1 ?_;have hn:p.numbers=false:=by have h:=hb2;simpa using h
  refine wk 5 ?_;refine⟨[_],⟨rfl,trivial⟩,?_,rfl⟩;unfold PProg.check16;rw[hnm,hn];rfl
 refine wk 1 ?_;have hy:p.numbers=true:=by have h:=hb2;simpa using h
 refine wk 6 ?_;refine⟨[_],⟨rfl,trivial⟩,?_,rfl⟩;unfold PProg.check16;rw[hnm,hy];rfl
theorem Ob(c:UInt8):Pu Tryz.prog 53 [.int .u8 (c.toNat:Int)] (.bool (CK c)):=by
 refine APure.of_body (n:=17) Aj Tryz.func53 rfl rfl ?_;refine wk 9 ?_;refine BC 5 (fun hb1=>?_) fun hb1=>?_
 .
  refine wk 4 ?_;refine BC 9 (fun hb2=>?_) fun hb2=>?_
  .
   refine wk 10 ?_;exact V4
  refine wk 3 ?_;refine BC 12 (fun hb3=>?_) fun hb3=>?_
  .
   refine wk 7 ?_;exact V4
  refine wk 7 ?_;exact V4
 refine wk 7 ?_;refine BC 12 (fun hb4=>?_) fun hb4=>?_
 .
  refine wk 7 ?_;exact V4
 refine wk 7 ?_;exact V4
theorem X8(c:UInt8):Pu Tryz.prog 56 [.int .u8 (c.toNat:Int)] (.bool (G8 c)):=by
 refine APure.of_body (n:=9) Aj Tryz.func56 rfl rfl ?_;refine wk 9 ?_;refine BC 5 (fun hb1=>?_) fun hb1=>?_
 .
  exact bo
 exact bo
theorem RQ:Pu Tryz.prog 55 [] (.lst false (words13.map D6)):=by
 refine APure.of_body (n:=2) Aj Tryz.func55 rfl rfl ?_;exact bb
theorem RP:Pu Tryz.prog 33 [] (.lst false (words13.map D6)):=by
 refine APure.of_body (n:=2) Aj Tryz.func33 rfl rfl ?_;exact bb
theorem ZG(l:List ByteArray)(s:ByteArray):Pu Tryz.prog 54 [(.lst false (l.map D6)),.str s] (.bool (Ix l s)):=by
 refine APure.of_body (n:=18) Aj Tryz.func54 rfl rfl ?_;refine wk 1 ?_;refine AGo.slot 0 (φ:=l.length<=maxLen) rfl (fun H ι v h=>by have:=B5 h;simpa using this) fun hlen=>?_
 refine wk 9 ?_;refine Aw (γ:=Nat) 0 (fun k=>⟨18,(Ad (Ad (Ad AM 0 (.lst false (l.map D6))) 1 (.str s)) 5 (iN k)),(AE 0)⟩) (fun k=>(l.take k).all (b9 s)=true) (fun k=>l.length-k) 0 (Sub.mk' AT Bn) rfl (fun _=>fun b hb=>BO hb) ?_;intro k hk;refine wk 8 ?_;refine asp 9 (fun hb1=>?_) fun hb1=>?_
 .
  refine wk 1 ?_;have hkl:k<l.length:=Ao hb1;obtain⟨x,hx⟩:=Ah hkl;refine wk 7 ?_;refine aq 14 Ip ?_;refine wk 4 ?_;refine asp 17 (fun hb2=>?_) fun hb2=>?_
  .
   refine wk 1 ?_;have heq:=hb2;refine wk 5 ?_;refine⟨[_],⟨rfl,trivial⟩,?_,rfl⟩;exact bc (NA hx heq).symm
  refine wk 1 ?_;have hne:=hb2;refine wk 3 ?_;refine aq 11 (A8 rfl rfl hkl hlen) ?_;exact fg
 refine wk 1 ?_;have hge:=As hb1;refine wk 6 ?_;refine⟨[_],⟨rfl,trivial⟩,?_,rfl⟩;exact bc (P6 hk hge).symm
theorem U9(s:ByteArray):Pu Tryz.prog 34 [.str s] (.bool (Xo s)):=by
 refine APure.of_body (n:=47) Aj Tryz.func34 rfl rfl ?_;refine wk 6 ?_;refine AK (γ:=Bool) (fun c=>⟨47,(Ad (Ad AM 0 (.str s)) 22 (.bool c)),(AE 0)⟩) (fun c=>c= !(CA s)) ?_ ?_
 .
  refine wk 5 ?_;refine BC 7 (fun hb1=>?_) fun hb1=>?_
  .
   refine wk 16 ?_;exact YM
  refine wk 5 ?_;refine BC 12 (fun hb2=>?_) fun hb2=>?_
  .
   refine wk 11 ?_;exact YM
  refine wk 1 ?_;have h0:=Qa hb1;refine aq 14 (DU (c:=FE s 0) Aj rfl rfl rfl rfl rfl Ab (Mu h0)) ?_;refine ax 15 (Bs Tryz.func53 (Ob _)) ?_;refine wk 3 ?_;refine BC 18 (fun hb3=>?_) fun hb3=>?_
  .
   refine wk 5 ?_;exact YM
  refine ax 19 (Bs Tryz.func55 (RQ)) ?_;refine wk 1 ?_;refine ax 21 (Bs Tryz.func54 (ZG _ _)) ?_;refine wk 2 ?_;exact YM
 intro c hc;refine asp 22 (fun hb4=>?_) fun hb4=>?_
 .
  refine wk 1 ?_;have hbad:CA s=false:=IU hc hb4;refine wk 5 ?_;refine⟨[_],⟨rfl,trivial⟩,?_,rfl⟩;exact bc (by rw[Mh,hbad];rfl)
 refine wk 1 ?_;have hok:CA s=true:=IV hc hb4;have hlen:s.data.toList.length<=maxLen:=by have:=QO hok;simp only[maxLen];omega
 refine wk 7 ?_;refine Aw (γ:=Nat) 0 (fun k=>⟨47,(Ad (Ad AM 0 (.str s)) 3 (iN k)),(AE 0)⟩) (fun k=>(s.data.toList.take k).all HE=true) (fun k=>s.data.toList.length-k) 0 (Sub.mk' AT Bn) rfl (fun _=>fun b hb=>BO hb) ?_;intro k hk;refine wk 8 ?_;refine asp 26 (fun hb5=>?_) fun hb5=>?_
 .
  refine wk 1 ?_;have hkl:k<s.data.toList.length:=by have h:=hb5;simp at h;exact h
  obtain⟨c,hc⟩:=Ah hkl;refine wk 4 ?_;refine AK (γ:=Bool) (fun d=>⟨47,(Ad (Ad (Ad AM 0 (.str s)) 3 (iN k)) 46 (.bool d)),(AE 0)⟩) (fun d=>d= !(HE c)) ?_ ?_
  .
   refine wk 3 ?_;refine aq 31 (DU (c:=c) Aj rfl rfl rfl rfl rfl (Int.natCast_nonneg _) hc) ?_;refine ax 32 (Bs Tryz.func53 (Ob _)) ?_;refine wk 2 ?_;refine BC 34 (fun hb6=>?_) fun hb6=>?_
   .
    refine wk 2 ?_;refine aq 37 (DU (c:=c) Aj rfl rfl rfl rfl rfl (Int.natCast_nonneg _) hc) ?_;refine ax 38 (Bs Tryz.func56 (X8 _)) ?_;refine wk 3 ?_;refine BC 41 (fun hb7=>?_) fun hb7=>?_
    .
     refine wk 2 ?_;refine aq 44 (DU (c:=c) Aj rfl rfl rfl rfl rfl (Int.natCast_nonneg _) hc) ?_;refine wk 3 ?_;exact cM
    refine wk 6 ?_;exact cM
   refine wk 13 ?_;exact cM
  intro d hd;refine asp 46 (fun hb8=>?_) fun hb8=>?_
  .
   refine wk 1 ?_;have hno:HE c=false:=by rw[hb8]at hd;simpa using hd.symm
   refine wk 5 ?_;refine⟨[_],⟨rfl,trivial⟩,?_,rfl⟩;exact bc (by rw[Mh,Bp hc hno,Bool.and_false])
  refine wk 1 ?_;have hgood:HE c=true:=by rw[hb8]at hd;simpa using hd.symm
  refine wk 3 ?_;refine aq 28 (A8 rfl rfl hkl hlen) ?_;refine wk 2 ?_;exact⟨k+1,Drop.mk' FSq FT,Dl hc hk hgood,by omega⟩
 refine wk 1 ?_;have hge:s.data.toList.length<=k:=by have h:=hb5;simp at h;exact h
 refine wk 6 ?_;refine⟨[_],⟨rfl,trivial⟩,?_,rfl⟩;exact bc (by rw[Mh,hok,BB hk hge];rfl)
theorem GA(s:ByteArray):Pu Tryz.prog 19 [.str s] (.bool (FC s)):=by
 refine APure.of_body (n:=20) Aj Tryz.func19 rfl rfl ?_;refine wk 6 ?_;refine ax 5 (Bs Tryz.func33 (RP)) ?_;refine wk 8 ?_;refine Aw (γ:=Nat) 0 (fun k=>⟨20,(Ad (Ad (Ad AM 0 (.str s)) 3 (.lst false (words13.map D6))) 4 (iN k)),(AE 0)⟩) (fun k=>(words13.take k).all (b9 s)=true) (fun k=>words13.length-k) 0 (Sub.mk' AT Bn) rfl (fun _=>fun b hb=>BO hb) ?_;intro k hk;refine wk 8 ?_;refine asp 9 (fun hb1=>?_) fun hb1=>?_
 .
  refine wk 1 ?_;have hkl:k<words13.length:=Ao hb1;obtain⟨x,hx⟩:=Ah hkl;refine wk 8 ?_;refine aq 15 Ip ?_;refine wk 3 ?_;refine asp 17 (fun hb2=>?_) fun hb2=>?_
  .
   refine wk 1 ?_;have heq:(x.toList==s.toList)=true:=by rw[OT];have h:=hb2;rw[OT]at h;simpa[eq_comm]using h
   refine wk 5 ?_;refine⟨[_],⟨rfl,trivial⟩,?_,rfl⟩;exact bc (by unfold FC;rw[NA hx heq];rfl)
  refine wk 1 ?_;have hne:(x.toList==s.toList)=false:=by rw[OT];have h:=hb2;rw[OT]at h;simpa[eq_comm]using h
  refine wk 3 ?_;refine aq 11 (A8 rfl rfl hkl Ab) ?_;exact fg
 refine wk 1 ?_;have hge:=As (l:=words13) (f:=D6) hb1;refine wk 4 ?_;refine ax 19 (Bs Tryz.func34 (U9 _)) ?_;refine wk 3 ?_;refine⟨[_],⟨rfl,trivial⟩,?_,rfl⟩;exact bc (by unfold FC;rw[P6 hk hge];rfl)
theorem IX(l:List ByteArray):Pu Tryz.prog 18 [(.lst false (l.map D6))] (.bool (IW l)):=by
 refine APure.of_body (n:=16) Aj Tryz.func18 rfl rfl ?_;refine wk 1 ?_;refine AGo.slot 0 (φ:=l.length<=maxLen) rfl (fun H ι v h=>by have:=B5 h;simpa using this) fun hlen=>?_
 refine wk 9 ?_;refine Aw (γ:=Nat) 0 (fun k=>⟨16,(Ad (Ad AM 0 (.lst false (l.map D6))) 3 (iN k)),(AE 0)⟩) (fun k=>(l.take k).all FC=true) (fun k=>l.length-k) 0 (Sub.mk' AT Bn) rfl (fun _=>fun b hb=>BO hb) ?_;intro k hk;refine wk 8 ?_;refine asp 7 (fun hb1=>?_) fun hb1=>?_
 .
  refine wk 1 ?_;have hkl:k<l.length:=Ao hb1;obtain⟨x,hx⟩:=Ah hkl;refine wk 7 ?_;refine aq 12 Ip ?_;refine wk 1 ?_;refine ax 14 (Bs Tryz.func19 (GA _)) ?_;refine wk 2 ?_;refine asp 15 (fun hb2=>?_) fun hb2=>?_
  .
   refine wk 1 ?_;have hn:FC x=false:=by have h:=hb2;simpa using h
   refine wk 5 ?_;refine⟨[_],⟨rfl,trivial⟩,?_,rfl⟩;exact bc (Bp hx hn).symm
  refine wk 1 ?_;have hy:FC x=true:=by have h:=hb2;simpa using h
  refine wk 3 ?_;refine aq 9 (A8 rfl rfl hkl hlen) ?_;exact YJ
 refine wk 1 ?_;have hge:=As hb1;refine wk 6 ?_;refine⟨[_],⟨rfl,trivial⟩,?_,rfl⟩;exact bc (BB hk hge).symm
theorem IK(l:List ByteArray):Pu Tryz.prog 16 [(.lst false (l.map D6))] (.bool (Ft l)):=by
 refine APure.of_body (n:=19) Aj Tryz.func16 rfl rfl ?_;refine wk 1 ?_;refine AGo.slot 0 (φ:=l.length<=maxLen) rfl (fun H ι v h=>by have:=B5 h;simpa using this) fun hlen=>?_
 refine wk 9 ?_;refine Aw (γ:=Nat) 0 (fun k=>⟨19,(Ad (Ad AM 0 (.lst false (l.map D6))) 3 (iN k)),(AE 0)⟩) (fun k=>(l.take k).all (fun s=>decide ((s.size:Int)<=60))=true) (fun k=>l.length-k) 0 (Sub.mk' AT Bn) rfl (fun _=>fun b hb=>BO hb) ?_;intro k hk;refine wk 8 ?_;refine asp 7 (fun hb1=>?_) fun hb1=>?_
 .
  refine wk 1 ?_;have hkl:k<l.length:=Ao hb1;obtain⟨x,hx⟩:=Ah hkl;refine wk 7 ?_;refine aq 12 Ip ?_;refine wk 4 ?_;refine asp 15 (fun hb2=>?_) fun hb2=>?_
  .
   refine wk 1 ?_;have hn:decide ((x.size:Int)<=60)=false:=by have h:=hb2;simp at h;simp;omega
   refine wk 5 ?_;refine⟨[_],⟨rfl,trivial⟩,?_,rfl⟩;exact bc (by unfold Ft;rw[Bp hx hn];rfl)
  refine wk 1 ?_;have hy:decide ((x.size:Int)<=60)=true:=by have h:=hb2;simp at h;simp;omega
  refine wk 3 ?_;refine aq 9 (A8 rfl rfl hkl hlen) ?_;exact YJ
 refine wk 1 ?_;have hge:=As hb1;refine wk 9 ?_;refine⟨[_],⟨rfl,trivial⟩,?_,rfl⟩;exact bc (by unfold Ft;rw[BB hk hge,List.length_map];rfl)
theorem O2(e:PE)(level:Int)(h0:0<=level)(h1:level<=25)(hrec:level<=24->Pu Tryz.prog 57 [(.lst false (e.kids.map PE.cells)),.int .i64 (level+1)] (.bool (PE.rightL e.kids (level+1)))):Pu Tryz.prog 73 [.agg e.row,.int .i64 level] (.bool (e.right level)):=by
 refine APure.of_body (n:=123) Aj Tryz.func73 rfl rfl ?_;refine wk 2 ?_;refine ax 2 (Ek 5 0) ?_;refine wk 4 ?_;refine AK (γ:=Bool) (fun c=>⟨123,(Ad (Ad (Ad AM 1 (.int .i64 level)) 2 (pZ 0)) 28 (.bool c)),(Ar (AE 1) 0 (rf 5 [e.row]))⟩) (fun c=>c= !(e.bare level)) ?_ ?_
 .
  refine wk 4 ?_;refine BC 9 (fun hb1=>?_) fun hb1=>?_
  .
   refine wk 20 ?_;exact Uo
  refine wk 4 ?_;refine BC 13 (fun hb2=>?_) fun hb2=>?_
  .
   refine wk 6 ?_;refine BC 19 (fun hb3=>?_) fun hb3=>?_
   .
    refine wk 10 ?_;exact Uo
   refine wk 4 ?_;refine BC 23 (fun hb4=>?_) fun hb4=>?_
   .
    refine wk 6 ?_;exact Uo
   refine wk 6 ?_;exact Uo
  refine wk 10 ?_;refine BC 23 (fun hb5=>?_) fun hb5=>?_
  .
   refine wk 6 ?_;exact Uo
  refine wk 6 ?_;exact Uo
 intro c hc;refine asp 28 (fun hb6=>?_) fun hb6=>?_
 .
  refine wk 1 ?_;have hbad:e.bare level=false:=IU hc hb6;refine wk 5 ?_;refine⟨[_],⟨rfl,trivial⟩,?_,rfl⟩;refine bc ?_;rw[PE.right_eq,Rw hbad]
 refine wk 1 ?_;have hbare:e.bare level=true:=IV hc hb6;have hlev:level<=24:=by unfold PE.bare at hbare;simp only[Bool.and_eq_true,decide_eq_true_eq]at hbare;exact hbare.1
 refine wk 2 ?_;refine AK (γ:=Bool) (fun c=>⟨123,(Ad (Ad (Ad AM 1 (.int .i64 level)) 2 (pZ 0)) 5 (.bool c)),(Ar (AE 1) 0 (rf 5 [e.row]))⟩) (fun c=>c=Mg e.kind) ?_ ?_
 .
  refine wk 5 ?_;refine BC 32 (fun hb7=>?_) fun hb7=>?_
  .
   refine wk 11 ?_;exact cI
  refine wk 5 ?_;refine BC 37 (fun hb8=>?_) fun hb8=>?_
  .
   refine wk 6 ?_;exact cI
  refine wk 6 ?_;exact cI
 intro c hnm;refine wk 2 ?_;refine AK (γ:=Bool) (fun c=>⟨123,(Ad (Ad (Ad AM 1 (.int .i64 level)) 2 (pZ 0)) 55 (.bool c)),(Ar (AE 1) 0 (rf 5 [e.row]))⟩) (fun c=>c= !(e.callme)) ?_ ?_
 .
  refine wk 5 ?_;refine aq 46 (Qr Aj true rfl rfl rfl rfl rfl) ?_;refine wk 1 ?_;refine BC 47 (fun hb9=>?_) fun hb9=>?_
  .
   refine wk 9 ?_;exact cK
  refine wk 2 ?_;refine BC 49 (fun hb10=>?_) fun hb10=>?_
  .
   refine wk 2 ?_;refine ax 52 (Bs Tryz.func19 (GA _)) ?_;refine wk 4 ?_;exact cK
  refine wk 7 ?_;exact cK
 intro c hc;refine asp 55 (fun hb11=>?_) fun hb11=>?_
 .
  refine wk 1 ?_;have hbad:e.callme=false:=IU hc hb11;refine wk 5 ?_;refine⟨[_],⟨rfl,trivial⟩,?_,rfl⟩;refine bc ?_;rw[PE.right_eq,Rv hbad]
 refine wk 1 ?_;have hcall:e.callme=true:=IV hc hb11;refine wk 21 ?_;refine asp 61 (fun hb12=>?_) fun hb12=>?_
 .
  refine wk 10 ?_;exact Io
 refine wk 6 ?_;refine asp 61 (fun hb13=>?_) fun hb13=>?_
 .
  refine wk 10 ?_;exact Io
 refine wk 5 ?_;refine asp 61 (fun hb14=>?_) fun hb14=>?_
 .
  refine wk 8 ?_;exact Io
 refine wk 7 ?_;refine asp 67 (fun hb15=>?_) fun hb15=>?_
 .
  refine wk 8 ?_;refine BC 72 (fun hb16=>?_) fun hb16=>?_
  .
   exact eY
  refine wk 9 ?_;exact Io
 refine wk 5 ?_;refine asp 67 (fun hb17=>?_) fun hb17=>?_
 .
  refine wk 6 ?_;refine BC 72 (fun hb18=>?_) fun hb18=>?_
  .
   exact eY
  refine wk 9 ?_;exact Io
 refine wk 6 ?_;refine asp 79 (fun hb19=>?_) fun hb19=>?_
 .
  refine wk 6 ?_;refine BC 83 (fun hb20=>?_) fun hb20=>?_
  .
   refine wk 3 ?_;refine aq 87 (AG (r:=.int .i64 (level+1)) rfl rfl rfl DL) ?_;refine ax 88 (Bs Tryz.func57 (hrec hlev)) ?_;refine wk 4 ?_;exact Io
  refine wk 9 ?_;exact Io
 refine wk 6 ?_;refine asp 90 (fun hb21=>?_) fun hb21=>?_
 .
  refine wk 7 ?_;refine BC 95 (fun hb22=>?_) fun hb22=>?_
  .
   refine wk 5 ?_;refine BC 100 (fun hb23=>?_) fun hb23=>?_
   .
    refine wk 4 ?_;refine BC 104 (fun hb24=>?_) fun hb24=>?_
    .
     refine wk 3 ?_;refine aq 108 (AG (r:=.int .i64 (level+1)) rfl rfl rfl DL) ?_;refine ax 109 (Bs Tryz.func57 (hrec hlev)) ?_;refine wk 4 ?_;exact Io
    refine wk 9 ?_;exact Io
   refine wk 13 ?_;exact Io
  refine wk 18 ?_;exact Io
 refine wk 7 ?_;refine asp 111 (fun hb25=>?_) fun hb25=>?_
 .
  refine wk 8 ?_;refine BC 116 (fun hb26=>?_) fun hb26=>?_
  .
   exact eZ
  refine wk 9 ?_;exact Io
 refine wk 5 ?_;refine asp 111 (fun hb27=>?_) fun hb27=>?_
 .
  refine wk 6 ?_;refine BC 116 (fun hb28=>?_) fun hb28=>?_
  .
   exact eZ
  refine wk 9 ?_;exact Io
 refine wk 7 ?_;exact Io
theorem Jn(l:List PE)(level:Int)(hrec:∀x∈l,Pu Tryz.prog 73 [.agg x.row,.int .i64 level] (.bool (x.right level))):Pu Tryz.prog 57 [(.lst false (l.map PE.cells)),.int .i64 level] (.bool (PE.rightL l level)):=by
 refine APure.of_body (n:=19) Aj Tryz.func57 rfl rfl ?_;refine wk 1 ?_;refine AGo.slot 0 (φ:=l.length<=maxLen) rfl (fun H ι v h=>by have:=B5 h;simpa using this) fun hlen=>?_
 refine wk 9 ?_;refine Aw (γ:=Nat) 0 (fun k=>⟨19,(Ad (Ad (Ad AM 0 (.lst false (l.map PE.cells))) 1 (.int .i64 level)) 5 (iN k)),(AE 0)⟩) (fun k=>(l.take k).all (fun e=>e.right level)=true) (fun k=>l.length-k) 0 (Sub.mk' AT Bn) rfl (fun _=>fun b hb=>BO hb) ?_;intro k hk;refine wk 8 ?_;refine asp 9 (fun hb1=>?_) fun hb1=>?_
 .
  refine wk 1 ?_;have hkl:k<l.length:=Ao hb1;obtain⟨x,hx⟩:=Ah hkl;refine wk 7 ?_;refine aq 14 (Ae Aj rfl rfl rfl rfl rfl rfl (Int.natCast_nonneg _) (Dg hx) rfl) ?_;refine wk 2 ?_;refine ax 17 (Bs Tryz.func73 (hrec x (List.mem_of_getElem? hx))) ?_;refine wk 2 ?_;refine asp 18 (fun hb2=>?_) fun hb2=>?_
  .
   refine wk 1 ?_;have hn:x.right level=false:=by have h:=hb2;simpa using h
   refine wk 5 ?_;refine⟨[_],⟨rfl,trivial⟩,?_,rfl⟩;refine bc ?_;rw[PE.rightL_all];exact(Bp hx hn).symm
  refine wk 1 ?_;have hy:x.right level=true:=by have h:=hb2;simpa using h
  exact Um
 refine wk 1 ?_;have hge:=As hb1;refine wk 6 ?_;refine⟨[_],⟨rfl,trivial⟩,?_,rfl⟩;refine bc ?_;rw[PE.rightL_all];exact(BB hk hge).symm
theorem LN:∀(m:Nat) (e:PE),e.parts<=m->∀level:Int,0<=level->level<=25->Pu Tryz.prog 73 [.agg e.row,.int .i64 level] (.bool (e.right level))
 |0,e,hm,level,h0,h1=>absurd hm (by have:=PE.parts_kids e;omega)
 |m+1,e,hm,level,h0,h1=>O2 e level h0 h1 fun h=>Jn e.kids (level+1) fun x hx=>LN m x cZ (level+1) Aa Aa
theorem Sa(l:List PE)(level:Int)(h0:0<=level)(h1:level<=25):Pu Tryz.prog 57 [(.lst false (l.map PE.cells)),.int .i64 level] (.bool (PE.rightL l level)):=Jn l level fun x hx=>LN _ x (Nat.le_refl _) level h0 h1
theorem O1(e:PSt)(level:Int)(h0:0<=level)(h1:level<=25)(hr1:level<=24->Pu Tryz.prog 20 [(.lst false (e.thn.map PSt.cells)),.int .i64 (level+1)] (.bool (PSt.rightL e.thn (level+1))))(hr2:level<=24->Pu Tryz.prog 20 [(.lst false (e.els.map PSt.cells)),.int .i64 (level+1)] (.bool (PSt.rightL e.els (level+1)))):Pu Tryz.prog 35 [.agg e.row,.int .i64 level] (.bool (e.right level)):=by
 refine APure.of_body (n:=110) Aj Tryz.func35 rfl rfl ?_;refine wk 2 ?_;refine ax 2 (Ek 5 0) ?_;refine wk 4 ?_;refine AK (γ:=Bool) (fun c=>⟨110,(Ad (Ad (Ad AM 1 (.int .i64 level)) 2 (pZ 0)) 36 (.bool c)),(Ar (AE 1) 0 (rf 5 [e.row]))⟩) (fun c=>c= !(e.bare level)) ?_ ?_
 .
  refine wk 4 ?_;refine BC 10 (fun hb1=>?_) fun hb1=>?_
  .
   refine wk 27 ?_;exact aE
  refine wk 4 ?_;refine BC 14 (fun hb2=>?_) fun hb2=>?_
  .
   refine wk 7 ?_;refine BC 21 (fun hb3=>?_) fun hb3=>?_
   .
    refine wk 16 ?_;exact aE
   refine wk 4 ?_;refine BC 25 (fun hb4=>?_) fun hb4=>?_
   .
    refine wk 5 ?_;refine BC 30 (fun hb5=>?_) fun hb5=>?_
    .
     refine wk 7 ?_;exact aE
    refine wk 7 ?_;exact aE
   refine wk 12 ?_;exact aE
  refine wk 11 ?_;refine BC 25 (fun hb6=>?_) fun hb6=>?_
  .
   refine wk 5 ?_;refine BC 30 (fun hb7=>?_) fun hb7=>?_
   .
    refine wk 7 ?_;exact aE
   refine wk 7 ?_;exact aE
  refine wk 12 ?_;exact aE
 intro c hc;refine asp 36 (fun hb8=>?_) fun hb8=>?_
 .
  refine wk 1 ?_;have hbad:e.bare level=false:=IU hc hb8;refine wk 5 ?_;refine⟨[_],⟨rfl,trivial⟩,?_,rfl⟩;refine bc ?_;rw[PSt.right_eq,Rw hbad]
 refine wk 1 ?_;have hbare:e.bare level=true:=IV hc hb8;have hlev:level<=24:=by unfold PSt.bare at hbare;simp only[Bool.and_eq_true,decide_eq_true_eq]at hbare;exact hbare.1
 refine wk 2 ?_;refine AK (γ:=Bool) (fun c=>⟨110,(Ad (Ad (Ad AM 1 (.int .i64 level)) 2 (pZ 0)) 5 (.bool c)),(Ar (AE 1) 0 (rf 5 [e.row]))⟩) (fun c=>c=Mf e.kind) ?_ ?_
 .
  refine wk 5 ?_;refine BC 40 (fun hb9=>?_) fun hb9=>?_
  .
   refine wk 11 ?_;exact cH
  refine wk 5 ?_;refine BC 45 (fun hb10=>?_) fun hb10=>?_
  .
   refine wk 6 ?_;exact cH
  refine wk 6 ?_;exact cH
 intro c hnm;refine wk 2 ?_;refine AK (γ:=Bool) (fun c=>⟨110,(Ad (Ad (Ad AM 1 (.int .i64 level)) 2 (pZ 0)) 63 (.bool c)),(Ar (AE 1) 0 (rf 5 [e.row]))⟩) (fun c=>c= !(e.callme)) ?_ ?_
 .
  refine wk 5 ?_;refine aq 54 (Qr Aj true rfl rfl rfl rfl rfl) ?_;refine wk 1 ?_;refine BC 55 (fun hb11=>?_) fun hb11=>?_
  .
   refine wk 9 ?_;exact cL
  refine wk 2 ?_;refine BC 57 (fun hb12=>?_) fun hb12=>?_
  .
   refine wk 2 ?_;refine ax 60 (Bs Tryz.func19 (GA _)) ?_;refine wk 4 ?_;exact cL
  refine wk 7 ?_;exact cL
 intro c hc;refine asp 63 (fun hb13=>?_) fun hb13=>?_
 .
  refine wk 1 ?_;have hbad:e.callme=false:=IU hc hb13;refine wk 5 ?_;refine⟨[_],⟨rfl,trivial⟩,?_,rfl⟩;refine bc ?_;rw[PSt.right_eq,Rv hbad]
 refine wk 1 ?_;have hcall:e.callme=true:=IV hc hb13;refine wk 18 ?_;refine AK (γ:=Bool) (fun c=>⟨110,(Ad (Ad (Ad AM 1 (.int .i64 level)) 2 (pZ 0)) 7 (.bool c)),(Ar (AE 1) 0 (rf 5 [e.row]))⟩) (fun c=>c=Q5 e.kind e.es.length) ?_ ?_
 .
  refine wk 7 ?_;refine asp 69 (fun hb14=>?_) fun hb14=>?_
  .
   refine wk 8 ?_;exact PK
  refine wk 6 ?_;refine asp 69 (fun hb15=>?_) fun hb15=>?_
  .
   refine wk 8 ?_;exact PK
  refine wk 6 ?_;refine asp 69 (fun hb16=>?_) fun hb16=>?_
  .
   refine wk 8 ?_;exact PK
  refine wk 5 ?_;refine asp 69 (fun hb17=>?_) fun hb17=>?_
  .
   refine wk 6 ?_;exact PK
  refine wk 6 ?_;refine asp 76 (fun hb18=>?_) fun hb18=>?_
  .
   refine wk 6 ?_;exact PK
  refine wk 6 ?_;refine asp 80 (fun hb19=>?_) fun hb19=>?_
  .
   refine wk 6 ?_;exact PK
  refine wk 6 ?_;refine asp 84 (fun hb20=>?_) fun hb20=>?_
  .
   refine wk 6 ?_;exact PK
  refine wk 2 ?_;exact PK
 intro c hf;refine wk 4 ?_;refine BC 89 (fun hb21=>?_) fun hb21=>?_
 .
  refine wk 3 ?_;refine aq 93 (AG (r:=.int .i64 (level+1)) rfl rfl rfl DL) ?_;refine ax 94 (Bs Tryz.func57 (Sa e.es (level+1) Aa Aa)) ?_;refine wk 2 ?_;refine BC 96 (fun hb22=>?_) fun hb22=>?_
  .
   refine wk 3 ?_;refine aq 100 (AG (r:=.int .i64 (level+1)) rfl rfl rfl DL) ?_;refine ax 101 (Bs Tryz.func20 (hr1 hlev)) ?_;refine wk 2 ?_;refine BC 103 (fun hb23=>?_) fun hb23=>?_
   .
    refine wk 3 ?_;refine aq 107 (AG (r:=.int .i64 (level+1)) rfl rfl rfl DL) ?_;refine ax 108 (Bs Tryz.func20 (hr2 hlev)) ?_;refine wk 4 ?_;exact YI
   refine wk 9 ?_;exact YI
  refine wk 16 ?_;exact YI
 refine wk 23 ?_;exact YI
theorem GO(l:List PSt)(level:Int)(hrec:∀x∈l,Pu Tryz.prog 35 [.agg x.row,.int .i64 level] (.bool (x.right level))):Pu Tryz.prog 20 [(.lst false (l.map PSt.cells)),.int .i64 level] (.bool (PSt.rightL l level)):=by
 refine APure.of_body (n:=19) Aj Tryz.func20 rfl rfl ?_;refine wk 1 ?_;refine AGo.slot 0 (φ:=l.length<=maxLen) rfl (fun H ι v h=>by have:=B5 h;simpa using this) fun hlen=>?_
 refine wk 9 ?_;refine Aw (γ:=Nat) 0 (fun k=>⟨19,(Ad (Ad (Ad AM 0 (.lst false (l.map PSt.cells))) 1 (.int .i64 level)) 5 (iN k)),(AE 0)⟩) (fun k=>(l.take k).all (fun e=>e.right level)=true) (fun k=>l.length-k) 0 (Sub.mk' AT Bn) rfl (fun _=>fun b hb=>BO hb) ?_;intro k hk;refine wk 8 ?_;refine asp 9 (fun hb1=>?_) fun hb1=>?_
 .
  refine wk 1 ?_;have hkl:k<l.length:=Ao hb1;obtain⟨x,hx⟩:=Ah hkl;refine wk 7 ?_;refine aq 14 (Ae Aj rfl rfl rfl rfl rfl rfl (Int.natCast_nonneg _) (CI hx) rfl) ?_;refine wk 2 ?_;refine ax 17 (Bs Tryz.func35 (hrec x (List.mem_of_getElem? hx))) ?_;refine wk 2 ?_;refine asp 18 (fun hb2=>?_) fun hb2=>?_
  .
   refine wk 1 ?_;have hn:x.right level=false:=by have h:=hb2;simpa using h
   refine wk 5 ?_;refine⟨[_],⟨rfl,trivial⟩,?_,rfl⟩;refine bc ?_;rw[PSt.rightL_all];exact(Bp hx hn).symm
  refine wk 1 ?_;have hy:x.right level=true:=by have h:=hb2;simpa using h
  exact Um
 refine wk 1 ?_;have hge:=As hb1;refine wk 6 ?_;refine⟨[_],⟨rfl,trivial⟩,?_,rfl⟩;refine bc ?_;rw[PSt.rightL_all];exact(BB hk hge).symm
theorem IN:∀(m:Nat) (e:PSt),e.parts<=m->∀level:Int,0<=level->level<=25->Pu Tryz.prog 35 [.agg e.row,.int .i64 level] (.bool (e.right level))
 |0,e,hm,level,h0,h1=>absurd hm (by have:=PSt.parts_kids e;omega)
 |m+1,e,hm,level,h0,h1=>O1 e level h0 h1 (fun h=>GO e.thn (level+1) fun x hx=>IN m x (by have:=PSt.parts_mem hx;have:=PSt.parts_kids e;omega) (level+1) Aa Aa) (fun h=>GO e.els (level+1) fun x hx=>IN m x (by have:=PSt.parts_mem hx;have:=PSt.parts_kids e;omega) (level+1) Aa Aa)
theorem R9(l:List PSt)(level:Int)(h0:0<=level)(h1:level<=25):Pu Tryz.prog 20 [(.lst false (l.map PSt.cells)),.int .i64 level] (.bool (PSt.rightL l level)):=GO l level fun x hx=>IN _ x (Nat.le_refl _) level h0 h1
theorem LO(p:PProg):Pu Tryz.prog 6 [.agg p.cells] (.bool (p.right)):=by
 refine APure.of_body (n:=95) Aj Tryz.func6 rfl rfl ?_;refine wk 2 ?_;refine ax 1 (Ek 3 0) ?_;refine wk 4 ?_;refine AK (γ:=Bool) (fun c=>⟨95,(Ad (Ad AM 1 (pZ 0)) 21 (.bool c)),(Ar (AE 1) 0 (rf 3 [p.cells]))⟩) (fun c=>c= !(IW p.vars&&(decide (1<=(p.funcs.length:Int))&&decide ((p.funcs.length:Int)<=64)))) ?_ ?_
 .
  refine wk 3 ?_;refine ax 8 (Bs Tryz.func18 (IX _)) ?_;refine wk 2 ?_;refine BC 10 (fun hb1=>?_) fun hb1=>?_
  .
   refine wk 12 ?_;exact Up
  refine wk 6 ?_;refine BC 16 (fun hb2=>?_) fun hb2=>?_
  .
   refine wk 6 ?_;exact Up
  refine wk 6 ?_;exact Up
 intro c hc;refine asp 21 (fun hb3=>?_) fun hb3=>?_
 .
  refine wk 1 ?_;have hbad:(IW p.vars&&(decide (1<=(p.funcs.length:Int))&&decide ((p.funcs.length:Int)<=64)))=false:=IU hc hb3;refine wk 5 ?_;refine⟨[_],⟨rfl,trivial⟩,?_,rfl⟩;refine bc ?_;unfold PProg.right;rw[hbad];rfl
 refine wk 1 ?_;have hok:(IW p.vars&&(decide (1<=(p.funcs.length:Int))&&decide ((p.funcs.length:Int)<=64)))=true:=IV hc hb3;have hok2:=hok;simp only[Bool.and_eq_true,decide_eq_true_eq]at hok2;refine RB (φ:=p.arrays.length<=maxLen) (fun H ι a w hs=>by have:=hs.lenRow (b:=0) (i:=0) (j:=1) (cs:=p.cells) (x:=.lst false (p.arrays.map Rr)) rfl rfl rfl;unfold Xx at this;simpa using this) fun hlen=>?_
 refine wk 7 ?_;refine Aw (γ:=Nat) 1 (fun k=>⟨95,(Ad (Ad AM 1 (pZ 0)) 3 (iN k)),(Ar (AE 1) 0 (rf 3 [p.cells]))⟩) (fun k=>(p.arrays.take k).all EO=true) (fun k=>p.arrays.length-k) 0 (Sub.mk' AT Bn) rfl (fun _=>Dz) ?_;intro k hk;refine wk 9 ?_;refine asp 26 (fun hb4=>?_) fun hb4=>?_
 .
  refine wk 1 ?_;have hkl:k<p.arrays.length:=Ao hb4;obtain⟨x,hx⟩:=Ah hkl;refine wk 4 ?_;refine AK (γ:=Bool) (fun c=>⟨95,(Ad (Ad (Ad AM 1 (pZ 0)) 3 (iN k)) 54 (.bool c)),(Ar (AE 1) 0 (rf 3 [p.cells]))⟩) (fun c=>c= !(EO x)) ?_ ?_
  .
   refine wk 4 ?_;refine aq 32 (GI Aj (AU hx)) ?_;refine wk 2 ?_;refine ax 35 (Bs Tryz.func19 (GA _)) ?_;refine wk 2 ?_;refine BC 37 (fun hb5=>?_) fun hb5=>?_
   .
    refine wk 18 ?_;exact cN
   refine wk 3 ?_;refine aq 41 (GI Aj (AU hx)) ?_;refine wk 5 ?_;refine BC 46 (fun hb6=>?_) fun hb6=>?_
   .
    refine wk 9 ?_;exact cN
   refine wk 3 ?_;refine aq 50 (GI Aj (AU hx)) ?_;refine wk 5 ?_;exact cN
  intro c hc;refine asp 54 (fun hb7=>?_) fun hb7=>?_
  .
   refine wk 1 ?_;have hn:EO x=false:=IU hc hb7;refine wk 5 ?_;refine⟨[_],⟨rfl,trivial⟩,?_,rfl⟩;refine bc ?_;unfold PProg.right;rw[hok,Bp hx hn];rfl
  refine wk 1 ?_;have hy:EO x=true:=IV hc hb7;refine wk 3 ?_;refine aq 28 (A8 rfl rfl hkl hlen) ?_;exact YJ
 refine wk 1 ?_;have hge:=As hb4;have hall:=BB hk hge;refine wk 7 ?_;refine Aw (γ:=Nat) 1 (fun k=>⟨95,(Ad (Ad AM 1 (pZ 0)) 4 (iN k)),(Ar (AE 1) 0 (rf 3 [p.cells]))⟩) (fun k=>(p.funcs.take k).all PFn.right=true) (fun k=>p.funcs.length-k) 0 (Sub.mk' AT Bn) rfl (fun _=>Dz) ?_;intro k hk;refine wk 9 ?_;refine asp 59 (fun hb8=>?_) fun hb8=>?_
 .
  refine wk 1 ?_;have hkl:k<p.funcs.length:=Ao hb8;obtain⟨x,hx⟩:=Ah hkl;refine wk 8 ?_;refine aq 65 (GI Aj (AU hx)) ?_;refine wk 1 ?_;refine ax 5 (Lc Aj 1) ?_;refine wk 1 ?_;refine wk 2 ?_;refine AK (γ:=Bool) (fun c=>⟨95,(Ad (Ad (Ad (Ad AM 1 (pZ 0)) 4 (iN k)) 5 (pZ 1)) 94 (.bool c)),(Ar (Ar (AE 2) 0 (rf 3 [p.cells])) 1 (rf 5 [x.cells]))⟩) (fun c=>c= !(x.right)) ?_ ?_
  .
   refine wk 3 ?_;refine ax 69 (Bs Tryz.func19 (GA _)) ?_;refine wk 2 ?_;refine BC 71 (fun hb9=>?_) fun hb9=>?_
   .
    refine wk 24 ?_;exact V6
   refine wk 6 ?_;refine BC 77 (fun hb10=>?_) fun hb10=>?_
   .
    refine wk 18 ?_;exact V6
   refine wk 2 ?_;refine ax 80 (Bs Tryz.func18 (IX _)) ?_;refine wk 3 ?_;refine BC 83 (fun hb11=>?_) fun hb11=>?_
   .
    refine wk 12 ?_;exact V6
   refine wk 2 ?_;refine ax 86 (Bs Tryz.func18 (IX _)) ?_;refine wk 3 ?_;refine BC 89 (fun hb12=>?_) fun hb12=>?_
   .
    refine wk 6 ?_;exact V6
   refine wk 2 ?_;refine ax 92 (Bs Tryz.func20 (R9 x.body 1 Ab Ab)) ?_;refine wk 3 ?_;exact V6
  intro c hc;refine asp 94 (fun hb13=>?_) fun hb13=>?_
  .
   refine wk 1 ?_;have hn:x.right=false:=IU hc hb13;refine wk 5 ?_;refine⟨[_],⟨rfl,trivial⟩,?_,rfl⟩;refine bc ?_;unfold PProg.right;rw[hok,hall,Bp hx hn];rfl
  refine wk 1 ?_;have hy:x.right=true:=IV hc hb13;refine wk 3 ?_;refine aq 61 (A8 rfl rfl hkl DD) ?_;exact YJ
 refine wk 1 ?_;have hge2:=As hb8;have hall2:=BB hk hge2;refine wk 6 ?_;refine⟨[_],⟨rfl,trivial⟩,?_,rfl⟩;refine bc ?_;unfold PProg.right;rw[hok,hall,hall2];rfl
theorem S6(p:PProg)(hn:p.funcs.length<=200):Pu Tryz.prog 37 [.agg p.cells] (.int .i64 p.check17):=by
 refine APure.of_body (n:=43) Aj Tryz.func37 rfl rfl ?_;refine wk 2 ?_;refine ax 1 (Ek 3 0) ?_;refine wk 8 ?_;refine Aw (γ:=Nat) 1 (fun k=>⟨43,(Ad (Ad AM 1 (pZ 0)) 3 (iN k)),(Ar (AE 1) 0 (rf 3 [p.cells]))⟩) (fun k=>(p.funcs.take k).all (fun f:PFn=>PSt.knownL p f.body)=true) (fun k=>p.funcs.length-k) 0 (Sub.mk' AT Bn) rfl (fun _=>Dz) ?_;intro k hk;refine wk 9 ?_;refine asp 9 (fun hb1=>?_) fun hb1=>?_
 .
  refine wk 1 ?_;have hkl:k<p.funcs.length:=Ao hb1;obtain⟨x,hx⟩:=Ah hkl;refine wk 9 ?_;refine dq 16 (GI Aj (AU hx)) ?_;refine wk 2 ?_;refine dx 19 (Bs Tryz.func60 (JS p hn _ x.body (Nat.le_refl _))) ?_;refine wk 2 ?_;refine asp 20 (fun hb2=>?_) fun hb2=>?_
  .
   refine wk 1 ?_;have hno:PSt.knownL p x.body=false:=by have h:=hb2;simpa using h
   refine wk 5 ?_;refine⟨[_],⟨rfl,trivial⟩,?_,rfl⟩;exact congrArg (AV.int .i64) (by unfold PProg.check17;rw[Bp (p:=(fun f:PFn=>PSt.knownL p f.body)) hx hno];rfl)
  refine wk 1 ?_;have hy:PSt.knownL p x.body=true:=by have h:=hb2;simpa using h
  refine wk 3 ?_;refine aq 11 (A8 rfl rfl hkl DD) ?_;exact YJ
 refine wk 1 ?_;have hall:=BB hk (As hb1);refine wk 7 ?_;refine Aw (γ:=Nat) 1 (fun k=>⟨43,(Ad (Ad AM 1 (pZ 0)) 4 (iN k)),(Ar (AE 1) 0 (rf 3 [p.cells]))⟩) (fun k=>(p.funcs.take k).all (fun f:PFn=>Bj p f.word f.body)=true) (fun k=>p.funcs.length-k) 0 (Sub.mk' AT Bn) rfl (fun _=>Dz) ?_;intro k hk;refine wk 9 ?_;refine asp 25 (fun hb3=>?_) fun hb3=>?_
 .
  refine wk 1 ?_;have hkl:k<p.funcs.length:=Ao hb3;obtain⟨x,hx⟩:=Ah hkl;refine wk 9 ?_;refine dq 32 (GI Aj (AU hx)) ?_;refine wk 5 ?_;refine dq 38 (GI Aj (AU hx)) ?_;refine wk 2 ?_;refine dx 41 (Bs Tryz.func61 (L5 p x.word hn _ x.body (Nat.le_refl _) (List.all_eq_true.1 hall x (List.mem_of_getElem? hx)))) ?_;refine wk 2 ?_;refine asp 42 (fun hb4=>?_) fun hb4=>?_
  .
   refine wk 1 ?_;have hno:Bj p x.word x.body=false:=by have h:=hb4;simpa using h
   refine wk 5 ?_;refine⟨[_],⟨rfl,trivial⟩,?_,rfl⟩;exact congrArg (AV.int .i64) (by unfold PProg.check17;rw[hall,Bp (p:=(fun f:PFn=>Bj p f.word f.body)) hx hno];rfl)
  refine wk 1 ?_;have hy:Bj p x.word x.body=true:=by have h:=hb4;simpa using h
  refine wk 3 ?_;refine aq 27 (A8 rfl rfl hkl DD) ?_;exact YJ
 refine wk 1 ?_;have hall2:=BB hk (As hb3);refine wk 6 ?_;refine⟨[_],⟨rfl,trivial⟩,?_,rfl⟩;exact congrArg (AV.int .i64) (by unfold PProg.check17;rw[hall,hall2];rfl)
theorem WD(p:PProg)(hp:PSm p):Pu Tryz.prog 21 [.agg p.cells] (.int .i64 p.sound):=by
 refine APure.of_body (n:=14) Aj Tryz.func21 rfl rfl ?_;refine wk 2 ?_;refine ax 1 (Ek 3 0) ?_;refine wk 6 ?_;refine ax 5 (Bs Tryz.func6 (LO p)) ?_;refine wk 2 ?_;refine asp 6 (fun hb1=>?_) fun hb1=>?_
 .
  refine wk 1 ?_;have hr:p.right=false:=by have h:=hb1;simpa using h
  refine wk 5 ?_;refine⟨[_],⟨rfl,trivial⟩,?_,rfl⟩;exact congrArg (AV.int .i64) (by unfold PProg.sound;rw[hr];rfl)
 refine wk 1 ?_;have hr:p.right=true:=by have h:=hb1;simpa using h
 refine wk 4 ?_;refine ax 8 (Bs Tryz.func36 (S7 p hp (TH hr))) ?_;refine wk 8 ?_;refine asp 10 (fun hb2=>?_) fun hb2=>?_
 .
  refine wk 1 ?_;have h0:(p.check16==0)=false:=by have h:=hb2;simpa using h
  refine wk 6 ?_;exact aN
 refine wk 1 ?_;have h0:(p.check16==0)=true:=by have h:=hb2;simpa using h
 refine wk 4 ?_;refine ax 13 (Bs Tryz.func37 (S6 p hp.n200)) ?_;refine wk 3 ?_;exact aN
theorem Zw(p:PProg)(hp:PSz p):Pu Tryz.prog 7 [.agg p.cells] (.tup [.agg [.int .i64 (bY p),.lst false (bZ p)],.int .i64 (TQ p)]):=by
 refine APure.of_body (n:=66) Aj Tryz.func7 rfl rfl ?_;refine wk 2 ?_;refine ax 1 (Ek 3 0) ?_;refine ax 2 (Lc Aj 1) ?_;refine wk 6 ?_;refine ax 11 (Bs Tryz.func21 (WD p hp.toPSm)) ?_;refine wk 7 ?_;refine asp 13 (fun hb1=>?_) fun hb1=>?_
 .
  refine wk 1 ?_;have hb:=hb1;refine wk 2 ?_;refine aq 14 (Hc (y:=.agg [.int .i64 0,.lst false []]) Uu (fun _ _ _ h=>Lj h rfl)) ?_;refine wk 1 ?_;refine wk 1 ?_;refine wk 3 ?_;refine⟨[_,_],⟨⟨_,_,_,_,rfl,rfl,.ptr _ _ _ _ _ _ _ _ rfl rfl rfl,rfl⟩,rfl,trivial⟩,?_,rfl⟩;rw[(Lb hb).1,(Lb hb).2.1,(Lb hb).2.2];rfl
 refine wk 1 ?_;have hb:=hb1;refine wk 4 ?_;refine ax 18 (Bs Tryz.func22 (Lq p hp)) ?_;refine wk 12 ?_;refine asp 22 (fun hb2=>?_) fun hb2=>?_
 .
  refine wk 1 ?_;have hb2:=hb2;refine wk 2 ?_;refine aq 23 (Hc (y:=.agg [.int .i64 0,.lst false []]) Uu (fun _ _ _ h=>Lj h rfl)) ?_;refine wk 1 ?_;refine wk 3 ?_;refine⟨[_,_],⟨⟨_,_,_,_,rfl,rfl,.ptr _ _ _ _ _ _ _ _ rfl rfl rfl,rfl⟩,rfl,trivial⟩,?_,rfl⟩;rw[(La hb hb2).1,(La hb hb2).2.1,(La hb hb2).2.2];rfl
 refine wk 1 ?_;have hb2:=hb2;refine wk 5 ?_;refine ax 7 (Lc Aj 2) ?_;refine wk 1 ?_;refine wk 3 ?_;refine AX (.dryCell 2 0 1 3 5 true rfl rfl rfl rfl rfl Ab) ?_;refine wk 4 ?_;refine Aw (γ:=Nat) 4 (fun k=>⟨66,(Ad (Ad (Ad (Ad (Ad AM 1 (pZ 0)) 2 (pZ 1)) 6 (.lst false ((FJ p p.funcs.length).map fun b=>[.int .i64 b]))) 7 (pZ 2)) 8 (iN k)),(Ar (Ar (Ar (Ar (AE 4) 0 (rf 3 [p.cells])) 1 (rf 2 [[.int .i64 0,.nil]])) 2 (rf 2 [[.int .i64 p.words,Fw 3 k]])) 3 (rt 5 ((p.core.funcs.take k).map CFn.cells)))⟩) (fun k=>k<=p.funcs.length) (fun k=>p.funcs.length-k) 0 (Sub.mk' AT Bn) (Nat.zero_le _) (fun _=>C8 (C8 (Dz) rfl) rfl) ?_;intro k hk;refine wk 9 ?_;refine asp 30 (fun hb3=>?_) fun hb3=>?_
 .
  refine wk 1 ?_;have hkl:k<p.funcs.length:=Ao hb3;obtain⟨x,hx⟩:=Ah hkl;refine wk 8 ?_;refine aq 36 (GI Aj (AU hx)) ?_;refine wk 1 ?_;refine ax 9 (Lc Aj 4) ?_;refine wk 1 ?_;refine wk 13 ?_;refine dq 49 (AG (r:=.int .i64 (x.names.length:Int)) rfl rfl rfl (by have h7:=hp.fn x (List.mem_of_getElem? hx);simp only[Bh,BP,isShift,cond_false,if_true];rw[List.length_map,List.length_map,PFn.names,List.length_append,BF Aa Aa];congr 2)) ?_;refine wk 2 ?_;refine dq 52 (GI Aj (AU (MB hkl))) ?_;refine wk 7 ?_;refine dx 60 (Bs Tryz.func23 (LB p k hp hkl _ x.body (Nat.le_refl _) (hp.body x (List.mem_of_getElem? hx)))) ?_;refine wk 1 ?_;refine dx 62 EI ?_;refine dx 63 (Ba Aj (n:=k) (m:=1) rfl rfl rfl rfl rfl rfl rfl rfl rfl (by rw[List.length_map,List.length_take,HM];omega) rfl rfl (Nat.zero_lt_succ _) (.lst _ _) GK Hp rfl (by have hpn:=hp.n;rw[List.length_map,List.length_take,HM];simp only[partVals,List.length_cons,List.length_nil];show _*56<=140737488355328;omega) (by have hpn:=hp.n;rw[List.length_map,List.length_take,HM];simp only[partVals,List.length_cons,List.length_nil];simp only[maxLen];omega)) ?_
  refine wk 1 ?_;refine wk 1 ?_;refine wk 3 ?_;refine aq 32 (A8 rfl rfl hkl YV) ?_;refine wk 2 ?_;exact⟨k+1,Drop.mk' FSq (by repeat(first|exact HDrop.none _ _|exact C1 _ _|refine HDrop.put ?_ (by first|rfl|exact Hm (by rw[Q8 hx];simp[CFn.cells,PProg.coreF,partVals];rfl)) rfl PV)),hkl,by omega⟩
 refine wk 1 ?_;have hke:k=p.funcs.length:=Nat.le_antisymm hk (As hb3);refine wk 2 ?_;refine AX (.freezeCell 2 0 1 3 rfl rfl rfl rfl (by rw[List.length_map,List.length_take,HM];omega) Ab) ?_;refine wk 2 ?_;refine wk 1 ?_;refine wk 3 ?_;refine⟨[_,_],⟨⟨_,_,_,_,rfl,rfl,.ptr _ _ _ _ _ _ _ _ rfl rfl rfl,rfl⟩,rfl,trivial⟩,?_,rfl⟩;rw[(K9 hb hb2).1,(K9 hb hb2).2.1,(K9 hb hb2).2.2,hke,<-HM,List.take_length];refine congrArg (fun es=>AV.tup [.agg [.int .i64 p.words,.lst false es],.int .i64 0]) ?_;rw[List.drop_zero,List.take_of_length_le (by rw[List.length_map];exact Nat.le_refl _)]
end Go.Proofs.YtmfihmkopmgelaaGreat.Sv
