/-
  WALKS: printed by a program of our own from the code's tree.
-/
import Derived.Test.YtbbfelelocccmaaGreatPOptimizeSteps4
import Derived.Test.YtbbfelelocccmaaGreatPOptimizeSteps7
import Derived.Test.YtbbfelelocccmaaGreatPOptimizeSteps2
import Derived.Test.YtbbfelelocccmaaGreatPOptimizeSteps3
import Derived.Test.YtbbfelelocccmaaGreatPOptimizeSteps6
import Derived.Test.YtbbfelelocccmaaGreatPOptimizeSteps5
set_option linter.unusedVariables false
set_option linter.unusedSimpArgs false
set_option maxRecDepth 100000
set_option maxHeartbeats 2000000
namespace Go.Proofs.YtbbfelelocccmaaGreat.Sv
open Go
theorem ZU(next:List (List Int))(hnl:next.length<=100000)(b:Int)(s:DS)(es:List (List AV))(hl:s.been.length=next.length)(hw:WayIn next.length s es):ACall Tryz.prog 156 [.int .i64 b,.ptr 1 1 0 0,.ptr 2 1 0 0,.ptr 3 1 0 0] (hput (hput (hput (hput (hput hNew 0 (.row true 1 ((s).been.map Bg))) 1 (.row false 1 [[AO next]])) 2 (.row false 1 [[.ref 0 next.length 0 next.length]])) 3 (.row false 1 [[.ref 4 (es).length 0 (s).way.length]])) 4 (.row true 2 (es))) (fun r h'=>r=.tup []/\HSub (hput (hput (hput (hput (hput hNone 0 (.row true 1 (((BY b s)).been.map Bg))) 1 (.row false 1 [[AO next]])) 2 (.row false 1 [[.ref 0 next.length 0 next.length]])) 3 (.row false 1 [[.ref 4 ((TG b s es)).length 0 ((BY b s)).way.length]])) 4 (.row true 2 ((TG b s es)))) h'):=by
 refine ACall.of_body (n:=28) Ai Tryz.func156 rfl rfl ?_;refine wk 5 ?_;refine CM 7 (fun hb1=>?_) fun hb1=>?_
 .
  refine wk 6 ?_;refine CM 13 (fun hb2=>?_) fun hb2=>?_
  .
   have hb0:0<=b/\b<s.been.length:=by simp_all[AO]<;>omega
   obtain⟨v,hv⟩:=Af (l:=s.been) (k:=b.toNat) z144q;refine wk 2 ?_;refine aq 16 (Ae Ai rfl rfl rfl rfl rfl rfl rfl (by simp[hl]) rfl hb0.1 z144q) ?_;refine aq 17 (Ar Ai rfl rfl rfl (.ptr _ _ _ _ _ _ _ _ rfl (by simp[hl]) (show _=some [AV.bool v] by rw[qQ8,q54,hv];rfl)) rfl) ?_;refine wk 3 ?_;refine asp 19 (fun hb3=>?_) fun hb3=>?_
   .
    refine act ?_;have hnb:notBeen s.been b=true:=by rw[notBeen,hv];simp_all
    have hcap:=hw.cap;have hle:=hw.le;refine wk 4 ?_;refine aq 22 (Ae Ai rfl rfl rfl rfl rfl rfl rfl (by simp[hl]) rfl hb0.1 z144q) ?_;refine AOps.w rfl rfl (o_store Ai rfl rfl rfl rfl rfl rfl (by simp[hl]) (show _=some [AV.bool v] by rw[qQ8,q54,hv];rfl) rfl Aj rfl E4) ?_;refine wk 5 ?_;refine ax 26 (BU Ai rfl rfl rfl rfl rfl rfl Aj rfl rfl rfl rfl rfl rfl) ?_;refine ax 27 (MN Ai (es:=es) rfl rfl rfl rfl rfl rfl rfl rfl rfl rfl hw.le rfl rfl (q68 _) (.lst _ _) rfl (fun _=>rfl) (by show _*16<=_;omega) Be) ?_;refine wk 2 ?_;refine⟨[],trivial,rfl,?_⟩;rw[show BY b s=_ from dinto_eq hnb,show TG b s es=_ from iz hnb];exact HSub.put (HSub.put (HSub.put (HSub.put (HSub.put (HSub.none _) r9) rfl) rfl) sd) (by rfl)
   refine acf ?_;exact rL
  exact nR
 refine AOps.k 8 rfl rfl rfl ?_;refine AOps.k 9 rfl rfl rfl ?_;refine AOps.k 10 rfl rfl rfl ?_;refine AOps.k 11 rfl rfl rfl ?_;refine wk 2 ?_;exact nR
theorem lT(b:Int):ACall Tryz.prog 155 [.int .i64 b] hNew (fun r h'=>r=.tup []/\HSub hNone h'):=by
 refine ACall.of_body (n:=2) Ai Tryz.func155 rfl rfl ?_;refine mx ?_;exact⟨[],trivial,rfl,HSub.none _⟩
theorem ky(next:List (List Int))(hnl:next.length<=100000)(hsm:∀l∈next,l.length<=100000)(been:List Bool)(hbl:been.length=next.length):ACall Tryz.prog 154 [AO next,.ref 0 next.length 0 next.length,.fn (.func 155) [] []] (hput hNew 0 (.row true 1 (been.map Bg))) (fun r h'=>r=.tup []/\HSub (hput hNone 0 (.row true 1 ((HD next been).map Bg))) h'):=by
 refine ACall.of_body (n:=69) Ai Tryz.func154 rfl rfl ?_;refine HG ?_;refine ax 3 (D4 1 1) ?_;refine ax 4 (D4 1 2) ?_;refine wk 3 ?_;refine ax 6 (Eg Ai 3) ?_;refine wk 2 ?_;refine AGo.ghost (.dryCell 3 0 0 4 2 true rfl rfl rfl rfl rfl Aj) ?_;refine dJ ?_;refine aq 10 (GO rfl rfl rfl) ?_;refine wk 5 ?_;refine ax 12 (N6 (hc:=(hput (hput (hput (hput (hput hNew 0 (.row true 1 (((DS.mk been [])).been.map Bg))) 1 (.row false 1 [[AO next]])) 2 (.row false 1 [[.ref 0 next.length 0 next.length]])) 3 (.row false 1 [[.ref 4 (([]:List (List AV))).length 0 ((DS.mk been [])).way.length]])) 4 (.row true 2 (([]:List (List AV)))))) (hw:=(hput (hput (hput (hput (hput hNone 0 (.row true 1 (((BY 0 (DS.mk been []))).been.map Bg))) 1 (.row false 1 [[AO next]])) 2 (.row false 1 [[.ref 0 next.length 0 next.length]])) 3 (.row false 1 [[.ref 4 ((TG 0 (DS.mk been []) ([]:List (List AV)))).length 0 ((BY 0 (DS.mk been []))).way.length]])) 4 (.row true 2 ((TG 0 (DS.mk been []) ([]:List (List AV))))))) [4,3,2,1,0] [(0,(.row true 1 (((BY 0 (DS.mk been []))).been.map Bg))),(1,(.row false 1 [[AO next]])),(2,(.row false 1 [[.ref 0 next.length 0 next.length]])),(3,(.row false 1 [[.ref 4 ((TG 0 (DS.mk been []) ([]:List (List AV)))).length 0 ((BY 0 (DS.mk been []))).way.length]])),(4,(.row true 2 ((TG 0 (DS.mk been []) ([]:List (List AV))))))] rfl rfl Tryz.func156 AF rfl rfl rfl ⟨⟨_,rfl,rfl⟩,⟨_,rfl,rfl⟩,⟨_,rfl,rfl⟩,⟨_,rfl,rfl⟩,⟨_,rfl,rfl⟩,trivial⟩ rfl (Ac rfl (Ac rfl (Ac rfl (Ac rfl (Ac rfl (AE _)))))) ⟨⟨_,rfl,rfl,rfl⟩,⟨_,rfl,rfl,rfl⟩,⟨_,rfl,rfl,rfl⟩,⟨_,rfl,rfl,rfl⟩,⟨_,rfl,rfl,rfl⟩,trivial⟩ rfl (ZU next hnl 0 (DS.mk been []) ([]:List (List AV)) hbl (Q3 hbl))) ?_
 refine wk 2 ?_;refine AK (γ:=FW) 5 (fun q=>⟨69,(Aa (Aa (Aa (Aa (Aa AZ 2 (.fn (.func 155) [] [])) 3 (.ptr 1 1 0 0)) 4 (.ptr 2 1 0 0)) 6 (.ptr 3 1 0 0)) 7 (.fn (.func 156) [] [.ptr 1 1 0 0,.ptr 2 1 0 0,.ptr 3 1 0 0])),(hput (hput (hput (hput (hput (Bc 5) 0 (.row true 1 ((q.s).been.map Bg))) 1 (.row false 1 [[AO next]])) 2 (.row false 1 [[.ref 0 next.length 0 next.length]])) 3 (.row false 1 [[.ref 4 (q.es).length 0 (q.s).way.length]])) 4 (.row true 2 (q.es)))⟩) (fun q=>FWInv next (Ju next (TV next (FM been)+1) (FM been)) q) (fun q=>q.g) ⟨FM been,TG 0 (DS.mk been []) [],TV next (FM been)+1⟩ (Sub.mk' B5 SM) (FWInv.first hbl) (fun _=>Ab (Ab (Ab (Ab (Ab (fun b hb=>Ay hb) rfl) rfl) rfl) rfl) rfl) ?_;intro q hF;refine wk 7 ?_;refine asp 15 (fun hb1=>?_) fun hb1=>?_
 .
  refine act ?_;have hpos:0<q.s.way.length:=by simpa using hb1
  obtain⟨⟨b,i⟩,hp⟩:∃p,q.s.way.getLast?=some p:=⟨_,List.getLast?_eq_some_getLast (List.ne_nil_of_length_pos hpos)⟩
  have htop:=(hF.way.top hp).1;have hbi:=hF.ok.way (b,i) (by rw[HK hp];simp);simp only at hbi;obtain⟨l,hnx⟩:=Af (l:=next) (k:=b.toNat) z144q;have hrl:BR next b=l:=by simp[BR,hnx]
  rw[hrl]at hbi;refine wk 7 ?_;refine aq 19 (A1 (r:=.int .i64 ((q.s.way.length-1:Nat):Int)) rfl rfl rfl (LJ hpos (by have:=hF.way.cap;have:=hF.way.le;omega))) ?_;refine aq 20 (Ae Ai rfl rfl rfl rfl rfl rfl rfl rfl rfl (q46 _) (by have:=hF.way.le;omega)) ?_;refine wk 8 ?_;refine dq 24 (Ar Ai rfl rfl rfl (.ptr _ _ _ _ _ _ _ _ rfl rfl (show _=some (DK (b,i)) by rw[qQ8,q55];exact htop)) rfl) ?_;refine wk 4 ?_;refine dq 29 (Ar Ai rfl rfl rfl (.ptr _ _ _ _ _ _ _ _ rfl rfl (show _=some (DK (b,i)) by rw[qQ8,q55];exact htop)) rfl) ?_;refine dq 30 (Ak Ai rfl rfl rfl rfl rfl rfl hbi.1 (EK hnx) rfl) ?_;refine wk 4 ?_;refine asp 33 (fun hb2=>?_) fun hb2=>?_
  .
   refine act ?_;have hil:i<l.length:=by have h:=hb2;simp at h;exact h
   obtain⟨y,hlx⟩:=Af (l:=l) (k:=i.toNat) z144q;refine wk 5 ?_;refine aq 37 (Ar Ai rfl rfl rfl (.ptr _ _ _ _ _ _ _ _ rfl rfl (show _=some (DK (b,i)) by rw[qQ8,q55];exact htop)) rfl) ?_;refine aq 38 (A1 (r:=.int .i64 (i+1)) rfl rfl rfl (by simp only[AX,BH,isShift,qZ3,qZ8];rw[Cq z144q (by have:=hsm _ (q33 hnx);omega)])) ?_;refine wk 2 ?_;refine AOps.w rfl rfl (o_store Ai rfl rfl rfl rfl rfl rfl rfl (show _=some (DK (b,i)) by rw[qQ8,q55];exact htop) rfl Aj rfl E4) ?_;refine wk 2 ?_;refine AGo.sub (s':=⟨69,(Aa (Aa (Aa (Aa (Aa (Aa AZ 2 (.fn (.func 155) [] [])) 3 (.ptr 1 1 0 0)) 4 (.ptr 2 1 0 0)) 6 (.ptr 3 1 0 0)) 7 (.fn (.func 156) [] [.ptr 1 1 0 0,.ptr 2 1 0 0,.ptr 3 1 0 0])) 8 (.ptr 4 q.es.length (0+(((q.s.way.length-1:Nat):Int)).toNat) 0)),(hput (hput (hput (hput (hput hNone 0 (.row true 1 (((DS.mk q.s.been (q.s.way.dropLast++[(b,i+1)]))).been.map Bg))) 1 (.row false 1 [[AO next]])) 2 (.row false 1 [[.ref 0 next.length 0 next.length]])) 3 (.row false 1 [[.ref 4 ((q.es.set (q.s.way.length-1) (DK (b,i+1)))).length 0 ((DS.mk q.s.been (q.s.way.dropLast++[(b,i+1)]))).way.length]])) 4 (.row true 2 ((q.es.set (q.s.way.length-1) (DK (b,i+1))))))⟩) (Sub.mk' B5 (by repeat(first|exact HSub.none _|exact AQ _|exact AM Aj|refine HSub.put ?_ (by first|rfl|exact congrArg (fun es=>some (AObj.row true 2 es)) (by rw[qQ8,q55];rfl)|exact congrArg (fun p:Nat×Nat=>some (AObj.row false 1 [[AV.ref 4 p.1 0 p.2]])) (SR hp _ _))|refine AP ?_ Aj))) ?_
   refine wk 6 ?_;refine dq 46 (Ar Ai rfl rfl rfl (.ptr _ _ _ _ _ _ _ _ rfl z145q (show _=some (DK (b,i+1)) by rw[qQ8,q55,q21 (by have:=hF.way.le;omega)])) rfl) ?_;refine dq 47 (Ak Ai rfl rfl rfl rfl rfl rfl hbi.1 (EK hnx) rfl) ?_;refine wk 4 ?_;refine dq 52 (Ar Ai rfl rfl rfl (.ptr _ _ _ _ _ _ _ _ rfl z145q (show _=some (DK (b,i+1)) by rw[qQ8,q55,q21 (by have:=hF.way.le;omega)])) rfl) ?_;refine dq 53 (A1 (r:=.int .i64 i) rfl rfl rfl (by simp only[AX,BH,isShift,qZ3,qZ8];rw[show i+1-1=i by omega,Cq z144q (by have:=hsm _ (q33 hnx);omega)])) ?_;refine dq 54 (Ak Ai rfl rfl rfl rfl rfl rfl hbi.2.2.1 (cs:=[.int .i64 (((BR next b)[i.toNat]?).getD 0)]) (by show(List.map (fun b=>[AV.int .i64 b]) l)[i.toNat]?=_;rw[q54,hlx,hrl,hlx];rfl) rfl) ?_;refine wk 1 ?_;refine dx 56 (N6 (hc:=(hput (hput (hput (hput (hput hNew 0 (.row true 1 (((DS.mk q.s.been (q.s.way.dropLast++[(b,i+1)]))).been.map Bg))) 1 (.row false 1 [[AO next]])) 2 (.row false 1 [[.ref 0 next.length 0 next.length]])) 3 (.row false 1 [[.ref 4 ((q.es.set (q.s.way.length-1) (DK (b,i+1)))).length 0 ((DS.mk q.s.been (q.s.way.dropLast++[(b,i+1)]))).way.length]])) 4 (.row true 2 ((q.es.set (q.s.way.length-1) (DK (b,i+1))))))) (hw:=(hput (hput (hput (hput (hput hNone 0 (.row true 1 (((BY (((BR next b)[i.toNat]?).getD 0) (DS.mk q.s.been (q.s.way.dropLast++[(b,i+1)])))).been.map Bg))) 1 (.row false 1 [[AO next]])) 2 (.row false 1 [[.ref 0 next.length 0 next.length]])) 3 (.row false 1 [[.ref 4 ((TG (((BR next b)[i.toNat]?).getD 0) (DS.mk q.s.been (q.s.way.dropLast++[(b,i+1)])) (q.es.set (q.s.way.length-1) (DK (b,i+1))))).length 0 ((BY (((BR next b)[i.toNat]?).getD 0) (DS.mk q.s.been (q.s.way.dropLast++[(b,i+1)])))).way.length]])) 4 (.row true 2 ((TG (((BR next b)[i.toNat]?).getD 0) (DS.mk q.s.been (q.s.way.dropLast++[(b,i+1)])) (q.es.set (q.s.way.length-1) (DK (b,i+1)))))))) [4,3,2,1,0] [(0,(.row true 1 (((BY (((BR next b)[i.toNat]?).getD 0) (DS.mk q.s.been (q.s.way.dropLast++[(b,i+1)])))).been.map Bg))),(1,(.row false 1 [[AO next]])),(2,(.row false 1 [[.ref 0 next.length 0 next.length]])),(3,(.row false 1 [[.ref 4 ((TG (((BR next b)[i.toNat]?).getD 0) (DS.mk q.s.been (q.s.way.dropLast++[(b,i+1)])) (q.es.set (q.s.way.length-1) (DK (b,i+1))))).length 0 ((BY (((BR next b)[i.toNat]?).getD 0) (DS.mk q.s.been (q.s.way.dropLast++[(b,i+1)])))).way.length]])),(4,(.row true 2 ((TG (((BR next b)[i.toNat]?).getD 0) (DS.mk q.s.been (q.s.way.dropLast++[(b,i+1)])) (q.es.set (q.s.way.length-1) (DK (b,i+1)))))))] rfl rfl Tryz.func156 AF rfl rfl rfl ⟨⟨_,rfl,rfl⟩,⟨_,rfl,rfl⟩,⟨_,rfl,rfl⟩,⟨_,rfl,rfl⟩,⟨_,rfl,rfl⟩,trivial⟩ rfl (Ac rfl (Ac rfl (Ac rfl (Ac rfl (Ac rfl (AE _)))))) ⟨⟨_,rfl,rfl,rfl⟩,⟨_,rfl,rfl,rfl⟩,⟨_,rfl,rfl,rfl⟩,⟨_,rfl,rfl,rfl⟩,⟨_,rfl,rfl,rfl⟩,trivial⟩ rfl (ZU next hnl (((BR next b)[i.toNat]?).getD 0) (DS.mk q.s.been (q.s.way.dropLast++[(b,i+1)])) (q.es.set (q.s.way.length-1) (DK (b,i+1))) hF.ok.len (hF.way.seen hp))) ?_
   refine wk 2 ?_;exact rz
  refine acf ?_;have hil:¬i<l.length:=by have h:=hb2;simp at h;omega
  refine wk 6 ?_;refine aq 60 (Ar Ai rfl rfl rfl (.ptr _ _ _ _ _ _ _ _ rfl rfl (show _=some (DK (b,i)) by rw[qQ8,q55];exact htop)) rfl) ?_;refine wk 7 ?_;refine aq 64 (A1 (r:=.int .i64 ((q.s.way.length-1:Nat):Int)) rfl rfl rfl (LJ hpos (by have:=hF.way.cap;have:=hF.way.le;omega))) ?_;refine aq 65 (FZ (m:=(DS.mk q.s.been q.s.way.dropLast).way.length) Ai rfl rfl rfl rfl rfl rfl rfl rfl z145q z145q) ?_;refine wk 5 ?_;refine ax 68 (N6 (hc:=hNew) (hw:=hNone) [] [] rfl rfl Tryz.func155 AF rfl rfl rfl trivial rfl (AE _) trivial rfl (lT b)) ?_;refine an ?_;exact rz
 refine acf ?_;have hnil:q.s.way=[]:=q18.1 (by have h:=hb1;simp at h;simpa using h);refine wk 1 ?_;refine⟨[],trivial,rfl,?_⟩;rw[show HD next been=q.s.been from(congrArg DS.been (hF.done hnil)).symm];exact HSub.put (HSub.none _) rfl
theorem fV(next:List (List Int))(hnl:next.length<=100000)(hsm:∀l∈next,l.length<=100000):APure Tryz.prog 148 [AO next] (fun r=>r=Cf (HD next (List.replicate next.length false))):=by
 refine APure.of_body (n:=11) Ai Tryz.func148 rfl rfl ?_;refine wk 8 ?_;refine ax 6 (AJ Ai (n:=next.length) (m:=next.length) 0 true rfl rfl rfl z145q z145q rfl rfl rfl rfl rfl (q68 _) rfl (qZ0 _) (by show 1*next.length<=_;omega) Be) ?_;refine wk 3 ?_;refine AGo.sub (s':=⟨11,(Aa (Aa AZ 0 (AO next)) 3 (.ref 0 next.length 0 next.length)),(hput hNone 0 (.row true 1 (((List.replicate next.length false)).map Bg)))⟩) (Sub.mk' B5 (by repeat(first|exact HSub.none _|exact AQ _|exact AM Aj|refine HSub.put ?_ (by first|rfl|exact congrArg (fun es=>some (AObj.row true 1 es)) (by rw[List.map_replicate];rfl))|refine AP ?_ Aj))) ?_;refine wk 3 ?_;refine ax 9 (GU (ky next hnl hsm (List.replicate next.length false) z145q) [0] [(0,(.row true 1 ((HD next (List.replicate next.length false)).map Bg)))] rfl Tryz.func154 AF rfl rfl rfl ⟨⟨_,rfl,rfl⟩,trivial⟩ rfl (Ac rfl (AE _)) ⟨⟨_,rfl,rfl,rfl⟩,trivial⟩ rfl) ?_
 refine wk 2 ?_;refine AGo.ghost (.freezeA 3 0 rfl rfl (by simp[Kx])) ?_;refine wk 4 ?_;refine DY ⟨[_],⟨rfl,trivial⟩,?_,rfl⟩;rfl
theorem W4(f:BFunc)(reach:List Bool)(hn:f.blocks.length<=1000)(hr:reach.length=f.blocks.length)(hle:f.leads):APure Tryz.prog 149 [.agg f.cells,AO f.nexts,Cf reach] (fun r=>r=.tup [AS (f.takes reach),Cf (f.takenAt reach f.blocks.length)]):=by
 refine APure.of_body (n:=104) Ai Tryz.func149 rfl rfl ?_;refine HG ?_;refine ax 3 (D4 2 0) ?_;refine wk 8 ?_;refine ax 18 (AJ Ai (n:=f.blocks.length) (m:=f.blocks.length) 1 true rfl rfl rfl z145q z145q rfl rfl rfl rfl rfl (q68 _) rfl (qZ0 _) YV Be) ?_;refine wk 10 ?_;refine AK (γ:=Nat) 2 (fun k=>⟨104,(Aa (Aa (Aa (Aa (Aa (Aa (Aa (Aa AZ 0 (.agg f.cells)) 1 (AO f.nexts)) 2 (Cf reach)) 3 (.ptr 0 1 0 0)) 8 (.ref 1 f.blocks.length 0 f.blocks.length)) 19 (AO f.nexts)) 20 (.int .i64 (f.blocks.length:Int))) 21 (.int .i64 (k:Int))),(hput (hput (Bc 2) 0 (.row false 2 [f.cells])) 1 (.row true 1 (BS (BW f.nexts reach k))))⟩) (fun k=>k<=f.blocks.length) (fun k=>f.blocks.length-k) 0 (Sub.mk' (by repeat(first|exact ESub.new _|refine ESub.put ?_ (by first|rfl|exact congrArg (fun(n:Nat)=>some (AV.int .i64 (n:Int))) (by simp[AL])))) (by repeat(first|exact HSub.none _|exact AQ _|exact AM Aj|refine HSub.put ?_ (by first|rfl|exact congrArg (fun es=>some (AObj.row true 1 es)) (by rw[BW,AL];exact LM _))|refine AP ?_ Aj))) (qZ1 _) (fun _=>Ab (Ab (fun b hb=>Ay hb) rfl) rfl) ?_
 intro k hk;refine wk 5 ?_;refine asp 22 (fun hb1=>?_) fun hb1=>?_
 .
  refine act ?_;have hkl:k<f.blocks.length:=by simpa using hb1
  obtain⟨x,hx⟩:=Af hkl;have hnx:=CL hx;obtain⟨rk,hrk⟩:=Af (l:=reach) (k:=k) z144q;refine wk 6 ?_;refine aq 24 (Ak Ai rfl rfl rfl rfl rfl rfl (q46 _) (Aw Bm) rfl) ?_;refine wk 9 ?_;refine aq 28 (Ak Ai rfl rfl rfl rfl rfl rfl (q46 _) (Aw Bm) rfl) ?_;refine wk 3 ?_;refine asp 30 (fun hb2=>?_) fun hb2=>?_
  .
   refine act ?_;have hrf:reach[k]?=some false:=by rw[hrk];simpa using hb2
   exact ri
  refine acf ?_;have hrt:reach[k]?=some true:=by rw[hrk];simpa using hb2
  have h2:=MR f x.nexts (q33 hnx);refine wk 8 ?_;refine AK (γ:=Nat) 2 (fun j=>⟨104,(Aa (Aa (Aa (Aa (Aa (Aa (Aa (Aa (Aa (Aa (Aa (Aa AZ 0 (.agg f.cells)) 1 (AO f.nexts)) 2 (Cf reach)) 3 (.ptr 0 1 0 0)) 8 (.ref 1 f.blocks.length 0 f.blocks.length)) 19 (AO f.nexts)) 20 (.int .i64 (f.blocks.length:Int))) 21 (.int .i64 (k:Int))) 9 (.int .i64 (k:Int))) 31 (AS x.nexts)) 32 (.int .i64 (x.nexts.length:Int))) 33 (.int .i64 (j:Int))),(hput (hput (Bc 2) 0 (.row false 2 [f.cells])) 1 (.row true 1 (BS ((x.nexts.take j).foldl Kk (BW f.nexts reach k)))))⟩) (fun j=>j<=x.nexts.length) (fun j=>x.nexts.length-j) 0 (Sub.mk' DB SM) (qZ1 _) (fun _=>Ab (Ab (fun b hb=>Ay hb) rfl) rfl) ?_;intro j hj;refine wk 5 ?_;refine asp 34 (fun hb3=>?_) fun hb3=>?_
  .
   refine act ?_;have hjl:j<x.nexts.length:=by simpa using hb3
   obtain⟨y,hy⟩:=Af hjl;have hyr:=hle x.nexts (q33 hnx) y (q33 hy);have hub:=R7 (K0 (x.nexts.take j) (Nj (MR f) reach k)) y;have hjt:(x.nexts.take j).length=j:=by rw[q69];omega
   rw[hjt]at hub;refine wk 5 ?_;refine aq 35 (Ak Ai rfl rfl rfl rfl rfl rfl (q46 _) (Aw Bm) rfl) ?_;refine wk 6 ?_;refine aq 39 (Ae Ai rfl rfl rfl rfl rfl rfl rfl kc rfl hyr.1 z144q) ?_;refine aq 40 (Ar Ai rfl rfl rfl (.ptr _ _ _ _ _ _ _ _ rfl kc (PN (by rw[Fl,Co,AL];exact hyr))) rfl) ?_;refine aq 41 (A1 (r:=.int .i64 (iget ((x.nexts.take j).foldl Kk (BW f.nexts reach k)) y+1)) rfl rfl rfl (by simp only[AX,BH,isShift,qZ3,qZ8];rw[Cq z144q z144q])) ?_;refine aq 42 (Ae Ai rfl rfl rfl rfl rfl rfl rfl kc rfl hyr.1 z144q) ?_;refine AOps.w rfl rfl (o_store Ai rfl rfl rfl rfl rfl rfl kc (PN (by rw[Fl,Co,AL];exact hyr)) rfl Aj rfl E4) ?_;refine wk 2 ?_;refine aq 43 (A2 rfl rfl hjl Be) ?_;refine wk 2 ?_;exact⟨j+1,Drop.mk' SK (by repeat(first|exact HDrop.none _ _|exact HDrop.tail _ _|refine HDrop.put ?_ (by first|rfl|exact congrArg (fun es=>some (AObj.row true 1 es)) (by rw[Yu hy];exact R9 _ _ _)) rfl rfl)),hjl,by omega⟩
  refine acf ?_;have hge2:x.nexts.length<=j:=by simpa using hb3
  exact ri
 refine acf ?_;have hge:f.blocks.length<=k:=by simpa using hb1
 obtain rfl:k=f.blocks.length:=by omega
 refine wk 6 ?_;refine ax 48 (AJ Ai (n:=f.blocks.length) (m:=f.blocks.length) 2 true rfl rfl rfl z145q z145q rfl rfl rfl rfl rfl (q68 _) rfl (qZ0 _) YV Be) ?_;refine wk 7 ?_;refine ax 52 (AJ Ai (n:=f.blocks.length) (m:=f.blocks.length) 3 true rfl rfl rfl z145q z145q rfl rfl rfl rfl rfl (q68 _) rfl (qZ0 _) (by show 1*f.blocks.length<=_;omega) Be) ?_;refine wk 11 ?_;refine AK (γ:=Nat) 4 (fun k=>⟨104,(Aa (Aa (Aa (Aa (Aa (Aa (Aa (Aa (Aa (Aa AZ 0 (.agg f.cells)) 1 (AO f.nexts)) 2 (Cf reach)) 3 (.ptr 0 1 0 0)) 8 (.ref 1 f.blocks.length 0 f.blocks.length)) 6 (.ref 2 f.blocks.length 0 f.blocks.length)) 7 (.ref 3 f.blocks.length 0 f.blocks.length)) 54 (BZ f.blocks)) 55 (.int .i64 (f.blocks.length:Int))) 56 (.int .i64 (k:Int))),(hput (hput (hput (hput (Bc 4) 0 (.row false 2 [f.cells])) 1 (.row true 1 (BS (waysF f.nexts reach)))) 2 (.row true 1 (((f.takes reach).take k).map TH++List.replicate (f.blocks.length-k) [.int .i64 0]))) 3 (.row true 1 ((f.takenAt reach k).map Bg)))⟩) (fun k=>k<=f.blocks.length) (fun k=>f.blocks.length-k) 0 (Sub.mk' DB (by repeat(first|exact HSub.none _|exact AQ _|exact AM Aj|refine HSub.put ?_ (by first|rfl|exact congrArg (fun w=>some (AObj.row true 1 (BS w))) (by rw[waysF,AL])|exact congrArg (fun es=>some (AObj.row true 1 es)) (by simp[BFunc.takenAt,Bg]))|refine AP ?_ Aj))) (qZ1 _) (fun _=>Ab (Ab (Ab (Ab (fun b hb=>Ay hb) rfl) rfl) rfl) rfl) ?_
 intro k hk;refine wk 5 ?_;refine asp 57 (fun hb4=>?_) fun hb4=>?_
 .
  refine act ?_;have hkl:k<f.blocks.length:=by simpa using hb4
  obtain⟨x,hx⟩:=Af hkl;obtain⟨rk,hrk⟩:=Af (l:=reach) (k:=k) z144q;have htk:=Mp (reach:=reach) hx;refine wk 6 ?_;refine aq 59 (Ak Ai rfl rfl rfl rfl rfl rfl (q46 _) (Aw Bm) rfl) ?_;refine wk 1 ?_;refine ax 14 (Eg Ai 4) ?_;refine wk 7 ?_;refine aq 63 (Ae Ai rfl rfl rfl rfl rfl rfl rfl (AG (A4 f reach) (qX0 hkl)) rfl (q46 _) z144q) ?_;refine AOps.w rfl rfl (o_store Ai rfl rfl rfl rfl rfl rfl (AG (A4 f reach) (qX0 hkl)) (fill_get (A4 f reach) hkl) rfl Aj rfl E4) ?_;refine wk 5 ?_;refine aq 66 (Ak Ai rfl rfl rfl rfl rfl rfl (q46 _) (Aw Bm) rfl) ?_;refine wk 2 ?_;refine CM 68 (fun hb5=>?_) fun hb5=>?_
  .
   refine wk 5 ?_;refine CM 73 (fun hb6=>?_) fun hb6=>?_
   .
    refine wk 5 ?_;refine CM 78 (fun hb7=>?_) fun hb7=>?_
    .
     refine wk 6 ?_;refine CM 84 (fun hb8=>?_) fun hb8=>?_
     .
      have hto:=Jl hle hx (.inl (by simp_all));refine wk 3 ?_;refine aq 88 (Ae Ai rfl rfl rfl rfl rfl rfl rfl (by rw[BO,waysF,Co,AL]) rfl hto.1 z144q) ?_;refine aq 89 (Ar Ai rfl rfl rfl (.ptr _ _ _ _ _ _ _ _ rfl (by rw[BO,waysF,Co,AL]) (PN (by rw[waysF,Co,AL];exact hto))) rfl) ?_;refine wk 3 ?_;refine asp 91 (fun hb9=>?_) fun hb9=>?_
      .
       refine act ?_;have hyes:takeOf f.nexts reach k x=x.to:=W6 hrk (by simp_all);refine wk 6 ?_;refine aq 96 (Ae Ai rfl rfl rfl rfl rfl rfl rfl rX rfl (q46 _) z144q) ?_;refine AOps.w rfl rfl (o_store Ai rfl rfl rfl rfl rfl rfl rX (QN (fill_get (A4 f reach) hkl)) rfl Aj rfl E4) ?_;refine wk 5 ?_;refine aq 100 (Ae Ai rfl rfl rfl rfl rfl rfl rfl (by rw[q76,Cr]) rfl hto.1 z144q) ?_;refine AOps.w rfl rfl (o_store Ai rfl rfl rfl rfl rfl rfl (by rw[q76,Cr]) (cs:=[.bool (bget (f.takenAt reach k) x.to)]) (by rw[qQ8];exact qI (by rw[Cr];exact hto)) rfl Aj rfl E4) ?_;exact wJ
      refine acf ?_;have hno:takeOf f.nexts reach k x= -1:=takeOf_no hrk (by simp_all);exact wJ
     refine AOps.k 85 rfl rfl rfl ?_;refine AOps.k 86 rfl rfl rfl ?_;refine AOps.k 87 rfl rfl rfl ?_;refine AOps.k 88 rfl rfl rfl ?_;refine AOps.k 89 rfl rfl rfl ?_;refine AOps.k 90 rfl rfl rfl ?_;refine wk 3 ?_;have hno:takeOf f.nexts reach k x= -1:=takeOf_no hrk (by simp_all);exact wJ
    exact rK
   exact nl
  refine AOps.k 69 rfl rfl rfl ?_;refine AOps.k 70 rfl rfl rfl ?_;refine AOps.k 71 rfl rfl rfl ?_;refine wk 2 ?_;exact nl
 refine acf ?_;have hge:f.blocks.length<=k:=by simpa using hb4
 obtain rfl:k=f.blocks.length:=by omega
 refine wk 2 ?_;refine AGo.ghost (.freezeA 6 2 rfl rfl (AG (A4 f reach) (qZ0 _))) ?_;refine AGo.ghost (.freezeA 7 3 rfl rfl (by rw[q76,Cr])) ?_;refine wk 7 ?_;refine⟨[_,_],⟨rfl,rfl,trivial⟩,?_,rfl⟩;have e1:=CU (f:=TH) (z:=[.int .i64 0]) (A4 f reach) (qZ0 _);rw[q95,q20 (Nat.le_of_eq (AG (A4 f reach) (qZ0 _)).symm)]at e1;show AV.tup [.lst false _,.lst false _]=_;rw[e1];rfl
theorem cB(takes:List Int)(i:Int)(hn:takes.length<=1000)(hi:0<=i/\i<takes.length)(hin:∀v∈takes,v= -1\/(0<=v/\v<takes.length))(he:ends takes takes.length i=true):ACall Tryz.prog 150 [.int .i64 i,.ptr 2 1 0 0] (hput hNew 2 (.row false 1 [[AS takes]])) (fun r h'=>r=AS (Bq takes i)/\HSub (hput hNone 2 (.row false 1 [[AS takes]])) h'):=by
 refine ACall.of_body (n:=21) Ai Tryz.func150 rfl rfl ?_;refine wk 7 ?_;refine ax 6 (o_litRow Ai 3 true rfl rfl rfl rfl rfl rfl Aj rfl rfl rfl rfl E4 rfl rfl) ?_;refine wk 4 ?_;refine AGo.loopI (γ:=wO) (fun q=>⟨21,(Aa (Aa (Aa AZ 0 (.int .i64 q.c)) 1 (.ptr 2 1 0 0)) 4 (.ref 3 q.acc.length 0 q.acc.length)),(hput (hput hNone 2 (.row false 1 [[AS takes]])) 3 (.row true 1 (BS q.acc)))⟩) (fun q=>FInv2 takes (Bq takes i) q) (fun q=>q.g) ⟨i,[i],takes.length⟩ (Sub.mk' B5 SM) (FInv2.first hi he) ?_;intro q hF;refine wk 5 ?_;refine aq 9 (Ak Ai rfl rfl rfl rfl rfl rfl hF.c.1 (iA hF.c) rfl) ?_;refine wk 3 ?_;refine asp 11 (fun hb1=>?_) fun hb1=>?_
 .
  refine act ?_;have hnx:=hF.next hin hb1;have hlen:=hF.len;have hg0:0<q.g:=by omega
  refine wk 6 ?_;refine aq 14 (Ak Ai rfl rfl rfl rfl rfl rfl hF.c.1 (iA hF.c) rfl) ?_;refine wk 6 ?_;refine ax 18 (BU Ai rfl rfl rfl rfl rfl rfl Aj rfl rfl rfl rfl rfl rfl) ?_;refine ax 19 (o_append Ai (n:=q.acc.length) (m:=1) rfl rfl rfl rfl rfl rfl rfl rfl rfl (by rw[BO]) rfl rfl (q68 _) (.lst _ _) QY au rfl (by simp[BO,partVals];show _*8<=_;omega) (by simp[BO,partVals];simp only[maxLen];omega)) ?_;refine wk 2 ?_;exact⟨⟨iget takes q.c,q.acc++[iget takes q.c],q.g-1⟩,Sub.mk' (by repeat(first|exact ESub.new _|refine ESub.put ?_ (by first|rfl|exact congrArg (fun n=>some (AV.ref 3 n 0 n)) z145q))) (by repeat(first|exact HSub.none _|exact AQ _|exact AM Aj|refine HSub.put ?_ (by first|rfl|exact congrArg (fun es=>some (AObj.row true 1 es)) (by simp[BS,partVals];rfl))|refine AP ?_ Aj)),hnx.1,hnx.2⟩
 refine acf ?_;have hdone:=hF.done hb1;refine wk 2 ?_;refine AGo.ghost (.freezeA 4 3 rfl rfl (by rw[BO])) ?_;refine wk 5 ?_;refine⟨[_],⟨rfl,trivial⟩,?_,HSub.put (HSub.none _) rfl⟩;rw[<-hdone];rfl
theorem cq(f:BFunc)(p:List Int)(hf:∀x∈f.blocks,x.ins.length<=10000)(hp:oG f.blocks.length p)(hl:p.length<=100000):APure Tryz.prog 151 [.agg f.cells,AS p] (fun r=>r=EB (f.joined p)):=by
 obtain⟨hne,hin⟩:=hp;obtain⟨i0,rest,rfl⟩:∃i0 rest,p=i0::rest:=⟨p.head hne,p.tail,(List.cons_head_tail hne).symm⟩
 have h0:=hin i0 z145q;have hrl:rest.length<=100000:=by simp at hl;omega
 refine APure.of_body (n:=40) Ai Tryz.func151 rfl rfl ?_;refine HG ?_;refine ax 2 (D4 2 0) ?_;refine wk 7 ?_;refine dq 12 (Ak Ai rfl rfl rfl rfl rfl rfl Aj (cs:=[.int .i64 i0]) rfl rfl) ?_;refine wk 1 ?_;refine dq 14 (Ak Ai rfl rfl rfl rfl rfl rfl h0.1 (EK (Bv h0)) rfl) ?_;refine wk 11 ?_;refine aq 22 (U2 Ai rfl rfl rfl rfl rfl rfl rfl) ?_;refine wk 6 ?_;refine aq 24 (qf Ai (c:=[.int .i64 i0]) (es:=BS rest) rfl rfl rfl rfl rfl rfl (by intro cs h;simp[BS]at h;rcases h with rfl|⟨n,_,rfl⟩<;>rfl)) ?_;refine wk 4 ?_;refine AGo.loopI (γ:=Nat) (fun k=>⟨40,(Aa (Aa (Aa (Aa (Aa AZ 2 (.ptr 0 1 0 0)) 6 (R4 (VJ f rest k) 1 (IP f i0 rest k))) 24 (AS rest)) 25 (.int .i64 (rest.length:Int))) 26 (.int .i64 (k:Int))),(hput (hput hNone 0 (.row false 2 [f.cells])) 1 (MX (VJ f rest k) 8 (IP f i0 rest k)))⟩) (fun k=>k<=rest.length) (fun k=>rest.length-k) 0 (Sub.mk' (by repeat(first|exact ESub.new _|refine ESub.put ?_ (by first|rfl|exact congrArg (fun es=>some (AV.lst true es)) (by simp[IP,BFunc.joined])|exact congrArg (fun(n:Nat)=>some (AV.int .i64 (n:Int))) (by simp[BO])))) SM) (qZ1 _) ?_
 intro k hk;refine wk 5 ?_;refine asp 27 (fun hb1=>?_) fun hb1=>?_
 .
  refine act ?_;have hkl:k<rest.length:=by simpa[BO]using hb1
  obtain⟨y,hy⟩:=Af hkl;have hyr:=hin y (by simp[q33 hy]);have hb1:(IP f i0 rest k).length+(List.map Tac.cells (f.blockAt y).ins).length<=2000000000:=by
   have h1:=KU hf (i0::(rest.take k));have h2:=KU hf [y];simp only[BFunc.joined,List.flatMap_cons,List.flatMap_nil,q91,q48,q70,q84,q69]at h1 h2;simp only[IP,BFunc.joined,q76,q48];omega
  refine wk 5 ?_;refine aq 28 (Hc Ai (Aw hy)) ?_;refine wk 8 ?_;refine aq 34 (Ak Ai rfl rfl rfl rfl rfl rfl hyr.1 (EK (Bv hyr)) rfl) ?_;refine wk 2 ?_;refine ax 37 (RC Ai 1 rfl rfl rfl rfl rfl rfl rfl rfl rfl rfl rfl (q68 _) (NH f i0 rest k).1 (NH f i0 rest k).2 (R6 _).1 (R6 _).2 (by show _*64<=_;omega) Be) ?_;refine wk 3 ?_;refine aq 38 (A2 rfl rfl hkl Be) ?_;refine wk 2 ?_;exact⟨k+1,Sub.mk' (by repeat(first|exact ESub.new _|refine ESub.put ?_ (by first|rfl|exact congrArg (fun p:Bool×List (List AV)=>some (R4 p.1 1 p.2)) (oF hy)))) (by repeat(first|exact HSub.none _|exact AQ _|exact AM Aj|refine HSub.put ?_ (by first|rfl|exact congrArg (fun p:Bool×List (List AV)=>some (MX p.1 8 p.2)) (oF hy))|refine AP ?_ Aj)),hkl,by omega⟩
 refine acf ?_;have hge:rest.length<=k:=by simpa[BO]using hb1
 obtain rfl:k=rest.length:=by omega
 refine wk 2 ?_;refine AGo.ghost (.endJ 6 1 rfl rfl) ?_;refine wk 4 ?_;refine DY ⟨[_],⟨rfl,trivial⟩,?_,rfl⟩;show AV.lst false _=AV.lst false _;rw[IP,q71];rfl
theorem aX(f:BFunc)(hf:f.tame):APure Tryz.prog 144 [.agg f.cells] (fun r=>r=.tup [.agg f.tidy.cells,AO f.tpaths]):=by
 have hn:=hf.mild;have hle:=hf.leads;have hnn:=AL f;have hrl:=Lr f;have hn2:∀l∈f.nexts,l.length<=100000:=fun l hl=>by have:=MR f l hl;omega
 have htl:f.tk.length=f.blocks.length:=A4 f _;have hti:=I3 hle f.reach;refine APure.of_body (n:=119) Ai Tryz.func144 rfl rfl ?_;refine HG ?_;refine ax 1 (D4 2 0) ?_;refine ax 2 (Eg Ai 1) ?_;refine wk 5 ?_;refine ax 17 (CW Tryz.func80 (Tu f z144q)) ?_;refine wk 5 ?_;refine ax 19 (CW Tryz.func148 (fV f.nexts z144q hn2)) ?_;refine wk 7 ?_;refine ax 24 (CW Tryz.func149 (W4 f f.reach hn hrl hle)) ?_;refine wk 3 ?_;refine ax 6 (Eg Ai 2) ?_;refine wk 8 ?_;refine AGo.ghost (.dry 8 4 1 true rfl rfl rfl Aj) ?_;refine wk 4 ?_;refine ax 30 (AJ Ai (n:=f.blocks.length) (m:=f.blocks.length) 3 true rfl rfl rfl z145q z145q rfl rfl rfl rfl rfl (q68 _) rfl (qZ0 _) YV Be) ?_;refine wk 4 ?_;refine aq 31 (GO rfl rfl rfl) ?_;refine wk 11 ?_;refine AK (γ:=Nat) 5 (fun k=>⟨119,(Aa (Aa (Aa (Aa (Aa (Aa (Aa (Aa (Aa AZ 1 (.ptr 0 1 0 0)) 2 (.ptr 1 1 0 0)) 9 (.ref 3 f.blocks.length 0 f.blocks.length)) 5 (Cf f.reach)) 7 (Cf (f.takenAt f.reach f.blocks.length))) 8 (.ref 4 (f.pathsTo k).length 0 (f.pathsTo k).length)) 10 (.fn (.func 150) [] [.ptr 2 1 0 0])) 34 (.int .i64 (f.blocks.length:Int))) 35 (.int .i64 (k:Int))),(hput (hput (hput (hput (hput (Bc 5) 0 (.row false 2 [f.cells])) 1 (.row false 2 [[.int .i64 0,.nil]])) 2 (.row false 1 [[AS f.tk]])) 3 (.row true 1 (BS (f.numsTo k)))) 4 (.row true 1 ((f.pathsTo k).map F1)))⟩) (fun k=>k<=f.blocks.length) (fun k=>f.blocks.length-k) 0 (Sub.mk' DB (by repeat(first|exact HSub.none _|exact AQ _|exact AM Aj|refine HSub.put ?_ (by first|rfl|exact congrArg (fun es=>some (AObj.row true 1 es)) (LM _))|refine AP ?_ Aj|refine BD ?_ Aj))) (qZ1 _) (fun _=>Ab (Ab (Ab (Ab (Ab (fun b hb=>Ay hb) rfl) rfl) rfl) rfl) rfl) ?_
 intro k hk;refine wk 5 ?_;refine asp 36 (fun hb1=>?_) fun hb1=>?_
 .
  refine act ?_;have hkl:k<f.blocks.length:=by simpa using hb1
  obtain⟨rk,hrk⟩:=Af (l:=f.reach) (k:=k) z144q;obtain⟨tk,htk⟩:=Af (l:=(f.takenAt f.reach f.blocks.length)) (k:=k) (by rw[Cr];omega);have hhd:=Sf hrk htk;refine wk 12 ?_;refine aq 40 (Ak Ai rfl rfl rfl rfl rfl rfl (q46 _) (Aw Bm) rfl) ?_;refine wk 2 ?_;refine CM 42 (fun hb2=>?_) fun hb2=>?_
  .
   refine wk 2 ?_;refine aq 45 (Ak Ai rfl rfl rfl rfl rfl rfl (q46 _) (Aw Bm) rfl) ?_;refine wk 4 ?_;refine asp 48 (fun hb3=>?_) fun hb3=>?_
   .
    refine act ?_;have hhead:f.headOf k=true:=by rw[hhd];simp_all
    have hpl:=Dr f k;refine wk 6 ?_;refine aq 53 (Ae Ai rfl rfl rfl rfl rfl rfl rfl (by rw[BO,B7]) rfl (q46 _) z144q) ?_;refine AOps.w rfl rfl (o_store Ai rfl rfl rfl rfl rfl rfl (by rw[BO,B7]) (PN (by rw[B7];omega)) rfl Aj rfl E4) ?_;refine wk 5 ?_;refine ax 57 (N6 (hc:=(hput hNew 2 (.row false 1 [[AS f.tk]]))) (hw:=(hput hNone 2 (.row false 1 [[AS f.tk]]))) [2] [(2,(.row false 1 [[AS f.tk]]))] rfl rfl Tryz.func150 AF rfl rfl rfl ⟨⟨_,rfl,rfl⟩,trivial⟩ rfl (Ac rfl (AE _)) ⟨⟨_,rfl,rfl,rfl⟩,trivial⟩ rfl (cB f.tk k z144q z144q hti (hf.ends k hhead))) ?_;refine ax 58 (BU Ai rfl rfl rfl rfl rfl rfl Aj rfl rfl rfl rfl rfl rfl) ?_;refine ax 59 (o_append Ai (n:=(f.pathsTo k).length) (m:=1) rfl rfl rfl rfl rfl rfl rfl rfl rfl z145q rfl rfl (q68 _) (.lst _ _) QY au rfl (by simp[partVals];show _*24<=_;omega) (by simp[partVals];simp only[maxLen];omega)) ?_
    refine wk 3 ?_;exact pl
   refine acf ?_;have hhead:f.headOf k=false:=by rw[hhd];simp_all
   refine wk 2 ?_;exact pl
  refine AOps.k 43 rfl rfl rfl ?_;refine AOps.k 44 rfl rfl rfl ?_;refine AOps.k 45 rfl rfl rfl ?_;refine AOps.k 46 rfl rfl rfl ?_;refine AOps.k 47 rfl rfl rfl ?_;refine wk 3 ?_;have hhead:f.headOf k=false:=by rw[hhd];simp_all
  refine wk 2 ?_;exact pl
 refine acf ?_;have hge:f.blocks.length<=k:=by simpa using hb1
 obtain rfl:k=f.blocks.length:=by omega
 refine wk 2 ?_;refine AGo.ghost (.freezeA 8 4 rfl rfl z145q) ?_;have hml:f.tpaths.length<=f.blocks.length:=Dr f f.blocks.length;refine wk 5 ?_;refine dx 65 (AJ Ai (n:=f.tpaths.length) (m:=f.tpaths.length) 5 true rfl rfl rfl (by simp[BFunc.tpaths]) (by simp[BFunc.tpaths]) rfl rfl rfl rfl rfl (q68 _) rfl (qZ0 _) (by show 56*f.tpaths.length<=_;have:=Dr f f.blocks.length;have:f.tpaths.length<=f.blocks.length:=this;omega) (by have:=Dr f f.blocks.length;have:f.tpaths.length<=f.blocks.length:=this;simp only[maxLen];omega)) ?_;refine wk 1 ?_;refine dx 12 (Eg Ai 6) ?_;refine wk 10 ?_;refine AK (γ:=Nat) 7 (fun k=>⟨119,(Aa (Aa (Aa (Aa (Aa (Aa (Aa (Aa AZ 1 (.ptr 0 1 0 0)) 2 (.ptr 1 1 0 0)) 9 (.ref 3 f.blocks.length 0 f.blocks.length)) 8 (AO f.tpaths)) 12 (.ptr 6 1 0 0)) 67 (AO f.tpaths)) 68 (.int .i64 (f.tpaths.length:Int))) 69 (.int .i64 (k:Int))),(hput (hput (hput (hput (hput (Bc 7) 0 (.row false 2 [f.cells])) 1 (.row false 2 [[.int .i64 0,.nil]])) 3 (.row true 1 (BS f.nums))) 5 (.row true 5 (((f.tpaths.map f.newBlock).take k).map Block.cells++List.replicate (f.tpaths.length-k) [.nil,.int .i64 0,.int .i64 0,.int .i64 0,.int .i64 0]))) 6 (.row false 2 [[.int .i64 f.regs,.ref 5 f.tpaths.length 0 f.tpaths.length]]))⟩) (fun k=>k<=f.tpaths.length) (fun k=>f.tpaths.length-k) 0 (Sub.mk' (by repeat(first|exact ESub.new _|refine ESub.put ?_ (by first|rfl|exact congrArg (fun(n:Nat)=>some (AV.int .i64 (n:Int))) (by simp[BFunc.tpaths])))) sD) (qZ1 _) (fun _=>Ab (Ab (Ab (Ab (Ab (fun b hb=>Ay hb) rfl) rfl) rfl) rfl) rfl) ?_
 intro k hk;refine wk 5 ?_;refine asp 70 (fun hb4=>?_) fun hb4=>?_
 .
  refine act ?_;have hkl:k<f.tpaths.length:=by simpa using hb4
  obtain⟨p,hp⟩:=Af hkl;have hpm:=q33 hp;have hpin:=Je hle _ (qZ0 _) p hpm;have hplen:0<p.length:=q43.2 hpin.1;have hlast:=hpin.2 _ (Jm hpin.1);have hbx:=Bv hlast;have hnb:(f.tpaths.map f.newBlock)[k]?=some (f.newBlock p):=by simp[hp]
  refine wk 6 ?_;refine aq 72 (Ak Ai rfl rfl rfl rfl rfl rfl (q46 _) (Aw Bm) rfl) ?_;refine wk 11 ?_;refine dq 79 (A1 (r:=.int .i64 ((p.length-1:Nat):Int)) rfl rfl rfl (by rw[q76];exact LJ hplen (by have:=EZ _ p hpm;omega))) ?_;refine dq 80 (Ak Ai rfl rfl rfl rfl rfl rfl (q46 _) (cs:=[.int .i64 (AT p)]) (by show(List.map (fun b=>[AV.int .i64 b]) p)[_]?=_;rw[q55,q54,PF hpin.1];rfl) rfl) ?_;refine wk 1 ?_;refine dq 82 (Ak Ai rfl rfl rfl rfl rfl rfl hlast.1 (EK (Bv hlast)) rfl) ?_;refine wk 1 ?_;refine dx 15 (Eg Ai 7) ?_;refine wk 6 ?_;refine ax 86 (CW Tryz.func151 (cq f p hf.ins hpin (by have:=EZ _ p hpm;omega))) ?_;refine wk 10 ?_;refine CM 91 (fun hb5=>?_) fun hb5=>?_
  .
   refine AOps.k 92 rfl rfl rfl ?_;refine AOps.k 93 rfl rfl rfl ?_;refine AOps.k 94 rfl rfl rfl ?_;refine wk 3 ?_;have hto:=Jl hle hbx (by simp_all);refine wk 4 ?_;refine aq 99 (Ae Ai rfl rfl rfl rfl rfl rfl rfl aw rfl hto.1 z144q) ?_;refine aq 100 (Ar Ai rfl rfl rfl (.ptr _ _ _ _ _ _ _ _ rfl aw (PN (by rw[show f.nums.length=f.blocks.length from B7 f _];exact hto))) rfl) ?_;refine wk 10 ?_;refine asp 104 (fun hb6=>?_) fun hb6=>?_
   .
    exact pi
   refine wk 7 ?_;exact wM
  refine wk 5 ?_;refine asp 95 (fun hb7=>?_) fun hb7=>?_
  .
   refine act ?_;have hto:=Jl hle hbx (by simp_all);refine wk 4 ?_;refine aq 99 (Ae Ai rfl rfl rfl rfl rfl rfl rfl aw rfl hto.1 z144q) ?_;refine aq 100 (Ar Ai rfl rfl rfl (.ptr _ _ _ _ _ _ _ _ rfl aw (PN (by rw[show f.nums.length=f.blocks.length from B7 f _];exact hto))) rfl) ?_;refine wk 10 ?_;refine asp 104 (fun hb8=>?_) fun hb8=>?_
   .
    exact pi
   refine wk 7 ?_;exact wM
  refine wk 9 ?_;refine asp 104 (fun hb9=>?_) fun hb9=>?_
  .
   exact pi
  refine wk 7 ?_;exact wM
 refine acf ?_;have hge:f.tpaths.length<=k:=by simpa using hb4
 refine wk 2 ?_;refine AGo.ghost (.freezeCell 6 0 1 5 rfl rfl rfl rfl (AG (by simp:(f.tpaths.map f.newBlock).length=f.tpaths.length) hk) Aj) ?_;refine wk 7 ?_;refine⟨[_,_],⟨⟨_,_,_,_,rfl,rfl,.ptr _ _ _ _ _ _ _ _ rfl rfl rfl,rfl⟩,rfl,trivial⟩,?_,rfl⟩;have e1:=CU (f:=Block.cells) (z:=[.nil,.int .i64 0,.int .i64 0,.int .i64 0,.int .i64 0]) (by simp:(f.tpaths.map f.newBlock).length=f.tpaths.length) hge;show AV.tup [.agg [_,.lst false _],_]=_;rw[e1];rfl
theorem Su(op a b:Int)(hb:0<=b):APure Tryz.prog 103 [.int .i64 op,.int .u32 a,.int .u32 b] (fun r=>r=YX (wdivide op a b)):=by
 refine APure.of_body (n:=18) Ai Tryz.func103 rfl rfl ?_;refine wk 11 ?_;refine asp 9 (fun hb1=>?_) fun hb1=>?_
 .
  refine wk 7 ?_;exact dU
 refine acf ?_;have hb0:¬b=0:=by simpa using hb1
 refine wk 7 ?_;refine asp 11 (fun hb2=>?_) fun hb2=>?_
 .
  refine wk 5 ?_;refine aq 14 (A1 (r:=.int .u32 (IntKind.u32.wrap (a.tdiv b))) rfl rfl rfl (by simp[AX,BH,isShift,hb0])) ?_;refine wk 4 ?_;exact dU
 refine wk 6 ?_;refine aq 17 (A1 (r:=.int .u32 (a.tmod b)) rfl rfl rfl (by simp[AX,BH,isShift,hb0])) ?_;refine wk 4 ?_;exact dU
theorem UM(op a b:Int)(hb:0<=b):APure Tryz.prog 104 [.int .i64 op,.int .u32 a,.int .u32 b] (fun r=>r=.int .u32 (Ga op a b)):=by
 refine APure.of_body (n:=19) Ai Tryz.func104 rfl rfl ?_;refine wk 12 ?_;refine asp 7 (fun hb1=>?_) fun hb1=>?_
 .
  refine wk 5 ?_;exact er
 refine wk 7 ?_;refine asp 10 (fun hb2=>?_) fun hb2=>?_
 .
  refine wk 5 ?_;refine aq 15 (A1 (r:=.int .u32 (IntKind.u32.wrap (a*2^(min b.toNat IntKind.u32.bits)))) rfl rfl rfl rZ) ?_;refine wk 2 ?_;exact er
 refine wk 6 ?_;refine aq 18 (A1 (r:=.int .u32 (a.fdiv (2^(min b.toNat IntKind.u32.bits)))) rfl rfl rfl rZ) ?_;refine wk 2 ?_;exact er
theorem Qa(op a b:Int)(hb:0<=b):APure Tryz.prog 105 [.int .i64 op,.int .u32 a,.int .u32 b] (fun r=>r=.int .u32 (HJ op a b)):=by
 refine APure.of_body (n:=23) Ai Tryz.func105 rfl rfl ?_;refine wk 16 ?_;refine CM 10 (fun hb1=>?_) fun hb1=>?_
 .
  refine wk 6 ?_;refine asp 7 (fun hb2=>?_) fun hb2=>?_
  .
   refine wk 7 ?_;exact WG
  refine wk 7 ?_;refine CM 18 (fun hb3=>?_) fun hb3=>?_
  .
   refine wk 6 ?_;refine asp 15 (fun hb4=>?_) fun hb4=>?_
   .
    refine wk 7 ?_;exact WG
   refine wk 7 ?_;exact WG
  refine wk 13 ?_;exact WG
 refine wk 13 ?_;refine CM 18 (fun hb5=>?_) fun hb5=>?_
 .
  refine wk 6 ?_;refine asp 15 (fun hb6=>?_) fun hb6=>?_
  .
   refine wk 7 ?_;exact WG
  refine wk 7 ?_;exact WG
 refine wk 13 ?_;exact WG
theorem jy(op a b:Int)(hb:0<=b):APure Tryz.prog 96 [.int .i64 op,.int .u32 a,.int .u32 b] (fun r=>r=YX (wapp op a b)):=by
 refine APure.of_body (n:=62) Ai Tryz.func96 rfl rfl ?_;refine wk 16 ?_;refine asp 9 (fun hb1=>?_) fun hb1=>?_
 .
  refine wk 10 ?_;exact K2
 refine wk 6 ?_;refine asp 14 (fun hb2=>?_) fun hb2=>?_
 .
  refine wk 10 ?_;exact K2
 refine wk 6 ?_;refine asp 19 (fun hb3=>?_) fun hb3=>?_
 .
  refine wk 10 ?_;exact K2
 refine wk 7 ?_;refine asp 24 (fun hb4=>?_) fun hb4=>?_
 .
  refine wk 8 ?_;refine ax 30 (CW Tryz.func103 (Su _ _ _ hb)) ?_;refine wk 6 ?_;exact K2
 refine wk 5 ?_;refine asp 24 (fun hb5=>?_) fun hb5=>?_
 .
  refine wk 6 ?_;refine ax 30 (CW Tryz.func103 (Su _ _ _ hb)) ?_;refine wk 6 ?_;exact K2
 refine wk 6 ?_;refine asp 33 (fun hb6=>?_) fun hb6=>?_
 .
  refine wk 10 ?_;exact K2
 refine wk 6 ?_;refine asp 38 (fun hb7=>?_) fun hb7=>?_
 .
  refine wk 10 ?_;exact K2
 refine wk 6 ?_;refine asp 43 (fun hb8=>?_) fun hb8=>?_
 .
  refine wk 10 ?_;exact K2
 refine wk 7 ?_;refine asp 48 (fun hb9=>?_) fun hb9=>?_
 .
  refine wk 8 ?_;refine ax 54 (CW Tryz.func104 (UM _ _ _ hb)) ?_;refine wk 4 ?_;exact K2
 refine wk 5 ?_;refine asp 48 (fun hb10=>?_) fun hb10=>?_
 .
  refine wk 6 ?_;refine ax 54 (CW Tryz.func104 (UM _ _ _ hb)) ?_;refine wk 4 ?_;exact K2
 refine wk 7 ?_;refine asp 55 (fun hb11=>?_) fun hb11=>?_
 .
  refine wk 8 ?_;refine ax 61 (CW Tryz.func105 (Qa _ _ _ hb)) ?_;refine wk 4 ?_;exact K2
 refine wk 5 ?_;refine asp 55 (fun hb12=>?_) fun hb12=>?_
 .
  refine wk 6 ?_;refine ax 61 (CW Tryz.func105 (Qa _ _ _ hb)) ?_;refine wk 4 ?_;exact K2
 refine wk 8 ?_;exact K2
theorem cz(t:Tac)(K:CC)(hK:Ma K):ACall Tryz.prog 76 [.agg t.cells,.map 0] (hput hNew 0 (.map (kvs .i64 (nm K)))) (fun r h'=>r=.tup [.int .u32 (CT t K).1,.bool (CT t K).2]/\HSub (hput hNone 0 (.map (kvs .i64 (nm K)))) h'):=by
 refine ACall.of_body (n:=60) Ai Tryz.func76 rfl rfl ?_;refine HG ?_;refine ax 2 (D4 8 1) ?_;refine wk 15 ?_;refine asp 16 (fun hb1=>?_) fun hb1=>?_
 .
  refine wk 6 ?_;refine aq 22 (MF Ai rfl rfl rfl rfl rfl rfl rfl rfl AF) ?_;refine wk 14 ?_;exact dP
 refine wk 6 ?_;refine asp 27 (fun hb2=>?_) fun hb2=>?_
 .
  refine wk 6 ?_;refine aq 33 (MF Ai rfl rfl rfl rfl rfl rfl rfl rfl AF) ?_;refine wk 11 ?_;refine aq 40 (MF Ai rfl rfl rfl rfl rfl rfl rfl rfl AF) ?_;refine wk 12 ?_;refine CM 45 (fun hb3=>?_) fun hb3=>?_
  .
   refine AOps.k 46 rfl rfl rfl ?_;refine AOps.k 47 rfl rfl rfl ?_;refine wk 9 ?_;exact dP
  refine wk 4 ?_;refine asp 48 (fun hb4=>?_) fun hb4=>?_
  .
   refine wk 7 ?_;exact dP
  refine wk 8 ?_;refine ax 54 (CW Tryz.func96 (jy _ _ _ (Tp hK _).1)) ?_;refine wk 15 ?_;exact dP
 refine wk 8 ?_;exact dP
theorem cC(l:List Tac)(hl:H6 l)(hn:l.length<=100000):APure Tryz.prog 56 [EB l] (fun r=>r=EB (Dk [] l)):=by
 refine APure.of_body (n:=51) Ai Tryz.func56 rfl rfl ?_;refine wk 6 ?_;refine ax 10 (J1 .i64 0 rfl rfl) ?_;refine wk 6 ?_;refine ax 13 (AJ Ai (n:=l.length) (m:=l.length) 1 true rfl rfl rfl z145q z145q rfl rfl rfl rfl rfl (q68 _) rfl (qZ0 _) (by show 64*l.length<=_;omega) Be) ?_;refine wk 10 ?_;refine AK (γ:=Nat) 2 (fun k=>⟨51,(Aa (Aa (Aa (Aa (Aa AZ 3 (.map 0)) 4 (.ref 1 l.length 0 l.length)) 14 (EB l)) 15 (.int .i64 (l.length:Int))) 16 (.int .i64 (k:Int))),(hput (hput (Bc 2) 0 (.map (kvs .i64 (nm (fknow l k))))) 1 (.row true 8 (((Dk [] l).take (k)).map Tac.cells++List.replicate (l.length-(k)) [.int .i64 0,.int .i64 0,.int .i64 0,.int .i64 0,.int .i64 0,.int .i64 0,.int .i64 0,.int .u32 0])))⟩) (fun k=>k<=l.length) (fun k=>l.length-k) 0 (Sub.mk' DB (by repeat(first|exact HSub.none _|exact AQ _|exact AM Aj|refine HSub.put ?_ (by first|rfl|(simp;rfl))|refine AP ?_ Aj))) (qZ1 _) (fun _=>Ab (Ab (fun b hb=>Ay hb) rfl) rfl) ?_
 intro k hk;refine wk 5 ?_;refine asp 17 (fun hb1=>?_) fun hb1=>?_
 .
  refine act ?_;have hkl:k<l.length:=by simpa using hb1
  obtain⟨x,hx⟩:=Af hkl;refine wk 6 ?_;refine aq 19 (Ak Ai rfl rfl rfl rfl rfl rfl (q46 _) (Aw Bm) rfl) ?_;refine wk 1 ?_;refine ax 6 (Eg Ai 2) ?_;refine wk 8 ?_;refine ax 24 (GU (cz x (fknow l k) (Z3 hl k)) [0] [] rfl Tryz.func76 AF rfl rfl rfl ⟨⟨_,rfl,rfl⟩,trivial⟩ rfl (Ac rfl (AE _)) ⟨⟨_,rfl,rfl,rfl⟩,trivial⟩ rfl) ?_;refine wk 6 ?_;refine AGo.join (γ:=Tac) (fun u=>⟨51,(Aa (Aa (Aa (Aa (Aa (Aa (Aa AZ 3 (.map 0)) 4 (.ref 1 l.length 0 l.length)) 14 (EB l)) 15 (.int .i64 (l.length:Int))) 16 (.int .i64 (k:Int))) 5 (.int .i64 (k:Int))) 6 (.ptr 2 1 0 0)),(hput (hput (hput (Bc 3) 0 (.map (kvs .i64 (nm (fknow l k))))) 1 (.row true 8 (((Dk [] l).take (k)).map Tac.cells++List.replicate (l.length-(k)) [.int .i64 0,.int .i64 0,.int .i64 0,.int .i64 0,.int .i64 0,.int .i64 0,.int .i64 0,.int .u32 0]))) 2 (.row false 8 [u.cells]))⟩) (fun u=>u=CG (fknow l k) x) ?_ ?_
  .
   refine wk 4 ?_;refine asp 27 (fun hb2=>?_) fun hb2=>?_
   .
    refine wk 8 ?_;exact⟨(Jn x.d (CT x (fknow l k)).1),Sub.mk' B5 SM,(by simp[CG, *])⟩
   refine wk 2 ?_;exact⟨x,Sub.mk' B5 SM,(by simp[CG, *])⟩
  intro u hu;refine wk 5 ?_;refine aq 35 (Ae Ai rfl rfl rfl rfl rfl rfl rfl (AG (BX l []) (qX0 hkl)) rfl (q46 _) z144q) ?_;refine AOps.w rfl rfl (o_store Ai rfl rfl rfl rfl rfl rfl (AG (BX l []) (qX0 hkl)) (fill_get (BX l []) hkl) rfl Aj rfl E4) ?_;refine wk 4 ?_;refine ax 37 (CW Tryz.func77 (L9 _)) ?_;refine wk 8 ?_;refine asp 39 (fun hb3=>?_) fun hb3=>?_
  .
   refine wk 3 ?_;exact pk
  refine wk 8 ?_;refine asp 42 (fun hb4=>?_) fun hb4=>?_
  .
   refine wk 6 ?_;refine AOps.w rfl rfl (Ts Ai rfl rfl rfl rfl rfl rfl rfl rfl rfl rfl) ?_;refine wk 2 ?_;exact pk
  refine wk 4 ?_;refine AOps.w rfl rfl (o_deleteW Ai rfl rfl rfl rfl rfl rfl rfl rfl rfl) ?_;refine wk 2 ?_;exact pk
 refine acf ?_;have hge:l.length<=k:=by simpa using hb1
 refine wk 6 ?_;refine AGo.ghost (.freeze 2 1 rfl rfl (AG (BX l []) hk)) ?_;refine DY ⟨[_],⟨rfl,trivial⟩,?_,rfl⟩;show AV.lst false _=AV.lst false _;rw[CU (BX l []) hge]
theorem cE(f:BFunc)(hf:f.mild):APure Tryz.prog 41 [.agg f.cells] (fun r=>r=.tup [.agg f.fold.cells,.agg f.all.cells]):=by
 refine APure.of_body (n:=59) Ai Tryz.func41 rfl rfl ?_;refine HG ?_;refine ax 1 (D4 2 0) ?_;refine ax 2 (Eg Ai 1) ?_;refine ax 3 (Eg Ai 2) ?_;refine wk 8 ?_;refine dx 15 (AJ Ai (n:=f.blocks.length) (m:=f.blocks.length) 3 true rfl rfl rfl z145q z145q rfl rfl rfl rfl rfl (q68 _) rfl (qZ0 _) (by show 56*f.blocks.length<=_;have:=hf.2.2.1;omega) eD) ?_;refine wk 1 ?_;refine dx 4 (Eg Ai 4) ?_;refine wk 7 ?_;refine ax 20 (AJ Ai (n:=f.blocks.length) (m:=f.blocks.length) 5 true rfl rfl rfl z145q z145q rfl rfl rfl rfl rfl (q68 _) rfl (qZ0 _) (by show 24*f.blocks.length<=_;have:=hf.2.2.1;omega) eD) ?_;refine wk 1 ?_;refine ax 5 (Eg Ai 6) ?_;refine wk 11 ?_;refine AK (γ:=Nat) 7 (fun k=>⟨59,(Aa (Aa (Aa (Aa (Aa (Aa (Aa (Aa AZ 1 (.ptr 0 1 0 0)) 2 (.ptr 1 1 0 0)) 3 (.ptr 2 1 0 0)) 4 (.ptr 4 1 0 0)) 5 (.ptr 6 1 0 0)) 23 (BZ f.blocks)) 24 (.int .i64 (f.blocks.length:Int))) 25 (.int .i64 (k:Int))),(hput (hput (hput (hput (hput (hput (hput (Bc 7) 0 (.row false 2 [f.cells])) 1 (.row false 2 [[.int .i64 0,.nil]])) 2 (.row false 1 [[.nil]])) 4 (.row false 2 [[.int .i64 f.regs,.ref 3 f.blocks.length 0 f.blocks.length]])) 6 (.row false 1 [[.ref 5 f.blocks.length 0 f.blocks.length]])) 3 (.row true 5 ((((f.blocks.map Block.fold).take (k)).map Block.cells)++List.replicate (f.blocks.length-(k)) [.nil,.int .i64 0,.int .i64 0,.int .i64 0,.int .i64 0]))) 5 (.row true 1 ((((List.replicate f.blocks.length (List.replicate f.regs.toNat true)).take (k)).map Dj)++List.replicate (f.blocks.length-(k)) [.nil])))⟩) (fun k=>k<=f.blocks.length) (fun k=>f.blocks.length-k) 0 (Sub.mk' DB SM) (qZ1 _) (fun _=>Ab (Ab (Ab (Ab (Ab (Ab (Ab (fun b hb=>Ay hb) rfl) rfl) rfl) rfl) rfl) rfl) rfl) ?_
 intro k hk;refine wk 5 ?_;refine asp 26 (fun hb1=>?_) fun hb1=>?_
 .
  refine act ?_;have hkl:k<f.blocks.length:=by simpa using hb1
  obtain⟨x,hx⟩:=Af hkl;refine wk 6 ?_;refine aq 28 (Ak Ai rfl rfl rfl rfl rfl rfl (q46 _) (Aw Bm) rfl) ?_;refine wk 1 ?_;refine ax 7 (Eg Ai 7) ?_;refine wk 7 ?_;refine ax 32 (CW Tryz.func56 (cC _ (hf.2.2.2 x (q33 hx)).2 (hf.2.2.2 x (q33 hx)).1)) ?_;refine wk 9 ?_;refine aq 38 (Ae Ai rfl rfl rfl rfl rfl rfl rfl (AG (by simp:(f.blocks.map Block.fold).length=f.blocks.length) (qX0 hkl)) rfl (q46 _) z144q) ?_;refine AOps.w rfl rfl (o_store Ai rfl rfl rfl rfl rfl rfl (AG (by simp:(f.blocks.map Block.fold).length=f.blocks.length) (qX0 hkl)) (fill_get (by simp:(f.blocks.map Block.fold).length=f.blocks.length) hkl) rfl Aj rfl E4) ?_;refine wk 5 ?_;refine ax 41 (AJ Ai (n:=f.regs.toNat) (m:=f.regs.toNat) 8 true rfl rfl rfl (by have:=hf.1;omega) (by have:=hf.1;omega) rfl rfl rfl rfl rfl (q68 _) rfl (qZ0 _) (by show 1*f.regs.toNat<=_;have:=hf.2.1;omega) (by simp only[maxLen];have:=hf.2.1;omega)) ?_
  refine wk 10 ?_;refine AK (γ:=Nat) 9 (fun j=>⟨59,(Aa (Aa (Aa (Aa (Aa (Aa (Aa (Aa (Aa (Aa (Aa (Aa AZ 1 (.ptr 0 1 0 0)) 2 (.ptr 1 1 0 0)) 3 (.ptr 2 1 0 0)) 4 (.ptr 4 1 0 0)) 5 (.ptr 6 1 0 0)) 23 (BZ f.blocks)) 24 (.int .i64 (f.blocks.length:Int))) 25 (.int .i64 (k:Int))) 6 (.int .i64 (k:Int))) 8 (.ref 8 f.regs.toNat 0 f.regs.toNat)) 43 (.int .i64 (f.regs.toNat:Int))) 44 (.int .i64 (j:Int))),(hput (hput (hput (hput (hput (hput (hput (hput (Bc 9) 0 (.row false 2 [f.cells])) 1 (.row false 2 [[.int .i64 0,.nil]])) 2 (.row false 1 [[.nil]])) 4 (.row false 2 [[.int .i64 f.regs,.ref 3 f.blocks.length 0 f.blocks.length]])) 6 (.row false 1 [[.ref 5 f.blocks.length 0 f.blocks.length]])) 3 (.row true 5 (((f.blocks.map Block.fold).take (k+1)).map Block.cells++List.replicate (f.blocks.length-(k+1)) [.nil,.int .i64 0,.int .i64 0,.int .i64 0,.int .i64 0]))) 5 (.row true 1 ((((List.replicate f.blocks.length (List.replicate f.regs.toNat true)).take (k)).map Dj)++List.replicate (f.blocks.length-(k)) [.nil]))) 8 (.row true 1 ((((List.replicate f.regs.toNat true).take (j)).map Bg)++List.replicate (f.regs.toNat-(j)) [.bool false])))⟩) (fun j=>j<=f.regs.toNat) (fun j=>f.regs.toNat-j) 0 (Sub.mk' B5 (by repeat(first|exact HSub.none _|exact AQ _|exact AM Aj|refine HSub.put ?_ (by first|rfl|exact congrArg (fun es=>some (AObj.row true 5 es)) (B4 (f:=Block.cells) (x:=x.fold) (by simp:(f.blocks.map Block.fold).length=f.blocks.length) HI))|refine AP ?_ Aj))) (qZ1 _) (fun _=>Ab (Ab (Ab (Ab (Ab (Ab (Ab (Ab (fun b hb=>Ay hb) rfl) rfl) rfl) rfl) rfl) rfl) rfl) rfl) ?_
  intro j hj;refine wk 5 ?_;refine asp 45 (fun hb2=>?_) fun hb2=>?_
  .
   refine act ?_;have hjl:j<f.regs.toNat:=by have h:=hb2;simp at h;omega
   refine wk 11 ?_;refine aq 49 (Ae Ai rfl rfl rfl rfl rfl rfl rfl (AG (by simp:(List.replicate f.regs.toNat true).length=f.regs.toNat) (qX0 hjl)) rfl (q46 _) z144q) ?_;refine AOps.w rfl rfl (o_store Ai rfl rfl rfl rfl rfl rfl (AG (by simp:(List.replicate f.regs.toNat true).length=f.regs.toNat) (qX0 hjl)) (fill_get (by simp:(List.replicate f.regs.toNat true).length=f.regs.toNat) hjl) rfl Aj rfl E4) ?_;refine wk 2 ?_;refine aq 50 (A2 rfl rfl hjl (by simp only[maxLen];have:=hf.2.1;omega)) ?_;refine wk 2 ?_;exact q8
  refine acf ?_;have hge2:f.regs.toNat<=j:=by have h:=hb2;simp at h;omega
  refine wk 1 ?_;refine AGo.ghost (.freeze 8 8 rfl rfl (AG (by simp:(List.replicate f.regs.toNat true).length=f.regs.toNat) hj)) ?_;refine wk 5 ?_;refine aq 55 (Ae Ai rfl rfl rfl rfl rfl rfl rfl (AG (by simp:(List.replicate f.blocks.length (List.replicate f.regs.toNat true)).length=f.blocks.length) (qX0 hkl)) rfl (q46 _) z144q) ?_;refine AOps.w rfl rfl (o_store Ai rfl rfl rfl rfl rfl rfl (AG (by simp:(List.replicate f.blocks.length (List.replicate f.regs.toNat true)).length=f.blocks.length) (qX0 hkl)) (fill_get (by simp:(List.replicate f.blocks.length (List.replicate f.regs.toNat true)).length=f.blocks.length) hkl) rfl Aj rfl E4) ?_;refine wk 2 ?_;refine aq 56 (A2 rfl rfl hkl eD) ?_;refine wk 2 ?_;exact⟨k+1,Drop.mk' SK (by repeat(first|exact HDrop.none _ _|exact HDrop.tail _ _|refine HDrop.put ?_ (by first|rfl|exact congrArg (fun es=>some (AObj.row true 5 es)) (B4 (f:=Block.cells) (x:=x.fold) (by simp:(f.blocks.map Block.fold).length=f.blocks.length) HI)|exact congrArg (fun es=>some (AObj.row true 1 es)) (by rw[<-B4 (f:=Dj) (x:=List.replicate f.regs.toNat true) (by simp:(List.replicate f.blocks.length (List.replicate f.regs.toNat true)).length=f.blocks.length) (by simp[hkl])];exact congrArg (fun b=>List.set _ _ [AV.lst false b]) (CU (f:=Bg) (by simp:(List.replicate f.regs.toNat true).length=f.regs.toNat) hge2))) rfl rfl)),hkl,by omega⟩
 refine acf ?_;have hge:f.blocks.length<=k:=by simpa using hb1
 refine wk 2 ?_;refine AGo.ghost (.freezeCell 4 0 1 3 rfl rfl rfl rfl (AG (by simp:(f.blocks.map Block.fold).length=f.blocks.length) hk) Aj) ?_;refine AGo.ghost (.freezeCell 6 0 0 5 rfl rfl rfl rfl (AG (by simp:(List.replicate f.blocks.length (List.replicate f.regs.toNat true)).length=f.blocks.length) hk) Aj) ?_;refine wk 7 ?_;refine⟨[_,_],⟨⟨_,_,_,_,rfl,rfl,.ptr _ _ _ _ _ _ _ _ rfl rfl rfl,rfl⟩,⟨_,_,_,_,rfl,rfl,.ptr _ _ _ _ _ _ _ _ rfl rfl rfl,rfl⟩,trivial⟩,?_,rfl⟩;have e1:=CU (f:=Block.cells) (z:=[.nil,.int .i64 0,.int .i64 0,.int .i64 0,.int .i64 0]) (by simp:(f.blocks.map Block.fold).length=f.blocks.length) hge;exact n0
theorem gJ(b:Blocks)(ks:List Int)(G:BFunc->Int->OPass)(I:BFunc->Prop)(hL:b.Lim)(hks:ks.length<=20)(hv:∀k∈ks,kind35 k=true)(hI0:∀f∈b.funcs,I f)(hS:∀f,I f->∀k∈ks,I (G f k).f/\APure Tryz.prog 21 [.agg f.cells,.int .i64 k] (fun r=>r=.tup [.agg (G f k).f.cells,.agg (G f k).cells,.int .i64 0])):APure Tryz.prog 15 [.agg b.cells,AS ks] (fun r=>r=.tup [.agg (⟨b.words,b.funcs.map (Mh G ks)⟩:Blocks).cells,io (b.funcs.map (Ge G ks)),.int .i64 0]):=by
 refine APure.of_body (n:=90) Ai Tryz.func15 rfl rfl ?_;refine HG ?_;refine ax 2 (D4 2 0) ?_;refine ax 4 (Eg Ai 1) ?_;refine wk 10 ?_;refine asp 19 (fun hb1=>?_) fun hb1=>?_
 .
  refine wk 9 ?_;exfalso;simp_all;omega
 refine wk 10 ?_;refine AK (γ:=Nat) 2 (fun k=>⟨90,(Aa (Aa (Aa (Aa (Aa (Aa (Aa (Aa AZ 1 (AS ks)) 2 (.ptr 0 1 0 0)) 4 (.ptr 1 1 0 0)) 5 .nil) 6 (.int .i64 0)) 21 (AS ks)) 22 (.int .i64 (ks.length:Int))) 23 (.int .i64 (k:Int))),(hput (hput (Bc 2) 0 (.row false 2 [b.cells])) 1 (.row false 2 [[.int .i64 0,.nil]]))⟩) (fun k=>True) (fun k=>ks.length-k) 0 (Sub.mk' DB CX) trivial (fun _=>Ab (Ab (fun b hb=>Ay hb) rfl) rfl) ?_;intro k _;refine wk 5 ?_;refine asp 24 (fun hb2=>?_) fun hb2=>?_
 .
  refine act ?_;have hkl:k<ks.length:=by have h:=hb2;simp at h;omega
  obtain⟨q,hq⟩:=Af hkl;refine wk 5 ?_;refine aq 25 (Hc Ai (Aw hq)) ?_;refine wk 6 ?_;refine ax 29 (CW Tryz.func31 (TO _)) ?_;refine wk 11 ?_;refine asp 33 (fun hb3=>?_) fun hb3=>?_
  .
   refine wk 9 ?_;exfalso;have h:=hv q (q33 hq);simp_all
  refine wk 3 ?_;refine aq 35 (A2 rfl rfl hkl Be) ?_;refine wk 2 ?_;exact⟨k+1,Drop.mk' Gt IX,trivial,by omega⟩
 refine acf ?_
 skip
 refine wk 8 ?_;refine dx 41 (AJ Ai (n:=b.funcs.length) (m:=b.funcs.length) 2 true rfl rfl rfl z145q z145q rfl rfl rfl rfl rfl (q68 _) rfl (qZ0 _) (by show 32*b.funcs.length<=_;have:=hL.n;omega) eA) ?_;refine wk 1 ?_;refine dx 11 (Eg Ai 3) ?_;refine wk 7 ?_;refine ax 46 (AJ Ai (n:=b.funcs.length) (m:=b.funcs.length) 4 false rfl rfl rfl z145q z145q rfl rfl rfl rfl rfl (q68 _) rfl (qZ0 _) (by show 24*b.funcs.length<=_;have:=hL.n;omega) eA) ?_;refine wk 11 ?_;refine AK (γ:=Nat) 5 (fun k=>⟨90,(Aa (Aa (Aa (Aa (Aa (Aa (Aa (Aa AZ 1 (AS ks)) 2 (.ptr 0 1 0 0)) 4 (.ptr 1 1 0 0)) 11 (.ptr 3 1 0 0)) 12 (.ref 4 b.funcs.length 0 b.funcs.length)) 48 (Og b.funcs)) 49 (.int .i64 (b.funcs.length:Int))) 50 (.int .i64 (k:Int))),(hput (hput (hput (hput (hput (Bc 5) 0 (.row false 2 [b.cells])) 1 (.row false 2 [[.int .i64 0,.nil]])) 2 (.row true 2 ((((b.funcs.map (Mh G ks)).take (k)).map BFunc.cells)++List.replicate (b.funcs.length-(k)) [AV.int .i64 0,AV.nil]))) 3 (.row false 2 [[.int .i64 b.words,.ref 2 b.funcs.length 0 b.funcs.length]])) 4 (.row false 1 ((((b.funcs.map (Ge G ks)).take (k)).map (fun x=>[Ds x]))++List.replicate (b.funcs.length-(k)) [AV.nil])))⟩) (fun k=>k<=b.funcs.length) (fun k=>b.funcs.length-k) 0 (Sub.mk' DB CX) (qZ1 _) (fun _=>Ab (Ab (Ab (Ab (Ab (fun b hb=>Ay hb) rfl) rfl) rfl) rfl) rfl) ?_
 intro k hk;refine wk 5 ?_;refine asp 51 (fun hb4=>?_) fun hb4=>?_
 .
  refine act ?_;have hkl:k<b.funcs.length:=by have h:=hb4;simp at h;omega
  obtain⟨f,hf⟩:=Af hkl;have hfI:=hI0 f (q33 hf);refine wk 6 ?_;refine aq 53 (Hc Ai (Aw hf)) ?_;refine wk 1 ?_;refine ax 14 (Eg Ai 5) ?_;refine wk 9 ?_;refine ax 59 (AJ Ai (n:=ks.length) (m:=ks.length) 6 true rfl rfl rfl z145q z145q rfl rfl rfl rfl rfl (q68 _) rfl (qZ0 _) (by show 88*ks.length<=_;omega) Be) ?_;refine aq 60 (Ae Ai rfl rfl rfl rfl rfl rfl rfl (AG (by simp:(b.funcs.map (Ge G ks)).length=b.funcs.length) (qX0 hkl)) rfl (q46 _) z144q) ?_;refine AOps.w rfl rfl (o_store Ai rfl rfl rfl rfl rfl rfl (AG (by simp:(b.funcs.map (Ge G ks)).length=b.funcs.length) (qX0 hkl)) (fill_get (by simp:(b.funcs.map (Ge G ks)).length=b.funcs.length) hkl) rfl Aj rfl E4) ?_;refine wk 9 ?_;refine AK (γ:=Nat) 7 (fun j=>⟨90,(Aa (Aa (Aa (Aa (Aa (Aa (Aa (Aa (Aa (Aa (Aa (Aa (Aa AZ 1 (AS ks)) 2 (.ptr 0 1 0 0)) 4 (.ptr 1 1 0 0)) 11 (.ptr 3 1 0 0)) 12 (.ref 4 b.funcs.length 0 b.funcs.length)) 48 (Og b.funcs)) 49 (.int .i64 (b.funcs.length:Int))) 50 (.int .i64 (k:Int))) 13 (.int .i64 (k:Int))) 14 (.ptr 5 1 0 0)) 61 (AS ks)) 62 (.int .i64 (ks.length:Int))) 63 (.int .i64 (j:Int))),(hput (hput (hput (hput (hput (hput (hput (Bc 7) 0 (.row false 2 [b.cells])) 1 (.row false 2 [[.int .i64 0,.nil]])) 2 (.row true 2 ((((b.funcs.map (Mh G ks)).take (k)).map BFunc.cells)++List.replicate (b.funcs.length-(k)) [AV.int .i64 0,AV.nil]))) 3 (.row false 2 [[.int .i64 b.words,.ref 2 b.funcs.length 0 b.funcs.length]])) 4 (.row false 1 (((((b.funcs.map (Ge G ks)).take (k)).map (fun x=>[Ds x]))++List.replicate (b.funcs.length-(k)) [AV.nil]).set (0+((k:Nat):Int).toNat) [AV.ref 6 ks.length 0 ks.length]))) 5 (.row false 2 [(Mh G (ks.take j) f).cells])) 6 (.row true 5 ((((Ge G ks f).take j).map OPass.cells)++List.replicate (ks.length-j) [AV.int .i64 0,AV.nil,AV.nil,AV.int .i64 0,AV.nil])))⟩) (fun j=>j<=ks.length/\I (Mh G (ks.take j) f)) (fun j=>ks.length-j) 0 (Sub.mk' DB CX) ⟨qZ1 _,hfI⟩ (fun _=>Ab (Ab (Ab (Ab (Ab (Ab (Ab (fun b hb=>Ay hb) rfl) rfl) rfl) rfl) rfl) rfl) rfl) ?_
  intro j hJ;refine wk 5 ?_;refine asp 64 (fun hb5=>?_) fun hb5=>?_
  .
   refine act ?_;have hjl:j<ks.length:=by have h:=hb5;simp at h;omega
   obtain⟨q,hq⟩:=Af hjl;have hqs:=hS _ hJ.2 q (q33 hq);refine wk 6 ?_;refine aq 66 (Hc Ai (Aw hq)) ?_;refine wk 7 ?_;refine dq 71 (Ae Ai rfl rfl rfl rfl rfl rfl rfl (LW (by simp:(b.funcs.map (Ge G ks)).length=b.funcs.length) (qX0 hkl)) rfl (q46 _) z144q) ?_;refine dq 72 (Ar Ai rfl rfl rfl (.ptr _ _ _ _ _ _ _ _ rfl (LW (by simp:(b.funcs.map (Ge G ks)).length=b.funcs.length) (qX0 hkl)) (LX (by simp:(b.funcs.map (Ge G ks)).length=b.funcs.length) hkl)) rfl) ?_;refine wk 3 ?_;refine dx 76 (CW Tryz.func21 ((hS _ hJ.2 q (q33 hq)).2)) ?_;refine wk 5 ?_;refine dq 80 (Ae Ai rfl rfl rfl rfl rfl rfl rfl (AG (GR G ks f) (qX0 hjl)) rfl (q46 _) z144q) ?_;refine DOps.w rfl rfl (o_store Ai rfl rfl rfl rfl rfl rfl (AG (GR G ks f) (qX0 hjl)) (fill_get (GR G ks f) hjl) rfl Aj rfl E4) ?_;refine wk 2 ?_;refine aq 81 (A2 rfl rfl hjl Be) ?_;refine wk 2 ?_;exact⟨j+1,Drop.mk' Gt (by repeat(first|exact HDrop.none _ _|exact HDrop.tail _ _|refine HDrop.put ?_ (by first|rfl|exact congrArg (fun x=>some (AObj.row false 2 [BFunc.cells x])) (LZ hq).symm|exact congrArg (fun es=>some (AObj.row true 5 es)) (B4 (f:=OPass.cells) (x:=G (Mh G (ks.take j) f) q) (GR G ks f) (Ve hq))) rfl (by first|rfl|exact KK|exact Nt rfl))),⟨hjl,by rw[LZ hq];exact hqs.1⟩,by omega⟩
  refine acf ?_;have hge2:ks.length<=j:=by have h:=hb5;simp at h;omega
  refine wk 1 ?_;refine AGo.ghost (.freezeCell 4 (0+((k:Nat):Int).toNat) 0 6 rfl (LX (by simp:(b.funcs.map (Ge G ks)).length=b.funcs.length) hkl) rfl rfl (AG (GR G ks f) hJ.1) Aj) ?_;have hrow:(((((b.funcs.map (Ge G ks)).take (k)).map (fun x=>[Ds x]))++List.replicate (b.funcs.length-(k)) [AV.nil]).set (0+((k:Nat):Int).toNat) [AV.ref 6 ks.length 0 ks.length]).set (0+((k:Nat):Int).toNat) ([AV.ref 6 ks.length 0 ks.length].set 0 (.lst false ((((((Ge G ks f).take j).map OPass.cells)++List.replicate (ks.length-j) [AV.int .i64 0,AV.nil,AV.nil,AV.int .i64 0,AV.nil]).drop 0).take ks.length)))=((((b.funcs.map (Ge G ks)).take (k+1)).map (fun x=>[Ds x]))++List.replicate (b.funcs.length-(k+1)) [AV.nil]):=by
   rw[Xj,CU (GR G ks f) hge2];exact B4 (f:=fun x=>[Ds x]) (x:=Ge G ks f) (by simp:(b.funcs.map (Ge G ks)).length=b.funcs.length) (by rw[q54,hf];rfl)
  rw[hrow,q20 hge2];refine wk 5 ?_;refine aq 86 (Ae Ai rfl rfl rfl rfl rfl rfl rfl (AG (by simp:(b.funcs.map (Mh G ks)).length=b.funcs.length) (qX0 hkl)) rfl (q46 _) z144q) ?_;refine AOps.w rfl rfl (o_store Ai rfl rfl rfl rfl rfl rfl (AG (by simp:(b.funcs.map (Mh G ks)).length=b.funcs.length) (qX0 hkl)) (fill_get (by simp:(b.funcs.map (Mh G ks)).length=b.funcs.length) hkl) rfl Aj rfl E4) ?_;refine wk 2 ?_;refine aq 87 (A2 rfl rfl hkl eA) ?_;refine wk 2 ?_;exact⟨k+1,Drop.mk' Gt (by repeat(first|exact HDrop.none _ _|exact HDrop.tail _ _|refine HDrop.put ?_ (by first|rfl|exact congrArg (fun es=>some (AObj.row true 2 es)) (B4 (f:=BFunc.cells) (x:=Mh G ks f) (by simp:(b.funcs.map (Mh G ks)).length=b.funcs.length) (by rw[q54,hf];rfl))|exact congrArg (fun es=>some (AObj.row false 1 es)) hrow) rfl (by first|rfl|exact KK|exact Nt rfl))),hkl,by omega⟩
 refine acf ?_;have hge:b.funcs.length<=k:=by have h:=hb4;simp at h;omega
 refine wk 2 ?_;refine AGo.ghost (.freezeCell 3 0 1 2 rfl rfl rfl rfl (AG (by simp:(b.funcs.map (Mh G ks)).length=b.funcs.length) hk) Aj) ?_;rw[CU (by simp:(b.funcs.map (Mh G ks)).length=b.funcs.length) hge];have hr4:((((b.funcs.map (Ge G ks)).take (k)).map (fun x=>[Ds x]))++List.replicate (b.funcs.length-(k)) [AV.nil])=(b.funcs.map (Ge G ks)).map (fun x=>[Ds x]):=by have h:=CU (f:=fun x=>[Ds x]) (z:=[AV.nil]) (by simp:(b.funcs.map (Ge G ks)).length=b.funcs.length) hge;rwa[q95,q20 (by have:=AG (f:=fun x=>[Ds x]) (z:=[AV.nil]) (by simp:(b.funcs.map (Ge G ks)).length=b.funcs.length) hk;omega)]at h
 rw[hr4];refine AGo.ghost (.plain 4 rfl (Tq _)) ?_;refine AGo.ghost (.freezeA 12 4 rfl rfl z145q) ?_;refine wk 8 ?_;refine⟨[_,_,_],⟨⟨_,_,_,_,rfl,rfl,.ptr _ _ _ _ _ _ _ _ rfl rfl rfl,rfl⟩,rfl,rfl,trivial⟩,?_,rfl⟩;rfl
set_option maxRecDepth 100000
variable {n w : Int} {f : BFunc}
theorem PS35.passes(h:PS35 n w f):T6 f (CN f):=by
 obtain⟨h1,h2,h3,h4⟩:=Cs h.one;have hl:=h.len;obtain⟨R,hR⟩:∃R:Nat,f.regs=(R:Int):=⟨f.regs.toNat,by omega⟩
 have hR':f.regs.toNat=R:=by omega
 have hs:=one_sane h.one;have hr:=h.r;refine⟨cE f h.mild,forwardOf_ok f ⟨h1,h2,by omega,fun x hx=>by have:=hl.2 x hx;omega,fun x hx t ht=>?_,fun x hx e=>?_⟩,cY f hs (q43.2 h3) z144q z144q (fun x hx=>by have:=hl.2 x hx;omega),aX f h.tame,rfl,rfl,rfl,rfl⟩
 . rw[hR'];have:=(h4 x hx).2 t ht;rw[hR]at this;exact fits_tacR this
 . have:=hs.fin x hx e;omega
theorem qk(b:Blocks)(hb:All35 b)(ks:List Int)(hks:ks.length<=20)(hv:∀k∈ks,kind35 k=true):APure Tryz.prog 15 [.agg b.cells,AS ks] (fun r=>r=.tup [.agg (XQ b ks).cells,io (b.funcs.map (Ge CN ks)),.int .i64 0]):=
 gJ b ks CN (fun f=>∃n w,PS35 n w f) hb.lim hks hv (fun f hf=>by obtain⟨i,hi⟩:=q35 hf;exact⟨_,_,hb.e i f hi⟩) (fun f ⟨n,w,hf⟩ k hk=>⟨⟨n,w,hf.step k⟩,Pg f (CN f) hf.passes k (hv k hk)⟩)
theorem Ph(k:Int):APure Tryz.prog 22 [.int .i64 k] (fun r=>r=.bool (kind35 k)):=by
 refine APure.of_body (n:=9) Ai Tryz.func22 rfl rfl ?_;refine wk 40 ?_;refine CM 5 (fun hb1=>?_) fun hb1=>?_
 . refine wk 40 ?_;refine⟨[_],⟨rfl,trivial⟩,?_,rfl⟩;refine bc ?_;simp at hb1;simp[kind35,hb1]
 . refine wk 40 ?_;refine⟨[_],⟨rfl,trivial⟩,?_,rfl⟩;refine bc ?_;simp at hb1;unfold kind35;exact(q89 z144q).symm
theorem XR(ks:List Int)(hl:ks.length<=1048576):APure Tryz.prog 16 [AS ks] (fun r=>r=.bool (ks.all kind35&&decide (ks.length<=20))):=by
 refine APure.of_body (n:=19) Ai Tryz.func16 rfl rfl ?_;refine wk 40 ?_;refine AGo.loopI (γ:=Nat) (fun i=>⟨19,Aa (Aa AZ 0 (AS ks)) 3 (.int .i64 (i:Int)),hNone⟩) (fun i=>i<=ks.length/\(ks.take i).all kind35=true) (fun i=>ks.length-i) 0 (Sub.mk' B5 (HSub.none _)) ⟨qZ1 _,rfl⟩ ?_
 rintro i ⟨hi,hF⟩
 refine wk 40 ?_;refine asp 7 (fun hb1=>?_) fun hb1=>?_
 .
  have hil:i<ks.length:=by have:=hb1;simp at this;exact this
  obtain⟨k,hk⟩:=Af hil;refine wk 40 ?_;refine aq 12 (Hc Ai (Aw hk)) ?_;refine wk 1 ?_;refine ax 14 (CW Tryz.func22 (Ph k)) ?_;refine wk 40 ?_;refine asp 15 (fun hb2=>?_) fun hb2=>?_
  . have hno:kind35 k=false:=by simpa using hb2
    refine wk 40 ?_;refine⟨[_],⟨rfl,trivial⟩,?_,rfl⟩;refine bc ?_;rw[show ks.all kind35=false from by rw[q64];intro e;rw[q67.1 e k (q33 hk)]at hno;cases hno];rfl
  . have hyes:kind35 k=true:=by simpa using hb2
    refine wk 40 ?_;exact⟨i+1,Sub.mk' (by repeat(first|exact ESub.new _|refine ESub.put ?_ (by first|rfl|exact congrArg (fun x=>some (AV.int .i64 x)) (JI hil Be)))) (HSub.none _),⟨hil,by rw[AY hk,q92,hF];simp[hyes]⟩,by omega⟩
 have hie:i=ks.length:=by have:=hb1;simp at this;omega
 refine wk 40 ?_;refine⟨[_],⟨rfl,trivial⟩,?_,rfl⟩;refine bc ?_;rw[hie,q71]at hF;rw[hF,q76]
 simp
 omega
theorem Q9(l:List Tm)(d:Int)(x:Tm)(v:Nat):tget (tset l d x) (v:Int)=if d.toNat=v/\v<l.length then x else tget l (v:Int):=by
 grind[tget,tset]
structure Ag(S:Nat->Prop)(row:List Bool)(a b:SS):Prop where
  l:a.regs.length=b.regs.length
  e:a.effs=b.effs
  t:a.time=b.time
  r:∀v,S v->tget a.regs (v:Int)=tget b.regs (v:Int)/\(tget b.regs (v:Int)).inR row
  i:∀x∈b.effs,x.inR row
variable {S S' : Nat -> Prop} {row : List Bool} {a b : SS} {t u : Tac}
theorem Ag.put(h:Ag S row a b)(d:Int){x:Tm}(hx:x.inR row)(hS:∀v,S' v->d=(v:Int)\/S v):Ag S' row (a.put d x) (b.put d x):=by
 refine⟨by simp[SS.put,tset,h.l],h.e,h.t,fun v hv=>?_,h.i⟩;show tget (tset a.regs d x) _=tget (tset b.regs d x) _/\(tget (tset b.regs d x) _).inR row;rw[Q9,Q9,h.l]
 by_cases hd:d.toNat=v/\v<b.regs.length
 . rw[qK0 hd];simp only[qK0 hd];exact⟨trivial,hx⟩
 . simp only[qZ9 hd];rcases hS v hv with e|e
   . subst e;have hl:¬v<b.regs.length:=fun g=>hd ⟨rfl,g⟩
     unfold tget;rw[q55,q26 (by rw[h.l];omega),q26 z144q];exact⟨rfl,trivial⟩
   . exact h.r v e
theorem Ag.eff(h:Ag S row a b){x:SE}(hx:x.inR row)(hS:∀v,S' v->S v):Ag S' row (a.eff x) (b.eff x):=
 ⟨h.l,congrArg (· ++[x]) h.e,h.t,fun v hv=>h.r v (hS v hv),fun y hy=>by
  rcases q78.1 (show y∈b.effs++[x]from hy)with hy|hy
  . exact h.i y hy
  . rw[q47.1 hy];exact hx⟩
theorem Ag.tick(h:Ag S row a b):Ag S row a.tick b.tick:=⟨h.l,h.e,congrArg (· +1) h.t,h.r,h.i⟩
variable {k : Int} {x : Tm}
theorem bb{y:Tm}(hx:x.inR row)(hy:y.inR row):(Ez k x y).inR row:=by
 have hop:(Tm.op k x y).inR row:=⟨hx,hy⟩
 cases x with
 |cst p=>
  cases y with
  |cst q=>
   simp only[Ez]
   cases trisky k (.cst q)with
   |true=>exact hop
   |false=>exact trivial
  |_=>exact hop
 |_=>exact hop
structure Like(t u:Tac):Prop where
  op:u.op=t.op
  d:u.d=t.d
  k:u.k=t.k
  base:u.base=t.base
  size:u.size=t.size
  n:u.n=t.n
theorem Like.rfl(t:Tac):Like t t:=⟨_root_.rfl,_root_.rfl,_root_.rfl,_root_.rfl,_root_.rfl,_root_.rfl⟩
theorem Ag.step(h:Ag S row a b)(hl:Like t u)(ha:(use1 t.op||use2 t.op)=true->tget a.regs t.a=tget b.regs u.a/\(tget b.regs u.a).inR row)(hb:use2 t.op=true->tget a.regs t.b=tget b.regs u.b/\(tget b.regs u.b).inR row)
 (hS:∀v,S' v->t.sets=(v:Int)\/S v):Ag S' row (a.step t) (b.step u):=by
 have hs:setsOp t.op=true->∀v,S' v->t.d=(v:Int)\/S v:=fun e v hv=>by
  grind[Tac.sets,use1,use2,tget,setsOp]
 have hn:setsOp t.op=false->∀v,S' v->S v:=fun e v hv=>by
  grind[Tac.sets,use1,use2,tget,setsOp]
 have key:∀(z:SE),z.inR row->setsOp t.op=true->Ag S' row (a.get t z) (b.get u z):=fun z hz e=>by
  unfold SS.get;rw[hl.d,h.e];exact Ag.put (S:=S) (h.eff hz fun _ g=>g) t.d (x:=.unk _) trivial (hs e)
 unfold SS.step;rw[hl.op]
 cases h1:t.op==1 with
 |true=>simp only[qZ7];rw[hl.d,hl.n];exact h.put _ trivial (hs (by simp at h1;rw[h1];decide))
 |false=>
 cases h2:t.op==2 with
 |true=>
  simp at h2;have:=ha (by rw[h2];decide);simp only[qZ7,qZ3];rw[hl.d,this.1];exact h.put _ this.2 (hs (by rw[h2];decide))
 |false=>
 cases h3:t.op==3 with
 |true=>
  simp at h3;have h4:=ha (by rw[h3];decide);have h5:=hb (by rw[h3];decide);simp only[qZ7,qZ3];unfold SS.bin SS.div;rw[hl.d,hl.k,h4.1,h5.1];have hx:=bb (k:=t.k) h4.2 h5.2
  cases trisky t.k (tget b.regs u.b)with
  |true=>exact Ag.put (S:=S) (Ag.eff h (x:=⟨true,3,t.k,0,0,some (tget b.regs u.a),some (tget b.regs u.b)⟩) ⟨h4.2,h5.2⟩ fun _ g=>g) _ hx (hs (by rw[h3];decide))
  |false=>exact h.put _ hx (hs (by rw[h3];decide))
 |false=>
 cases h4:t.op==4 with
 |true=>simp only[qZ7,qZ3];rw[hl.d,hl.base,h.t];exact h.put _ trivial (hs (by simp at h4;rw[h4];decide))
 |false=>
 cases h5:t.op==5 with
 |true=>
  simp at h5;have:=ha (by rw[h5];decide);simp only[qZ7,qZ3];rw[hl.base,this.1];refine Ag.tick (Ag.eff h ?_ (hn (by rw[h5];decide)));exact⟨this.2,trivial⟩
 |false=>
 cases h6:t.op==6 with
 |true=>
  simp at h6;have:=ha (by rw[h6];decide);simp only[qZ7,qZ3];rw[hl.base,hl.size,this.1];exact key _ ⟨this.2,trivial⟩ (by rw[h6];decide)
 |false=>
 cases h7:t.op==7 with
 |true=>
  simp at h7;have g1:=ha (by rw[h7];decide);have g2:=hb (by rw[h7];decide);simp only[qZ7,qZ3];rw[hl.base,hl.size,g1.1,g2.1];refine Ag.tick (Ag.eff h ?_ (hn (by rw[h7];decide)));exact⟨g1.2,g2.2⟩
 |false=>
 cases h8:t.op==8 with
 |true=>simp at h8;exact key _ ⟨trivial,trivial⟩ (by rw[h8];decide)
 |false=>
 have hno:setsOp t.op=false:=by simp at h1 h2 h3 h4 h5 h6 h7 h8;simp[setsOp,h1,h2,h3,h4,h6,h8]
 cases h9:t.op==9 with
 |true=>
  simp at h9;have:=ha (by rw[h9];decide);simp only[qZ7,qZ3];rw[this.1];exact h.eff ⟨this.2,trivial⟩ (hn hno)
 |false=>simp only[qZ7,qZ3];rw[hl.base];refine Ag.tick (Ag.eff h ?_ (hn hno));exact⟨trivial,trivial⟩
variable {l : List Tm} {d : Int}
theorem Er{z:Int}(hd:0<=d)(hz:0<=z)(h:z≠d):tget (tset l d x) z=tget l z:=by
 grind[tget,tset]
theorem Lg(h:0<=d/\d<l.length):tget (tset l d x) d=x:=by
 grind[tget,tset]
theorem JL(a:SS)(t:Tac):(a.step t).regs=a.regs/\setsOp t.op=false\/setsOp t.op=true/\∃x,(a.step t).regs=tset a.regs t.d x/\(t.op=2->x=tget a.regs t.a):=by
 have hdv:(a.div t).regs=a.regs:=by unfold SS.div;cases trisky t.k (tget a.regs t.b)<;>rfl
 unfold SS.step
 cases h1:t.op==1 with
 |true=>simp at h1;exact .inr ⟨by rw[h1];decide,_,rfl,fun e=>by rw[h1]at e;cases e⟩
 |false=>
 cases h2:t.op==2 with
 |true=>simp at h2;exact .inr ⟨by rw[h2];decide,_,rfl,fun e=>rfl⟩
 |false=>
 have n2:∀{x:Tm},t.op=2->x=tget a.regs t.a:=fun e=>by rw[e]at h2;cases h2
 cases h3:t.op==3 with
 |true=>simp at h3;exact .inr ⟨by rw[h3];decide,Ez t.k (tget a.regs t.a) (tget a.regs t.b),by show tset (a.div t).regs _ _=_;rw[hdv],n2⟩
 |false=>
 cases h4:t.op==4 with
 |true=>simp at h4;exact .inr ⟨by rw[h4];decide,_,rfl,n2⟩
 |false=>
 cases h5:t.op==5 with
 |true=>simp at h5;exact .inl ⟨rfl,by rw[h5];decide⟩
 |false=>
 cases h6:t.op==6 with
 |true=>simp at h6;exact .inr ⟨by rw[h6];decide,_,rfl,n2⟩
 |false=>
 cases h7:t.op==7 with
 |true=>simp at h7;exact .inl ⟨rfl,by rw[h7];decide⟩
 |false=>
 cases h8:t.op==8 with
 |true=>simp at h8;exact .inr ⟨by rw[h8];decide,_,rfl,n2⟩
 |false=>
 have hno:setsOp t.op=false:=by simp at h1 h2 h3 h4 h5 h6 h7 h8;simp[setsOp,h1,h2,h3,h4,h6,h8]
 cases t.op==9 with
 |true=>exact .inl ⟨rfl,hno⟩
 |false=>exact .inl ⟨rfl,hno⟩
def Ty(K:CC)(l:List Tm):Prop:=∀z v,pget z K=some v->0<=z/\tget l z=.cst v
theorem aS{x y:Int}(h:((wapp k x y).2==0)=true):trisky k (.cst y)=false:=by
 unfold trisky
 cases e:k==7||k==8 with
 |false=>rfl
 |true=>
  have hk:wapp k x y=wdivide k x y:=by
   simp at e;unfold wapp;rcases e with e|e<;>subst e<;>rfl
  rw[hk]at h;unfold wdivide at h
  cases ey:y==0 with
  |false=>simpa[Tm.isZero]using ey
  |true=>rw[ey]at h;simp at h
variable {K : CC}
theorem step_fstep(hk:Ty K a.regs)(t:Tac):a.step (CG K t)=a.step t:=by
 cases hv:(CT t K).2 with
 |false=>simp only[CG,hv,qZ3]
 |true=>
  have e:CG K t=Jn t.d (CT t K).1:=by simp only[CG,hv,qZ7]
  rw[e,show a.step (Jn t.d (CT t K).1)=a.put t.d (.cst (CT t K).1)from rfl];unfold CT at hv|-
  cases e2:t.op==2 with
  |true=>
   rw[e2]at hv;simp only[qZ7]at hv|-;obtain⟨v,hv⟩:=Option.isSome_iff_exists.1 hv;have h1:(t.op==1)=false:=by simp at e2;simp[e2]
   unfold SS.step;rw[h1,e2];simp only[qZ7,qZ3];rw[(hk _ _ hv).2,hv];rfl
  |false=>
   cases e3:t.op==3 with
   |false=>rw[e2,e3]at hv;simp at hv
   |true=>
    rw[e2,e3]at hv;simp only[qZ7,qZ3]at hv|-
    cases ea:pget t.a K with
    |none=>rw[ea]at hv;simp at hv
    |some va=>
     cases eb:pget t.b K with
     |none=>rw[eb]at hv;simp at hv
     |some vb=>
      rw[ea,eb]at hv;simp only[Option.isSome_some,qQ4,qZ7,q72]at hv|-;have h1:(t.op==1)=false:=by simp at e3;simp[e3]
      unfold SS.step;rw[h1,e2,e3];simp only[qZ7,qZ3];unfold SS.bin SS.div;have hr:=aS hv;rw[(hk _ _ ea).2,(hk _ _ eb).2,hr];simp only[qZ3,Ez,hr]
theorem Vz(hk:Ty K a.regs)(hu:Fv K)(hd:setsOp u.op=true->0<=u.d/\u.d<a.regs.length):Ty (Gq K u) (a.step u).regs:=by
 unfold Gq
 cases hs:decide (u.sets<0)with
 |true=>
  rcases JL a u with⟨h,_⟩|⟨h,_⟩
  . rw[h];exact hk
  . have:=hd h;unfold Tac.sets at hs;rw[h]at hs;simp at hs;omega
 |false=>
  have hS:setsOp u.op=true:=by
   unfold Tac.sets at hs
   cases e:setsOp u.op with
   |true=>rfl
   |false=>rw[e]at hs;simp at hs
  have hsd:u.sets=u.d:=by unfold Tac.sets;rw[hS];rfl
  obtain⟨d1,d2⟩:=hd hS;rw[hsd]
  cases h1:u.op==1 with
  |true=>
   have hreg:(a.step u).regs=tset a.regs u.d (.cst u.n):=by unfold SS.step;rw[h1];rfl
   rw[hreg];intro z v hz;simp only[qZ7,qZ3]at hz;rw[MI]at hz
   cases e:z==u.d with
   |true=>
    rw[e]at hz;have hzd:z=u.d:=by simpa using e
    subst hzd;simp only[qZ7,q53]at hz;subst hz;exact⟨d1,Lg ⟨d1,d2⟩⟩
   |false=>
    rw[e]at hz;obtain⟨g1,g2⟩:=hk z v hz;exact⟨g1,by rw[Er d1 g1 K6];exact g2⟩
  |false=>
   intro z v hz;simp only[qZ3]at hz;rw[MJ _ _ hu]at hz
   cases e:z==u.d with
   |true=>rw[e]at hz;simp at hz
   |false=>
    rw[e]at hz;obtain⟨g1,g2⟩:=hk z v hz;refine⟨g1,?_⟩;rcases JL a u with⟨h,_⟩|⟨_,w,h,_⟩
    . rw[h];exact g2
    . rw[h,Er d1 g1 K6];exact g2
theorem UP:∀(l:List Tac) (K:CC) (a:SS),(∀t∈l,setsOp t.op=true->0<=t.d/\t.d<a.regs.length)->Ty K a.regs->Fv K->(Dk K l).foldl SS.step a=l.foldl SS.step a
 | [],_,_,_,_,_=>rfl
 |t::r,K,a,hl,hk,hu=>by
  have h1:=step_fstep hk t;have hkn:=Vz hk hu (u:=CG K t) (fun h=>by rw[Z1];exact hl t z145q (Ix h));rw[h1]at hkn;simp only[Dk,q85,h1];exact UP r (Gq K (CG K t)) _ (fun u hu' hs=>by rw[SS.step_len];exact hl u (by simp[hu']) hs) hkn (Nm hu _)
def mB(R:Nat)(fr:List Int)(l:List Tm):Prop:=l.length=R/\∀v:Int,0<=v->v<R->tget l v=tget l (rget fr v)
variable {R : Nat}
theorem qx(h:l.length=R):mB R (Ku R) l:=⟨h,fun v h0 h1=>by
 obtain⟨u,rfl⟩:∃u:Nat,v=u:=⟨v.toNat,by omega⟩
 rw[Iw z144q]⟩
variable {fr : List Int}
theorem ft(h:mB R fr a.regs)(ht:YC R t):a.step (subT fr t)=a.step t:=by
 unfold subT
 cases e1:use1 t.op with
 |true=>
  have ha:=ht.u1 e1;have e3:(t.op==3)=false:=by
   cases e:t.op==3 with
   |false=>rfl
   |true=>simp at e;rw[e]at e1;cases e1
  have e7:(t.op==7)=false:=by
   cases e:t.op==7 with
   |false=>rfl
   |true=>simp at e;rw[e]at e1;cases e1
  simp only[qZ7];unfold SS.step;dsimp only;rw[<-h.2 t.a ha.1 ha.2,e3,e7];rfl
 |false=>
  cases e2:use2 t.op with
  |true=>
   obtain⟨ha,hb⟩:=ht.u2 e2;simp only[qZ7,qZ3];unfold SS.step SS.bin SS.div SS.get;dsimp only;rw[<-h.2 t.a ha.1 ha.2,<-h.2 t.b hb.1 hb.2]
  |false=>rfl
theorem iL(h:mB R fr a.regs)(hr:Mc R fr)(ht:YC R t):mB R (Dh fr t) (a.step t).regs:=by
 rcases JL a t with⟨hv,hs⟩|⟨hs,x,hv,h2⟩
 . grind[Tac.sets,Dh,mB]
 . have hd:=ht.d hs;have hsd:t.sets=t.d:=by unfold Tac.sets;rw[hs];rfl
   have hlt:t.d<a.regs.length:=by rw[h.1];exact hd.2
   have main:mB R (Ck t.sets fr) (a.step t).regs:=by
    rw[hv,hsd];refine⟨by simp only[tset,q83];exact h.1,fun u u0 u1=>?_⟩;obtain⟨w,rfl⟩:∃w:Nat,u=w:=⟨u.toNat,by omega⟩
    rw[Dd (by rw[hr.len];omega)]
    cases e:((w:Int)==t.d||rget fr w==t.d)with
    |true=>rfl
    |false=>
     simp only[q38,q40]at e;have hw:=hr.ran w u0 u1;simp only[qZ3];rw[Er hd.1 u0 e.1,Er hd.1 hw.1 e.2];exact h.2 w u0 u1
   unfold Dh;rw[show decide (t.sets>=0)=true by rw[hsd];exact q96 hd.1];simp only[qZ7]
   cases ec:(t.op==2&&t.a !=t.sets)with
   |false=>exact main
   |true=>
    simp only[q66,qZ4,bne_iff_ne]at ec;have ha:=ht.u1 (by rw[ec.1];rfl);simp only[qZ7];obtain⟨d,hdn⟩:∃d:Nat,t.d=d:=⟨t.d.toNat,by omega⟩
    have hsd':t.sets=(d:Int):=hsd.trans hdn;rw[hsd']at main ec|-;refine⟨main.1,fun u u0 u1=>?_⟩;obtain⟨w,rfl⟩:∃w:Nat,u=w:=⟨u.toNat,by omega⟩
    have hdl:d<(Ck (d:Int) fr).length:=by rw[Dc,hr.len];omega
    rw[EW hdl]
    by_cases e:w=d
    . rw[qK0 e,e,hv,h2 ec.1,<-hdn,Lg ⟨hd.1,hlt⟩,Er hd.1 ha.1 (by rw[hdn];exact ec.2)]
    . rw[qZ9 e];exact main.2 w u0 u1
theorem Zs{n w:Int}{R:Nat}:∀(l:List Tac) (fr:List Int) (a:SS),Mc R fr->mB R fr a.regs->(∀t∈l,t.fits n R w=true)->
 (Di fr l).1.foldl SS.step a=l.foldl SS.step a/\mB R (Di fr l).2 (l.foldl SS.step a).regs
 | [],_,_,_,h,_=>⟨rfl,h⟩
 |t::r,fr,a,hr,h,hl=>by
  have ht:=hl t z145q;have hsub:=S3 hr ht;have h1:=ft h (fits_tacR ht);have hn:=iL h hr (fits_tacR hsub);rw[h1]at hn;show(subT fr t::(Di (Dh fr (subT fr t)) r).1).foldl SS.step a=_/\mB R (Di (Dh fr (subT fr t)) r).2 _;rw[q85,q85,h1];exact Zs r _ _ (MD hr hsub) hn fun u hu=>hl u IY
inductive Ql(z:Nat->Bool):List Tac->List Tac->Prop
  |nil:Ql z [] []
  |keep {t:Tac} {l m:List Tac}:Ql z l m->Ql z (t::l) (t::m)
  |drop {t:Tac} {l m:List Tac}:Ql z l m->t.pure=true->(∀v:Nat,t.sets=(v:Int)->need v m (z v)=false)->Ql z (t::l) m
theorem Q8(z:Nat->Bool):∀l,Ql z l l
 | []=>.nil
 |t::l=>.keep (Q8 z l)
variable {z : Nat -> Bool}
theorem aY{v:Nat}{l m:List Tac}(h:Ql z l m):need v m (z v)=true->need v l (z v)=true:=by
 induction h with
 |nil=>exact id
 |keep _ ih=>grind[need]
 |drop _ _ hd ih=>
  intro e;have:=hd v
  grind[need]
theorem OE{z:Nat->Bool}{t:Tac}{l2:List Tac}(hp:t.pure=true)(hd:∀v:Nat,t.sets=(v:Int)->need v l2 (z v)=false):∀{l1 m:List Tac},Ql z (l1++l2) m->Ql z (l1++t::l2) m
 | [],m,h=>.drop h hp fun v e=>by
  grind[need,aY]
 |a::l1,m,h=>by
  rw[q73]at h|-
  cases h with
  |keep h=>exact .keep (OE hp hd h)
  |drop h p d=>exact .drop (OE hp hd h) p d
structure wo(f g:BFunc)(x y:Block):Prop where
  fin:y.fin=x.fin
  v:y.v=x.v
  to:y.to=x.to
  els:y.els=x.els
  thin:Ql (endB g y) x.ins y.ins
  down:∀w,endB g y w=true->endB f x w=true
variable {g : BFunc}
theorem Sx(h:Cuts f g):∀{c:Nat} {x y:Block},f.blocks[c]?=some x->g.blocks[c]?=some y->wo f g x y:=by
 induction h with
 |refl f=>intro c x y hx hy;rw[hx]at hy;cases hy;exact⟨rfl,rfl,rfl,rfl,Q8 _ _,fun _ e=>e⟩
 | @step f f1 g hc _ ih=>
  intro c x y hx hy;obtain⟨c0,x0,l1,t,l2,v,h⟩:=hc
  by_cases e:c0=c
  . subst e;have e0:x0=x:=q86 (h.hx.symm.trans hx);subst e0;have i:=ih (x:=x0.mid (l1++l2)) (by rw[h.hg];exact Eu h.hx) hy;have hdn:∀w,endB g y w=true->endB f x0 w=true:=fun w g=>H8 h (Pv _ _) (i.down w g)
    refine⟨i.fin,i.v,i.to,i.els,?_,hdn⟩;rw[h.hi];refine OE h.pure (fun u hu=>?_) i.thin;have huv:v=u:=by have:=h.hv.symm.trans hu;omega
    subst huv;exact false_of (BA (hdn v)) h.dead
  . have i:=ih (x:=x) (by rw[h.hg,Hk e];exact hx) hy;exact⟨i.fin,i.v,i.to,i.els,i.thin,fun w g=>H8 h ⟨rfl,rfl,rfl⟩ (i.down w g)⟩
theorem Rd(h:t.pure=true)(a:SS):(a.step t).effs=a.effs/\(a.step t).time=a.time:=by
 unfold Tac.pure at h;unfold SS.step
 cases h1:t.op==1 with
 |true=>exact⟨rfl,rfl⟩
 |false=>
 cases h2:t.op==2 with
 |true=>exact⟨rfl,rfl⟩
 |false=>
 cases h3:t.op==3 with
 |true=>
  have h4:(t.op==4)=false:=by simp at h3;simp[h3]
  rw[h1,h2,h3,h4]at h;simp only[qQ6,qQ5,q66,q61]at h;simp only[qZ7,qZ3];unfold SS.bin SS.div trisky;rw[h.1,h.2];exact⟨rfl,rfl⟩
 |false=>
 cases h4:t.op==4 with
 |true=>exact⟨rfl,rfl⟩
 |false=>rw[h1,h2,h3,h4]at h;cases h
theorem Ag.drop(h:Ag S row a b){t:Tac}(hp:t.pure=true)(hd:setsOp t.op=true->0<=t.d)(hS:∀v:Nat,S' v->t.sets≠(v:Int)/\S v):Ag S' row (a.step t) b:=by
 have hr:∀v:Nat,S' v->tget (a.step t).regs (v:Int)=tget a.regs (v:Int):=fun v hv=>by
  grind[JL,Tac.sets,Er,setsOp,tget]
 exact⟨by rw[SS.step_len];exact h.l,(Rd hp a).1.trans h.e,(Rd hp a).2.trans h.t,fun v hv=>by rw[hr v hv];exact h.r v (hS v hv).2,h.i⟩
theorem fE{R:Int}{l m:List Tac}(h:Ql z l m):∀{a b:SS},(∀t∈l,t.inR R)->Ag (fun v=>need v m (z v)=true) row a b->Ag (fun v=>z v=true) row (l.foldl SS.step a) (m.foldl SS.step b):=by
 induction h with
 |nil=>exact fun _ h=>h
 | @keep t l m _ ih=>
  intro a b hl h;have ht:=hl t z145q;have key:∀u∈t.uses,tget a.regs u=tget b.regs u/\(tget b.regs u).inR row:=fun u hu=>by
   have hu0:=(ht.2 u hu).1;obtain⟨v,rfl⟩:∃v:Nat,u=v:=⟨u.toNat,by omega⟩
   exact h.r v (by simp[need,hu])
  refine ih (fun u hu=>hl u IY) (h.step (.rfl t) (fun e=>key _ ?_) (fun e=>key _ ?_) fun v hv=>?_)
  . unfold Tac.uses
    cases e1:use1 t.op with
    |true=>simp
    |false=>rw[e1,qQ6]at e;simp[e]
  . have:=Nl t.op;rw[e,qQ4]at this;unfold Tac.uses;simp[this,e]
  . by_cases e:t.sets=(v:Int)
    . exact .inl e
    . exact .inr (by simp[need,hv,e])
 | @drop t l m _ hp hd ih=>
  intro a b hl h;refine ih (fun u hu=>hl u IY) (h.drop hp (fun e=>((hl t z145q).1 e).1) fun v hv=>⟨fun e=>?_,hv⟩);rw[hd v e]at hv;cases hv
theorem cI{r:Int}(hw:w<=1048576)(h10:(t.op !=10)=true)(h:t.fits n r w=true):t.fits 0 r 1048576=true:=by
 grind[Tac.fits,Tac.rest,baseOp,A3,Ie]
theorem cH{r:Int}(h:t.fits n r w=true):t.callOk=true:=by
 cases e:t.op !=10 with
 |true=>exact SC e
 |false=>
  have e10:t.op=10:=by simpa using e
  simp only[Tac.fits,q66]at h;have hw:=(Tac.same_iff _ _).1 h.2.2.2.2.2;have hb:0<=t.base:=by
   have hr:=h.2.2.2.2.1;unfold Tac.rest at hr;rw[show(t.op==3)=false by simp[e10],show baseOp t.op=false by rw[e10];rfl,show Ie t.op=false by rw[e10];rfl,show(t.op==10)=true by simp[e10]]at hr;simp only[qZ7,qZ3,A3,q66,q56]at hr;exact hr.1
  refine Yt e (by simpa using hb) ((Tac.same_iff _ _).2 ?_);have:t.want=Hp t.base:=by unfold Tac.want;rw[e10];rfl
  exact hw.trans this
theorem FD(h:f.one n w=true)(hw:w<=1048576):f.stands=true:=by
 obtain⟨h1,h2,h3,h4⟩:=Cs h;unfold BFunc.stands;rw[q66];refine⟨q67.2 fun x hx=>q67.2 fun t ht=>cH ((h4 x hx).2 t ht),?_⟩;refine bz (b:=⟨1048576,[f.bare]⟩) (by show(0:Int)<=1048576;decide) (by show(1048576:Int)<=1048576;decide) z145q fun i g hg=>?_
 have hi:i=0:=by have:=(q05.1 hg).1;simp at this;omega
 subst hi;have:f.bare=g:=by simpa using hg
 subst this;unfold BFunc.one;simp only[q66,q56,q67];refine⟨h1,h2,by simpa[BFunc.bare]using h3,fun y hy=>?_⟩;obtain⟨x,hx,rfl⟩:=qX3.1 (show y∈f.blocks.map Block.bare from hy);unfold Block.ok;rw[q66,q67];refine⟨by rw[show f.bare.blocks.length=f.blocks.length from q76 _];exact(h4 x hx).1,fun t ht=>?_⟩;have:=q90.1 (show t∈EE x.ins from ht);exact cI hw this.2 ((h4 x hx).2 t this.1)
theorem Mt(h1:f.stands=true)(h2:g.stands=true)(hr:f.regs=g.regs)(hl:f.blocks.length=g.blocks.length)(hb:∀(k:Nat) (x y:Block),f.blocks[k]?=some x->g.blocks[k]?=some y->x.fin=y.fin/\x.to=y.to/\x.els=y.els):vshaped f g=true:=by
 refine Nk hr hl h1 h2 (q67.2 ?_)
 rintro⟨x,y⟩ hp
 obtain⟨k,hk⟩:=q27.1 hp;rw[q11]at hk;have:=hb k x y hk.1 hk.2;simp[EC,this]
theorem Sh(hsh:vshaped f g=true)(h:∀(k:Nat) (x y:Block),f.blocks[k]?=some x->g.blocks[k]?=some y->CI (Cv f.regs.toNat) y.ins=CI (Cv f.regs.toNat) x.ins/\(x.fin=2->tget (CI (Cv f.regs.toNat) x.ins).regs y.v=tget (CI (Cv f.regs.toNat) x.ins).regs x.v)):Nd f g (Y5 f):=by
 have hS:=Fy (Ii hsh).so;refine⟨hsh,by simp[Y5],fun r hr=>?_,fun k x y hx hy=>?_⟩
 . rw[q15 hr];have:=hS.r0
   simp
   omega
 . have hk:=(q05.1 hx).1;have hp:=Mr f.regs.toNat x.ins;obtain⟨e,e2⟩:=h k x y hx hy;rw[VR,ko (k:=(k:Int)) z144q,e];exact⟨rfl,fun e he=>⟨Vn (hp.effs e he).1,Vn (hp.effs e he).2⟩,fun hf=>⟨(e2 hf).symm,G9 (HP hp.regs _)⟩,fun q _ j _=>⟨rfl,G9 (HP hp.regs _)⟩⟩
theorem PS35.fold_g(h:PS35 n w f)(hw:w<=1048576):Nd f f.fold f.all:=by
 obtain⟨h1,h2,h3,h4⟩:=Cs h.one;have hget:∀(k:Nat) (x y:Block),f.blocks[k]?=some x->f.fold.blocks[k]?=some y->y=x.fold:=fun k x y hx hy=>by
  have:f.fold.blocks[k]?=some x.fold:=by show(f.blocks.map _)[k]?=_;rw[q54,hx];rfl
  grind
 refine Sh (Mt (FD h.one hw) (FD (Vm h.one) hw) rfl (q76 _).symm fun k x y hx hy=>?_) fun k x y hx hy=>?_
 . rw[hget k x y hx hy];exact⟨rfl,rfl,rfl⟩
 . rw[hget k x y hx hy];refine⟨UP x.ins [] ⟨Cv f.regs.toNat,[],0⟩ (fun t ht hs=>?_) (fun z v h=>by cases h) (by simp[Fv]),fun _=>rfl⟩;have:=(PS ((h4 x (q33 hx)).2 t ht)).1 hs;show 0<=t.d/\t.d<((Cv f.regs.toNat).length:Nat);rw[HQ];omega
theorem PS35.forward_g(h:PS35 n w f)(hw:w<=1048576):Nd f f.forward f.fcert:=by
 obtain⟨h1,h2,h3,h4⟩:=Cs h.one;have hs:=one_sane h.one;obtain⟨R,hR⟩:∃R:Nat,f.regs=(R:Int):=⟨f.regs.toNat,by omega⟩
 have hRn:f.regs.toNat=R:=by omega
 have hget:∀(k:Nat) (x y:Block),f.blocks[k]?=some x->f.forward.blocks[k]?=some y->y=x.forward R:=fun k x y hx hy=>by
  have:f.forward.blocks[k]?=some (x.forward R):=by show(f.blocks.map _)[k]?=_;rw[q54,hx,hRn];rfl
  exact q86 (hy.symm.trans this)
 refine Sh (Mt (FD h.one hw) (FD (Ny h.one) hw) rfl (q76 _).symm fun k x y hx hy=>?_) fun k x y hx hy=>?_
 . rw[hget k x y hx hy];exact⟨rfl,rfl,rfl⟩
 . rw[hget k x y hx hy,hRn];have hxm:=q33 hx;obtain⟨g1,g2⟩:=Zs (n:=n) (w:=w) x.ins (Ku R) ⟨Cv R,[],0⟩ (Th R) (qx (HQ R)) (fun t ht=>by have:=(h4 x hxm).2 t ht;rw[hR]at this;exact this);refine⟨g1,fun hf=>?_⟩;have hv:=hs.fin x hxm hf;have e:(x.forward R).v=rget (Di (Ku R) x.ins).2 x.v:=by unfold Block.forward;rw[hf];rfl
   rw[e];exact(g2.2 x.v hv.1 z144q).symm
theorem PS35.dead_g(h:PS35 n w f)(hw:w<=1048576):Nd f (NN f) ⟨EF (NN f)⟩:=by
 obtain⟨h1,h2,h3,h4⟩:=Cs h.one;have hs:=one_sane h.one;have hc:=F7 f;obtain⟨hr,hl⟩:=Jy hc;have hat:∀k:Int,0<=k->k<f.blocks.length->(Cert.mk (EF (NN f))).at' k=Kt (NN f) k.toNat:=fun k k0 k1=>by
  unfold Cert.at' EF;rw[q54,q44 z144q];rfl
 have hrow:∀(c v:Nat),(Kt (NN f) c)[v]?=if v<f.regs.toNat then some (WC (NN f) v c)else none:=fun c v=>by
  unfold Kt;rw[hr];unfold GW;rw[q54]
  by_cases hv:v<f.regs.toNat
  . rw[q44 hv,qK0 hv];rfl
  . rw[q26 (by simpa using hv),qZ9 hv];rfl
 refine⟨Mt (FD h.one hw) (FD (Z5 h.one) hw) hr.symm hl.symm fun k x y hx hy=>?_,by simp[EF,hl],fun r hr'=>?_,fun k x y hx hy=>?_⟩
 . have:=Sx hc hx hy;exact⟨this.fin.symm,this.to.symm,this.els.symm⟩
 . obtain⟨c,_,rfl⟩:=qX3.1 (show r∈EF (NN f)from hr');simp only[Kt,GW,q76,List.length_range];omega
 . have hT:=Sx hc hx hy;have hxm:=q33 hx;have hk:=(q05.1 hx).1;rw[VR,hat (k:Int) z144q z144q,q55];have hA:Ag (fun v=>endB (NN f) y v=true) (Kt (NN f) k) (CI (Cv f.regs.toNat) x.ins) (CI (Cv f.regs.toNat) y.ins):=by
    refine fE hT.thin (R:=f.regs) (hs.low x hxm) ⟨rfl,rfl,rfl,fun v hv=>⟨rfl,?_⟩,fun _ h=>by cases h⟩;show(tget (Cv f.regs.toNat) (v:Int)).inR _;unfold tget Cv;rw[q55,q54]
    by_cases hvr:v<f.regs.toNat
    . rw[q44 hvr];show(Kt (NN f) k)[v]?=some true;rw[hrow,qK0 hvr,Ya hy];exact congrArg some hv
    . rw[q26 (by simpa using hvr)];exact trivial
   refine⟨hA.e,hA.i,fun hf=>?_,fun q hq j hj=>?_⟩
   . have hv:=hs.fin x hxm hf;rw[hT.v];obtain⟨u,hu⟩:∃u:Nat,x.v=u:=⟨x.v.toNat,by omega⟩
     rw[hu];exact hA.r u (by unfold endB Dy;rw[hT.fin,hT.v,hf,hu];simp)
   . have hqr:=hs.next x hxm q hq;rw[hat q hqr.1 hqr.2,hrow]at hj;refine hA.r j ?_;unfold endB;rw[q81];refine .inr (outB_iff.2 ⟨q,?_,inB_iff.1 ?_⟩)
     . have:y.nexts=x.nexts:=XZ ⟨hT.fin,hT.to,hT.els⟩;rw[this];exact hq
     . by_cases hjr:j<f.regs.toNat
       . rw[qK0 hjr]at hj;exact q86 hj
       . rw[qZ9 hjr]at hj;cases hj
theorem PS35.holds_g(h:PS35 n w f)(hw:w<=1048576)(k:Int)(hk:kind35 k=true):(CN f k).holds f=true:=by
 have hfw:f.words:=h.i;have hgw:(CN f k).f.words:=(h.step k).i;unfold CN at hgw|-
 cases e1:k==1 with
 |true=>rw[e1]at hgw;show(decide (1<=(1:Int)/\(1:Int)<=4)&&(true&&Ik _ _ _))=true;rw[q66,q66];exact⟨by decide,rfl,(KD hfw hgw).2 (h.fold_g hw)⟩
 |false=>
 cases e2:k==2 with
 |true=>rw[e1,e2]at hgw;show(decide (1<=(2:Int)/\(2:Int)<=4)&&(true&&Ik _ _ _))=true;rw[q66,q66];exact⟨by decide,rfl,(KD hfw hgw).2 (h.forward_g hw)⟩
 |false=>
 cases e3:k==3 with
 |true=>rw[e1,e2,e3]at hgw;show(decide (1<=(3:Int)/\(3:Int)<=4)&&(true&&Ik _ _ _))=true;rw[q66,q66];exact⟨by decide,rfl,(KD hfw hgw).2 (h.dead_g hw)⟩
 |false=>
  have hne:=(Cs h.one).2.2.1;show(true&&Ej _ _ _)=true;rw[q66];exact⟨rfl,check_iff.2 (KG (GB h.one) hne)⟩
theorem lV{p:OPass}(hf:f.words)(hg:p.f.words):p.holds f=p.rholds f:=by
 unfold OPass.holds OPass.rholds;rw[eW hf hg]
theorem QH(x y:Block)(hx:x.ins.length<=1000000000000000):APure Tryz.prog 36 [.agg x.cells,.agg y.cells] (fun r=>r=.bool (decide (x=y))):=by
 refine APure.of_body (n:=59) Ai Tryz.func36 rfl rfl ?_;refine HG ?_;refine ax 2 (D4 5 0) ?_;refine ax 3 (D4 5 1) ?_;refine wk 11 ?_;refine CM 11 (fun hb1=>?_) fun hb1=>?_
 .
  refine wk 35 ?_;exact WI
 refine wk 7 ?_;refine CM 18 (fun hb2=>?_) fun hb2=>?_
 .
  refine wk 28 ?_;exact WI
 refine wk 7 ?_;refine CM 25 (fun hb3=>?_) fun hb3=>?_
 .
  refine wk 21 ?_;exact WI
 refine wk 7 ?_;refine CM 32 (fun hb4=>?_) fun hb4=>?_
 .
  refine wk 14 ?_;exact WI
 refine wk 9 ?_;refine asp 40 (fun hb5=>?_) fun hb5=>?_
 .
  refine wk 5 ?_;exact WI
 refine acf ?_;have h0:x.fin=y.fin/\x.v=y.v/\x.to=y.to/\x.els=y.els/\x.ins.length=y.ins.length:=by simp_all<;>omega
 refine wk 7 ?_;refine AK (γ:=Nat) 2 (fun i=>⟨59,(Aa (Aa (Aa AZ 2 (.ptr 0 1 0 0)) 3 (.ptr 1 1 0 0)) 5 (.int .i64 (i:Int))),(hput (hput (Bc 2) 0 (.row false 5 [x.cells])) 1 (.row false 5 [y.cells]))⟩) (fun i=>x.ins.take i=y.ins.take i) (fun i=>x.ins.length-i) 0 (Sub.mk' DB CX) rfl (fun _=>Ab (Ab (fun b hb=>Ay hb) rfl) rfl) ?_;intro i ht;refine wk 9 ?_;refine asp 45 (fun hb6=>?_) fun hb6=>?_
 .
  refine act ?_;have hil:i<x.ins.length:=by simpa using hb6
  obtain⟨u,hu⟩:=Af hil;obtain⟨v,hv⟩:=Af (l:=y.ins) (k:=i) z144q;refine wk 8 ?_;refine dq 51 (Ak Ai rfl rfl rfl rfl rfl rfl (q46 _) (Aw Bm) rfl) ?_;refine wk 4 ?_;refine dq 56 (Ak Ai rfl rfl rfl rfl rfl rfl (q46 _) (Aw Bm) rfl) ?_;refine wk 1 ?_;refine dq 58 (ES Ai true rfl rfl rfl AF rfl rfl rfl rfl (Tac.eqCells u v)) ?_;refine wk 1 ?_;refine asp 58 (fun hb7=>?_) fun hb7=>?_
  .
   refine act ?_;have huv:u≠v:=by simpa using hb7
   refine wk 4 ?_;refine DY ⟨[_],⟨rfl,trivial⟩,?_,rfl⟩;show AV.bool false=_;rw[q89 (by rintro rfl;rw[hu]at hv;cases hv;exact huv rfl)]
  refine acf ?_;have huv:u=v:=by simpa using hb7
  refine wk 3 ?_;refine aq 47 (A2 rfl rfl hil Be) ?_;refine wk 2 ?_;exact⟨i+1,Drop.mk' Gt IX,(by rw[AY hu,AY hv,ht,huv]),by omega⟩
 refine acf ?_;have hge:x.ins.length<=i:=by simpa using hb6
 refine wk 5 ?_;refine DY ⟨[_],⟨rfl,trivial⟩,?_,rfl⟩;show AV.bool true=_;rw[q96 (YH h0.1 h0.2.1 h0.2.2.1 h0.2.2.2.1 (OI ht hge (h0.2.2.2.2▸hge)))]
theorem Lk(f g:BFunc)(hf:f.blocks.length<=1000000000000000/\∀x∈f.blocks,x.ins.length<=1000000000000000):APure Tryz.prog 23 [.agg f.cells,.agg g.cells] (fun r=>r=.bool (decide (f=g))):=by
 refine APure.of_body (n:=39) Ai Tryz.func23 rfl rfl ?_;refine HG ?_;refine ax 2 (D4 2 0) ?_;refine ax 3 (D4 2 1) ?_;refine wk 11 ?_;refine CM 11 (fun hb1=>?_) fun hb1=>?_
 .
  refine wk 14 ?_;exact WI
 refine wk 9 ?_;refine asp 19 (fun hb2=>?_) fun hb2=>?_
 .
  refine wk 5 ?_;exact WI
 refine acf ?_;have h0:f.regs=g.regs/\f.blocks.length=g.blocks.length:=by simp_all<;>omega
 refine wk 7 ?_;refine AK (γ:=Nat) 2 (fun i=>⟨39,(Aa (Aa (Aa AZ 2 (.ptr 0 1 0 0)) 3 (.ptr 1 1 0 0)) 5 (.int .i64 (i:Int))),(hput (hput (Bc 2) 0 (.row false 2 [f.cells])) 1 (.row false 2 [g.cells]))⟩) (fun i=>f.blocks.take i=g.blocks.take i) (fun i=>f.blocks.length-i) 0 (Sub.mk' DB CX) rfl (fun _=>Ab (Ab (fun b hb=>Ay hb) rfl) rfl) ?_;intro i ht;refine wk 9 ?_;refine asp 24 (fun hb3=>?_) fun hb3=>?_
 .
  refine act ?_;have hil:i<f.blocks.length:=by simpa using hb3
  obtain⟨x,hx⟩:=Af hil;obtain⟨y,hy⟩:=Af (l:=g.blocks) (k:=i) z144q;have hil2:=hf.1;refine wk 8 ?_;refine dq 30 (Hc Ai (Aw hx)) ?_;refine wk 4 ?_;refine dq 35 (Hc Ai (Aw hy)) ?_;refine wk 1 ?_;refine dx 37 (CW Tryz.func36 (QH x y (hf.2 x (q33 hx)))) ?_;refine dq 38 (Nu rfl rfl) ?_;refine wk 1 ?_;refine asp 38 (fun hb4=>?_) fun hb4=>?_
  .
   refine act ?_;have hxy:x≠y:=by simpa using hb4
   refine wk 4 ?_;refine DY ⟨[_],⟨rfl,trivial⟩,?_,rfl⟩;show AV.bool false=_;rw[q89 (by rintro rfl;rw[hx]at hy;cases hy;exact hxy rfl)]
  refine acf ?_;have hxy:x=y:=by simpa using hb4
  refine wk 3 ?_;refine aq 26 (A2 rfl rfl hil Be) ?_;refine wk 2 ?_;exact⟨i+1,Drop.mk' Gt IX,(by rw[AY hx,AY hy,ht,hxy]),by omega⟩
 refine acf ?_;have hge:f.blocks.length<=i:=by simpa using hb3
 refine wk 5 ?_;refine DY ⟨[_],⟨rfl,trivial⟩,?_,rfl⟩;show AV.bool true=_;rw[q96 (BFunc.ext' h0.1 (OI ht hge (h0.2▸hge)))]
theorem ij(f:BFunc)(hn:f.blocks.length<=100000)(hi:∀x∈f.blocks,x.ins.length<=100000):APure Tryz.prog 69 [.agg f.cells] (fun r=>r=.bool f.stands):=by
 refine APure.of_body (n:=97) Ai Tryz.func69 rfl rfl ?_;refine HG ?_;refine ax 1 (D4 2 0) ?_;refine wk 7 ?_;refine ax 3 (Eg Ai 1) ?_;refine wk 4 ?_;refine AGo.ghost (.dryCell 1 0 1 2 5 true rfl rfl rfl rfl rfl Aj) ?_;refine wk 4 ?_;refine AK (γ:=Nat) 3 (fun k=>⟨97,(Aa (Aa (Aa AZ 1 (.ptr 0 1 0 0)) 3 (.ptr 1 1 0 0)) 4 (.int .i64 (k:Int))),(hput (hput (hput (Bc 3) 0 (.row false 2 [f.cells])) 1 (.row false 2 [[.int .i64 f.regs,.ref 2 ((f.blocks.take (k)).map Block.bare).length 0 ((f.blocks.take (k)).map Block.bare).length]])) 2 (.row true 5 (((f.blocks.take (k)).map Block.bare).map Block.cells)))⟩) (fun k=>k<=f.blocks.length/\(f.blocks.take k).all (fun x=>x.ins.all Tac.callOk)=true) (fun k=>f.blocks.length-k) 0 (Sub.mk' DB CX) ⟨qZ1 _,rfl⟩ (fun _=>Ab (Ab (Ab (fun b hb=>Ay hb) rfl) rfl) rfl) ?_;intro k ⟨hk,hall⟩;refine wk 9 ?_;refine asp 16 (fun hb1=>?_) fun hb1=>?_
 .
  refine act ?_;have hkl:k<f.blocks.length:=by simpa using hb1
  obtain⟨x,hx⟩:=Af hkl;have hxm:=q33 hx;have htk:=AY hx;refine wk 8 ?_;refine aq 22 (Hc Ai (Aw hx)) ?_;refine wk 1 ?_;refine ax 5 (Eg Ai 3) ?_;refine wk 13 ?_;refine ax 6 (Eg Ai 4) ?_;refine wk 4 ?_;refine AGo.ghost (.dryCell 4 0 0 5 8 true rfl rfl rfl rfl rfl Aj) ?_;refine wk 4 ?_;refine AK (γ:=Nat) 6 (fun j=>⟨97,(Aa (Aa (Aa (Aa (Aa (Aa AZ 1 (.ptr 0 1 0 0)) 3 (.ptr 1 1 0 0)) 4 (.int .i64 (k:Int))) 5 (.ptr 3 1 0 0)) 6 (.ptr 4 1 0 0)) 7 (.int .i64 (j:Int))),(hput (hput (hput (hput (hput (hput (Bc 6) 0 (.row false 2 [f.cells])) 1 (.row false 2 [[.int .i64 f.regs,.ref 2 ((f.blocks.take (k)).map Block.bare).length 0 ((f.blocks.take (k)).map Block.bare).length]])) 2 (.row true 5 (((f.blocks.take (k)).map Block.bare).map Block.cells))) 3 (.row false 5 [x.cells])) 4 (.row false 5 [[.ref 5 (EE (x.ins.take j)).length 0 (EE (x.ins.take j)).length,.int .i64 x.fin,.int .i64 x.v,.int .i64 x.to,.int .i64 x.els]])) 5 (.row true 8 ((EE (x.ins.take j)).map Tac.cells)))⟩) (fun j=>j<=x.ins.length/\(x.ins.take j).all Tac.callOk=true) (fun j=>x.ins.length-j) 0 (Sub.mk' DB CX) ⟨qZ1 _,rfl⟩ (fun _=>Ab (Ab (Ab (Ab (Ab (Ab (fun b hb=>Ay hb) rfl) rfl) rfl) rfl) rfl) rfl) ?_
  intro j ⟨hj,hja⟩;refine wk 9 ?_;refine asp 37 (fun hb2=>?_) fun hb2=>?_
  .
   refine act ?_;have hjl:j<x.ins.length:=by have h:=hb2;simp only[q76,q56]at h;omega
   obtain⟨t,ht⟩:=Af hjl;refine wk 8 ?_;refine aq 43 (Hc Ai (Aw ht)) ?_;refine wk 1 ?_;refine ax 8 (Eg Ai 6) ?_;refine wk 9 ?_;refine asp 47 (fun hb3=>?_) fun hb3=>?_
   .
    refine act ?_;have h10:(t.op==10)=true:=hb3;have h10':(t.op !=10)=false:=by simpa using h10
    have hnc:=bZ ht h10';refine wk 7 ?_;refine CM 51 (fun hb4=>?_) fun hb4=>?_
    .
     refine wk 35 ?_;exact WM
    refine wk 5 ?_;refine CM 56 (fun hb5=>?_) fun hb5=>?_
    .
     refine wk 30 ?_;exact WM
    refine wk 5 ?_;refine CM 61 (fun hb6=>?_) fun hb6=>?_
    .
     refine wk 25 ?_;exact WM
    refine wk 5 ?_;refine CM 66 (fun hb7=>?_) fun hb7=>?_
    .
     refine wk 20 ?_;exact WM
    refine wk 5 ?_;refine CM 71 (fun hb8=>?_) fun hb8=>?_
    .
     refine wk 15 ?_;exact WM
    refine wk 5 ?_;refine CM 76 (fun hb9=>?_) fun hb9=>?_
    .
     refine wk 10 ?_;exact WM
    refine wk 5 ?_;refine asp 80 (fun hb10=>?_) fun hb10=>?_
    .
     refine wk 5 ?_;exact WM
    exact rH
   refine acf ?_;have h10:(t.op !=10)=true:=by have h:=hb3;simpa using h
   have hnc:=XX ht h10;have hok:=SC h10;refine wk 5 ?_;refine ax 84 (BU Ai rfl rfl rfl rfl rfl rfl Aj rfl rfl rfl rfl rfl rfl) ?_;refine ax 85 (o_append Ai (n:=(EE (x.ins.take j)).length) (m:=1) rfl rfl rfl rfl rfl rfl rfl rfl rfl (by rw[q76]) rfl rfl (q68 _) (.lst _ _) QY au rfl (by have h1:=Nz x.ins j;have h2:=hi x hxm;simp[partVals];omega) (by have h1:=Nz x.ins j;have h2:=hi x hxm;simp[partVals];simp only[maxLen];omega)) ?_;exact rH
  refine acf ?_;have hjge:x.ins.length<=j:=by have h:=hb2;simp only[q76,q16]at h;omega
  refine wk 1 ?_;refine AGo.ghost (.freezeCell 4 0 0 5 rfl rfl rfl rfl z145q Aj) ?_;rw[q95,Ra (l:=(EE (x.ins.take j)).map Tac.cells) z145q,q20 hjge];refine wk 4 ?_;refine ax 90 (BU Ai rfl rfl rfl rfl rfl rfl Aj rfl rfl rfl rfl rfl rfl) ?_;refine ax 91 (o_append Ai (n:=((f.blocks.take (k)).map Block.bare).length) (m:=1) rfl rfl rfl rfl rfl rfl rfl rfl rfl z145q rfl rfl (q68 _) (.lst _ _) QY au rfl (by simp[partVals];omega) (by simp[partVals];simp only[maxLen];omega)) ?_;refine wk 5 ?_;refine aq 18 (A2 rfl rfl hkl (show f.blocks.length<=maxLen by simp only[maxLen];omega)) ?_;refine wk 2 ?_;exact⟨k+1,Drop.mk' Gt (by repeat(first|exact HDrop.none _ _|exact HDrop.tail _ _|refine HDrop.put ?_ (by first|rfl|exact congrArg (fun es=>some (AObj.row true 5 es)) (by rw[htk,q77,q77];rfl)|exact congrArg (fun n:Nat=>some (AObj.row false 2 [[.int .i64 f.regs,.ref 2 n 0 n]])) (by rw[htk,q77,q48];rfl)) rfl su)),⟨hkl,Dw hx hall (all_end hja hjge)⟩,by omega⟩
 refine acf ?_;have hge:f.blocks.length<=k:=by simpa using hb1
 refine wk 2 ?_;refine AGo.ghost (.freezeCell 1 0 1 2 rfl rfl rfl rfl z145q Aj) ?_;rw[q95,Ra (l:=((f.blocks.take (k)).map Block.bare).map Block.cells) z145q,q20 hge];refine wk 2 ?_;refine ax 94 (BU Ai rfl rfl rfl rfl rfl rfl Aj rfl rfl rfl rfl rfl rfl) ?_;refine wk 1 ?_;refine ax 96 (CW Tryz.func29 (UT (Blocks.mk 1048576 [f.bare]))) ?_;refine wk 2 ?_;refine DY ⟨[_],⟨rfl,trivial⟩,?_,rfl⟩;refine bc ?_;exact(Xa (all_end hall hge)).symm
abbrev wH(p v o:Nat)(h:Ad)(w:RW):Ad:=(hput (hput (hput (hput (hput h 4 (.row false 1 [[A6 9 (w.L.map RVal.cells)]])) 9 (By 9 (w.L.map RVal.cells))) p (.row false 4 [[.ptr 4 1 0 0,A6 v (Bb w.regs),A6 o (w.out.map REff.cells),.int .i64 w.time]])) v (By 1 (Bb w.regs))) o (By 6 (w.out.map REff.cells)))
theorem ER(L:List RVal)(hL:L.length<=100000)(v:RVal):ACall Tryz.prog 70 [.ptr 4 1 0 0,.agg v.cells] (hput (hput hNew 4 (.row false 1 [[A6 9 ((L).map RVal.cells)]])) 9 (By 9 ((L).map RVal.cells))) (fun r h'=>r=.int .i64 (Bs L v).1/\HSub (hput (hput hNone 4 (.row false 1 [[A6 9 (((Bs L v).2).map RVal.cells)]])) 9 (By 9 (((Bs L v).2).map RVal.cells))) h'):=by
 refine ACall.of_body (n:=41) Ai Tryz.func70 rfl rfl ?_;refine HG ?_;refine ax 3 (D4 9 12) ?_;refine wk 8 ?_;refine AK (γ:=Nat) 13 (fun k=>⟨41,(Aa (Aa (Aa AZ 0 (.ptr 4 1 0 0)) 3 (.ptr 12 1 0 0)) 5 (.int .i64 (k:Int))),(hput (hput (hput (Bc 13) 4 (.row false 1 [[A6 9 ((L).map RVal.cells)]])) 9 (By 9 ((L).map RVal.cells))) 12 (.row false 9 [v.cells]))⟩) (fun k=>k<=L.length/\∀j,j<k->∀y,L[j]?=some y->y.same v=false) (fun k=>L.length-k) 0 (Sub.mk' B5 CX) ⟨qZ1 _,fun j h=>absurd h (Nat.not_lt_zero _)⟩ (fun _=>Ab (Ab (Ab (fun b hb=>Ay hb) rfl) rfl) rfl) ?_;intro k ⟨hk,hF⟩;refine wk 8 ?_;refine aq 11 (DD Ai rfl rfl rfl rfl) ?_;refine wk 2 ?_;refine asp 12 (fun hb1=>?_) fun hb1=>?_
 .
  refine act ?_;have hkl:k<L.length:=by have h:=hb1;simp only[q76,q56]at h;omega
  obtain⟨x,hx⟩:=Af hkl;refine wk 10 ?_;refine dq 20 (AR Ai rfl rfl rfl rfl rfl rfl rfl rfl (q46 _) K8) ?_;refine dq 21 (Ar Ai rfl rfl rfl (ptsJ rfl (Aw hx)) rfl) ?_;refine wk 1 ?_;refine dq 23 (ES Ai false rfl rfl rfl AF rfl rfl rfl rfl rfl) ?_;refine wk 1 ?_;refine asp 23 (fun hb2=>?_) fun hb2=>?_
  .
   refine act ?_;have hsm:x.same v=true:=hb2;have hi:=O1 hx hsm hF;refine wk 6 ?_;refine⟨[_],⟨rfl,trivial⟩,?_,?_⟩<;>rw[Lo hi]
   . rfl
   . exact(HSub.put (HSub.put (HSub.none _) rfl) rfl)
  refine acf ?_;have hsm:x.same v=false:=hb2;refine wk 3 ?_;refine aq 14 (A2 rfl rfl hkl (show L.length<=maxLen by simp only[maxLen];omega)) ?_;refine wk 2 ?_;exact⟨k+1,Drop.mk' Gt kj,⟨hkl,fun j hj y hy=>(Nat.lt_or_eq_of_le (Nat.le_of_lt_succ hj)).elim (fun h=>hF j h y hy) (fun h=>by(subst h;rw[hx]at hy;exact(q86 hy)▸hsm))⟩,by omega⟩
 refine acf ?_;have hge:L.length<=k:=by have h:=hb1;simp only[q76,q16]at h;omega
 have hn:=Rj (v:=v) (L:=L) (fun j y hy=>hF j (by have:=(q05.1 hy).1;omega) y hy);refine wk 9 ?_;refine dx 31 (BU Ai rfl rfl rfl rfl rfl rfl Aj rfl rfl rfl rfl rfl rfl) ?_;refine dx 32 (o_append1J Ai (b:=9) (es:=((L).map RVal.cells)) rfl rfl rfl rfl rfl rfl rfl rfl rfl rfl rfl (q68 _) (p7 _) (kX _) rfl rfl (by rw[q76];show _*72<=_;omega) j6) ?_;refine wk 2 ?_;refine DOps.w rfl rfl (CQ Ai rfl rfl rfl rfl rfl rfl rfl rfl rfl (B1 _ _) Aj (Cj _ _) D9) ?_;refine wk 7 ?_;refine aq 39 (DD Ai rfl rfl rfl rfl) ?_;refine aq 40 (A1 (r:=.int .i64 (L.length:Int)) rfl rfl rfl (fq SJ SJ SJ)) ?_;refine wk 3 ?_;refine⟨[_],⟨rfl,trivial⟩,?_,?_⟩<;>rw[Lp hn]
 . rfl
 . exact(HSub.put (HSub.put (HSub.none _) (by dsimp only;rw[q77];rfl)) (by dsimp only;rw[q77];rfl))
theorem JR(L:List RVal)(i:Int)(hi:0<=i/\i<L.length):ACall Tryz.prog 109 [.ptr 4 1 0 0,.int .i64 i] (hput (hput hNew 4 (.row false 1 [[A6 9 ((L).map RVal.cells)]])) 9 (By 9 ((L).map RVal.cells))) (fun r h'=>r=.tup [.int .u32 (Bu L i).1,.bool (Bu L i).2]/\HSub (hput (hput hNone 4 (.row false 1 [[A6 9 ((L).map RVal.cells)]])) 9 (By 9 ((L).map RVal.cells))) h'):=by
 refine ACall.of_body (n:=23) Ai Tryz.func109 rfl rfl ?_;refine wk 12 ?_;refine dq 11 (AR Ai rfl rfl rfl rfl rfl rfl rfl rfl hi.1 (by rw[q76];exact hi.2)) ?_;refine wk 1 ?_;refine dq 13 (Ar Ai rfl rfl rfl (ou rfl (UO hi)) rfl) ?_;refine wk 5 ?_;refine dq 19 (AR Ai rfl rfl rfl rfl rfl rfl rfl rfl hi.1 (by rw[q76];exact hi.2)) ?_;refine wk 1 ?_;refine dq 21 (Ar Ai rfl rfl rfl (ou rfl (UO hi)) rfl) ?_;refine wk 5 ?_;refine⟨[_,_],⟨rfl,rfl,trivial⟩,rfl,(HSub.put (HSub.put (HSub.none _) rfl) rfl)⟩
theorem jr(a:Nat)(ha:a<4294967296):ACall Tryz.prog 101 [.int .u32 (a:Int)] (hput hNew 0 .free) (fun r h'=>r=.ref 0 32 0 32/\HSub (hput hNone 0 (.row true 1 (natCells (EO a 32)))) h'):=by
 refine ACall.of_body (n:=18) Ai Tryz.func101 rfl rfl ?_;refine wk 10 ?_;refine AGo.ghost (.dry 3 0 1 true rfl rfl rfl Aj) ?_;refine wk 4 ?_;refine AGo.loopI (γ:=Nat) (fun k=>⟨18,(Aa (Aa (Aa AZ 0 (.int .u32 ((a/2^k:Nat):Int))) 3 (.ref 0 k 0 k)) 4 (.int .i64 (k:Int))),(hput hNone 0 (.row true 1 (natCells (EO a k))))⟩) (fun k=>k<=32) (fun k=>32-k) 0 (Sub.mk' sy CX) (qZ1 _) ?_;intro k hk;exact zt16
theorem bits_ok1(a:Nat)(ha:a<4294967296):ACall Tryz.prog 101 [.int .u32 (a:Int)] (hput hNew 1 .free) (fun r h'=>r=.ref 1 32 0 32/\HSub (hput hNone 1 (.row true 1 (natCells (EO a 32)))) h'):=by
 refine ACall.of_body (n:=18) Ai Tryz.func101 rfl rfl ?_;refine wk 10 ?_;refine AGo.ghost (.dry 3 1 1 true rfl rfl rfl Aj) ?_;refine wk 4 ?_;refine AGo.loopI (γ:=Nat) (fun k=>⟨18,(Aa (Aa (Aa AZ 0 (.int .u32 ((a/2^k:Nat):Int))) 3 (.ref 1 k 0 k)) 4 (.int .i64 (k:Int))),(hput hNone 1 (.row true 1 (natCells (EO a k))))⟩) (fun k=>k<=32) (fun k=>32-k) 0 (Sub.mk' sy CX) (qZ1 _) ?_;intro k hk;exact zt16
theorem bitsOf_ok(l:List Nat)(hl:l.length=32)(hb:∀b∈l,b<2):APure Tryz.prog 102 [.lst false (natCells l)] (fun r=>r=.int .u32 (valB l:Int)):=by
 refine APure.of_body (n:=23) Ai Tryz.func102 rfl rfl ?_;refine wk 13 ?_;refine aq 7 (A1 (r:=.int .i64 (31:Int)) rfl rfl rfl (by rw[C6,hl];rfl)) ?_;refine wk 3 ?_;refine AGo.loopI (γ:=Nat) (fun k=>⟨23,(Aa (Aa (Aa AZ 0 (.lst false (natCells l))) 3 (.int .u64 ((valB (l.drop k):Nat):Int))) 4 (.int .i64 ((k:Int)-1))),hNone⟩) (fun k=>k<=32) (fun k=>k) 32 (Sub.mk' (by repeat(first|exact ESub.new _|refine ESub.put ?_ (by first|rfl|exact congrArg (fun(n:Nat)=>some (AV.int .u64 (n:Int))) (by rw[List.drop_eq_nil_of_le z144q];rfl)))) CX) (qZ0 _) ?_;intro k hk;refine wk 6 ?_;refine asp 9 (fun hb1=>?_) fun hb1=>?_
 .
  refine act ?_;obtain⟨m,rfl⟩:∃m,k=m+1:=⟨k-1,by have h:=hb1;simp at h;omega⟩
  obtain⟨b,hx⟩:=Af (l:=l) (k:=m) z144q;have hb2:=hb b (q33 hx);have hv:=Lb hl hb (m+1);have hv2:=aL hx;refine wk 5 ?_;refine aq 13 (A1 (r:=.int .u64 ((2*valB (l.drop (m+1)):Nat):Int)) rfl rfl rfl (P3 (a:=2) (b:=valB (l.drop (m+1))) (Ct z144q))) ?_;refine wk 2 ?_;refine aq 16 (Ak Ai rfl rfl rfl rfl rfl rfl z144q (cs:=[.int .i64 (b:Int)]) (by rw[show(((m+1:Nat):Int)-1).toNat=m by omega];show(natCells l)[m]?=_;rw[natCells,q54,hx];rfl) rfl) ?_;refine wk 1 ?_;refine aq 18 (Cx Ai rfl rfl rfl rfl rfl (Ct z144q)) ?_;refine aq 19 (A1 (r:=.int .u64 ((2*valB (l.drop (m+1))+b:Nat):Int)) rfl rfl rfl (H9 (Ct z144q))) ?_;refine wk 4 ?_;refine aq 11 (A1 (r:=.int .i64 ((m:Int)-1)) rfl rfl rfl (by simp only[AX,BH,isShift,qZ3,qZ8];rw[Cq z144q z144q];congr 2;omega)) ?_;refine wk 2 ?_;exact⟨m,Sub.mk' (by repeat(first|exact ESub.new _|refine ESub.put ?_ (by first|rfl|exact congrArg (fun(n:Nat)=>some (AV.int .u64 (n:Int))) z144q))) CX,z144q,by omega⟩
 refine acf ?_;obtain rfl:k=0:=by have h:=hb1;simp at h;omega
 refine wk 4 ?_;refine aq 21 (A1 (r:=.int .u64 ((valB (l.drop 0)%4294967296:Nat):Int)) rfl rfl rfl (F5 (a:=valB (l.drop 0)) (b:=4294967296) Aj)) ?_;refine aq 22 (Cx Ai rfl rfl rfl rfl rfl (DQ (Nat.mod_lt _ Aj))) ?_;refine wk 2 ?_;refine DY ⟨[_],⟨rfl,trivial⟩,?_,rfl⟩;show AV.int .u32 _=_;rw[Nat.mod_eq_of_lt (Lb hl hb 0),q95]
theorem mv(op:Int)(a b:Nat)(ha:a<4294967296)(hb:b<4294967296):APure Tryz.prog 93 [.int .i64 op,.int .u32 (a:Int),.int .u32 (b:Int)] (fun r=>r=.int .u32 (valB (Fm op a b):Int)):=by
 refine APure.of_body (n:=50) Ai Tryz.func93 rfl rfl ?_;refine wk 7 ?_;refine ax 12 (GU (jr a ha) [0] [(0,(.row true 1 (natCells (EO a 32))))] rfl Tryz.func101 AF rfl rfl rfl ⟨⟨_,rfl,rfl⟩,trivial⟩ rfl (Ac rfl (AE _)) ⟨⟨_,rfl,rfl,rfl⟩,trivial⟩ rfl) ?_;refine wk 1 ?_;refine ax 14 (GU (bits_ok1 b hb) [1] [(1,(.row true 1 (natCells (EO b 32))))] rfl Tryz.func101 AF rfl rfl rfl ⟨⟨_,rfl,rfl⟩,trivial⟩ rfl (Ac rfl (AE _)) ⟨⟨_,rfl,rfl,rfl⟩,trivial⟩ rfl) ?_;refine wk 9 ?_;refine AGo.loopI (γ:=Nat) (fun k=>⟨50,(Aa (Aa (Aa (Aa AZ 0 (.int .i64 op)) 7 (.ref 0 32 0 32)) 8 (.ref 1 32 0 32)) 9 (.int .i64 (k:Int))),(hput (hput hNone 0 (.row true 1 (natCells (Jj op a b k)))) 1 (.row true 1 (natCells (EO b 32))))⟩) (fun k=>k<=32) (fun k=>32-k) 0 (Sub.mk' B5 (by repeat(first|exact HSub.refl _|exact HSub.none _|exact AQ _|exact AM D2|refine HSub.put ?_ (by first|rfl|exact congrArg (fun l=>some (AObj.row true 1 (natCells l))) (cj op a b).symm)|refine AP ?_ D2|refine BD ?_ Aj))) (qZ1 _) ?_
 intro k hk;refine wk 6 ?_;refine asp 16 (fun hb1=>?_) fun hb1=>?_
 .
  refine act ?_;have hkl:k<32:=by have h:=hb1;simp at h;omega
  refine wk 7 ?_;refine dq 21 (Ae Ai rfl rfl rfl rfl rfl rfl rfl pr rfl (q46 _) z144q) ?_;refine dq 22 (Ar Ai rfl rfl rfl (.ptr _ _ _ _ _ _ _ _ rfl j7 (GA (Pu hkl))) rfl) ?_;refine wk 2 ?_;refine dq 25 (Ae Ai rfl rfl rfl rfl rfl rfl rfl pr rfl (q46 _) z144q) ?_;refine dq 26 (Ar Ai rfl rfl rfl (.ptr _ _ _ _ _ _ _ _ rfl (by simp[C6,C9]) (GA (M9 hkl))) rfl) ?_;refine dq 27 (A1 (r:=.int .i64 ((a/2^k%2+b/2^k%2:Nat):Int)) rfl rfl rfl (H9 (JJ z144q))) ?_;refine wk 6 ?_;refine aq 30 (Ae Ai rfl rfl rfl rfl rfl rfl rfl pr rfl (q46 _) z144q) ?_;refine AOps.w rfl rfl (o_store Ai rfl rfl rfl rfl rfl rfl j7 (GA (Pu hkl)) rfl Aj rfl E4) ?_;refine wk 6 ?_;refine CM 33 (fun hb2=>?_) fun hb2=>?_
  .
   refine wk 4 ?_;refine CM 37 (fun hb3=>?_) fun hb3=>?_
   .
    refine wk 12 ?_;exact ph
   refine wk 3 ?_;refine CM 40 (fun hb4=>?_) fun hb4=>?_
   .
    refine wk 5 ?_;refine asp 44 (fun hb5=>?_) fun hb5=>?_
    .
     refine wk 4 ?_;exact ph
    refine wk 4 ?_;exact rR
   refine wk 9 ?_;exact rR
  refine wk 7 ?_;refine CM 40 (fun hb6=>?_) fun hb6=>?_
  .
   refine wk 5 ?_;refine asp 44 (fun hb7=>?_) fun hb7=>?_
   .
    refine wk 4 ?_;exact ph
   refine wk 4 ?_;exact rR
  refine wk 9 ?_;exact rR
 refine acf ?_;have hge:¬k<32:=by have h:=hb1;simp at h;omega
 obtain rfl:k=32:=by omega
 rw[ii];refine wk 2 ?_;refine AGo.ghost (.freezeAll 7 0 rfl rfl (by simp[C6,Ew])) ?_;refine wk 2 ?_;refine ax 49 (CW Tryz.func102 (bitsOf_ok _ (Ew _ _ _) (jp _ _ _))) ?_;refine wk 2 ?_;refine DY ⟨[_],⟨rfl,trivial⟩,?_,rfl⟩;rfl
theorem bp(op:Int)(a b:Nat)(ha:a<4294967296)(hb:b<4294967296)(ho:op=12\/op=13):APure Tryz.prog 94 [.int .i64 op,.int .u32 (a:Int),.int .u32 (b:Int)] (fun r=>r=.int .u32 (Ga op a b)):=by
 refine APure.of_body (n:=27) Ai Tryz.func94 rfl rfl ?_;refine wk 10 ?_;refine asp 10 (fun hb1=>?_) fun hb1=>?_
 .
  refine act ?_;have hb32:32<=b:=by have h:=hb1;simp at h;omega
  refine wk 4 ?_;refine DY ⟨[_],⟨rfl,trivial⟩,?_,rfl⟩;show AV.int .u32 _=_;rw[WO op hb32]
 refine acf ?_;have hb32:b<32:=by have h:=hb1;simp at h;omega
 refine wk 4 ?_;refine aq 12 (Cx Ai rfl rfl rfl rfl rfl (Ct z144q)) ?_;refine wk 8 ?_;refine AGo.loopI (γ:=Nat) (fun k=>⟨27,(Aa (Aa (Aa (Aa AZ 0 (.int .i64 op)) 2 (.int .u32 (b:Int))) 7 (.int .u64 ((shN op a k:Nat):Int))) 8 (.int .u32 (k:Int))),hNone⟩) (fun k=>k<=b) (fun k=>b-k) 0 (Sub.mk' B5 CX) (qZ1 _) ?_;intro k hk;refine wk 7 ?_;refine asp 15 (fun hb2=>?_) fun hb2=>?_
 .
  refine act ?_;have hkl:k<b:=by have h:=hb2;simp at h;omega
  have hlt:=S7 (op:=op) ha k;refine wk 8 ?_;refine asp 19 (fun hb3=>?_) fun hb3=>?_
  .
   refine wk 3 ?_;refine aq 21 (A1 (r:=.int .u64 ((2*shN op a k:Nat):Int)) rfl rfl rfl (P3 (a:=2) (b:=shN op a k) (Ct z144q))) ?_;refine aq 22 (A1 (r:=.int .u64 ((2*shN op a k%4294967296:Nat):Int)) rfl rfl rfl (F5 (a:=2*shN op a k) (b:=4294967296) Aj)) ?_;exact rv
  refine wk 3 ?_;refine aq 24 (A1 (r:=.int .u64 ((shN op a k/2:Nat):Int)) rfl rfl rfl (L2 (a:=shN op a k) (b:=2) Aj (Ct z144q))) ?_;exact rv
 refine acf ?_;obtain rfl:k=b:=by have h:=hb2;simp at h;omega
 refine wk 4 ?_;refine aq 26 (Cx Ai rfl rfl rfl rfl rfl (DQ (S7 ha _))) ?_;refine wk 2 ?_;refine DY ⟨[_],⟨rfl,trivial⟩,?_,rfl⟩;show AV.int .u32 _=_;rw[SO ha hb32 ho]
theorem Z2(ok:Bool):APure Tryz.prog 95 [.bool ok] (fun r=>r=.int .u32 (bif ok then 1 else 0)):=by
 refine APure.of_body (n:=4) Ai Tryz.func95 rfl rfl ?_;refine wk 9 ?_;refine asp 3 (fun hb1=>?_) fun hb1=>?_
 .
  refine wk 5 ?_;refine DY ⟨[_],⟨rfl,trivial⟩,?_,rfl⟩;show AV.int .u32 _=_;simp[*]
 refine wk 6 ?_;refine DY ⟨[_],⟨rfl,trivial⟩,?_,rfl⟩;show AV.int .u32 _=_;simp[*]
theorem XC(op:Int)(a b:Nat)(ha:a<4294967296)(hb:b<4294967296):APure Tryz.prog 72 [.int .i64 op,.int .u32 (a:Int),.int .u32 (b:Int)] (fun r=>r=YX (wapp op a b)):=by
 refine APure.of_body (n:=80) Ai Tryz.func72 rfl rfl ?_;refine wk 8 ?_;refine aq 11 (Cx Ai rfl rfl rfl rfl rfl (Ct z144q)) ?_;refine wk 1 ?_;refine aq 13 (Cx Ai rfl rfl rfl rfl rfl (Ct z144q)) ?_;refine wk 14 ?_;refine asp 15 (fun hb1=>?_) fun hb1=>?_
 .
  refine act ?_;obtain rfl:op=4:=by simpa using hb1
  refine wk 4 ?_;refine aq 19 (A1 (r:=.int .u64 ((a+b:Nat):Int)) rfl rfl rfl (H9 (Ct z144q))) ?_;refine aq 20 (A1 (r:=.int .u64 (((a+b)%4294967296:Nat):Int)) rfl rfl rfl (F5 (a:=a+b) (b:=4294967296) Aj)) ?_;refine aq 21 (Cx Ai rfl rfl rfl rfl rfl (DQ (Nat.mod_lt _ Aj))) ?_;refine wk 4 ?_;refine⟨[_,_],⟨rfl,rfl,trivial⟩,?_,rfl⟩;show AV.tup _=_;rw[eQ];rfl
 refine wk 6 ?_;refine asp 22 (fun hb2=>?_) fun hb2=>?_
 .
  refine act ?_;obtain rfl:op=5:=by simpa using hb2
  refine wk 3 ?_;refine aq 25 (A1 (r:=.int .u64 ((a+4294967296:Nat):Int)) rfl rfl rfl (H9 (b:=4294967296) (Ct z144q))) ?_;refine wk 1 ?_;refine aq 27 (A1 (r:=.int .u64 ((a+4294967296-b:Nat):Int)) rfl rfl rfl (iW z144q (Ct z144q))) ?_;refine aq 28 (A1 (r:=.int .u64 (((a+4294967296-b)%4294967296:Nat):Int)) rfl rfl rfl (F5 (a:=a+4294967296-b) (b:=4294967296) Aj)) ?_;refine aq 29 (Cx Ai rfl rfl rfl rfl rfl (DQ (Nat.mod_lt _ Aj))) ?_;refine wk 4 ?_;refine⟨[_,_],⟨rfl,rfl,trivial⟩,?_,rfl⟩;show AV.tup _=_;rw[eL hb];rfl
 refine wk 6 ?_;refine asp 30 (fun hb3=>?_) fun hb3=>?_
 .
  refine act ?_;obtain rfl:op=6:=by simpa using hb3
  have hab:a*b<18446744073709551616:=by have:=Nat.mul_lt_mul'' ha hb;omega
  refine wk 4 ?_;refine aq 34 (A1 (r:=.int .u64 ((a*b:Nat):Int)) rfl rfl rfl (P3 (Ct hab))) ?_;refine aq 35 (A1 (r:=.int .u64 ((a*b%4294967296:Nat):Int)) rfl rfl rfl (F5 (a:=a*b) (b:=4294967296) Aj)) ?_;refine aq 36 (Cx Ai rfl rfl rfl rfl rfl (DQ (Nat.mod_lt _ Aj))) ?_;refine wk 4 ?_;refine⟨[_,_],⟨rfl,rfl,trivial⟩,?_,rfl⟩;show AV.tup _=_;rw[eM];rfl
 refine wk 6 ?_;refine asp 37 (fun hb4=>?_) fun hb4=>?_
 .
  refine act ?_;obtain rfl:op=7:=by simpa using hb4
  refine wk 6 ?_;refine asp 40 (fun hb5=>?_) fun hb5=>?_
  .
   refine act ?_;obtain rfl:b=0:=by have h:=hb5;simp at h;omega
   exact nC
  refine acf ?_;have hb0:¬b=0:=by have h:=hb5;simp at h;omega
  have hda:=Nat.div_le_self a b;refine wk 5 ?_;refine aq 43 (A1 (r:=.int .u64 ((a/b:Nat):Int)) rfl rfl rfl (L2 (Nat.pos_of_ne_zero hb0) (Ct z144q))) ?_;refine aq 44 (Cx Ai rfl rfl rfl rfl rfl (DQ z144q)) ?_;refine wk 4 ?_;refine⟨[_,_],⟨rfl,rfl,trivial⟩,?_,rfl⟩;show AV.tup _=_;rw[eP ha hb0];rfl
 refine wk 6 ?_;refine asp 45 (fun hb6=>?_) fun hb6=>?_
 .
  refine act ?_;obtain rfl:op=8:=by simpa using hb6
  refine wk 6 ?_;refine asp 48 (fun hb7=>?_) fun hb7=>?_
  .
   refine act ?_;obtain rfl:b=0:=by have h:=hb7;simp at h;omega
   exact nC
  refine acf ?_;have hb0:¬b=0:=by have h:=hb7;simp at h;omega
  have hma:=Nat.mod_lt a (Nat.pos_of_ne_zero hb0);refine wk 5 ?_;refine aq 51 (A1 (r:=.int .u64 ((a%b:Nat):Int)) rfl rfl rfl (F5 (Nat.pos_of_ne_zero hb0))) ?_;refine aq 52 (Cx Ai rfl rfl rfl rfl rfl (DQ z144q)) ?_;refine wk 4 ?_;refine⟨[_,_],⟨rfl,rfl,trivial⟩,?_,rfl⟩;show AV.tup _=_;rw[eN hb0];rfl
 refine wk 7 ?_;refine asp 53 (fun hb8=>?_) fun hb8=>?_
 .
  refine wk 5 ?_;exact pc
 refine wk 6 ?_;refine asp 53 (fun hb9=>?_) fun hb9=>?_
 .
  refine wk 5 ?_;exact pc
 refine wk 5 ?_;refine asp 53 (fun hb10=>?_) fun hb10=>?_
 .
  refine wk 3 ?_;exact pc
 refine wk 7 ?_;refine asp 61 (fun hb11=>?_) fun hb11=>?_
 .
  refine wk 5 ?_;exact n3
 refine wk 5 ?_;refine asp 61 (fun hb12=>?_) fun hb12=>?_
 .
  refine wk 3 ?_;exact n3
 refine wk 6 ?_;refine asp 68 (fun hb13=>?_) fun hb13=>?_
 .
  refine act ?_;obtain rfl:op=14:=by simpa using hb13
  refine wk 5 ?_;refine ax 73 (CW Tryz.func95 (Z2 _)) ?_;refine wk 4 ?_;refine⟨[_,_],⟨rfl,rfl,trivial⟩,?_,rfl⟩;show AV.tup _=_;rw[kv];rfl
 refine wk 6 ?_;refine asp 74 (fun hb14=>?_) fun hb14=>?_
 .
  refine act ?_;obtain rfl:op=15:=by simpa using hb14
  refine wk 5 ?_;refine ax 79 (CW Tryz.func95 (Z2 _)) ?_;refine wk 4 ?_;refine⟨[_,_],⟨rfl,rfl,trivial⟩,?_,rfl⟩;show AV.tup _=_;rw[kx];rfl
 refine wk 8 ?_;exact K2
theorem Rm(op a b:Int)(ha:Gp a)(hb:Gp b):APure Tryz.prog 72 [.int .i64 op,.int .u32 a,.int .u32 b] (fun r=>r=YX (wapp op a b)):=by
 obtain⟨n,rfl⟩:=Int.eq_ofNat_of_zero_le ha.1;obtain⟨m,rfl⟩:=Int.eq_ofNat_of_zero_le hb.1;exact XC op n m (by have:=ha.2;omega) (by have:=hb.2;omega)
theorem Ed(R m:Nat)(w:RW)(h:ROk R m w)(hm:m<=90000)(e:REff):ACall Tryz.prog 100 [.ptr 8 1 0 0,.agg e.cells] (wH 8 7 11 hNew w) (fun r h'=>r=.int .i64 (w.out.length:Int)/\HSub (wH 8 7 11 hNone ((w.eff e))) h'):=by
 have hel:=h.el;refine ACall.of_body (n:=21) Ai Tryz.func100 rfl rfl ?_;refine HG ?_;refine ax 3 (D4 6 12) ?_;refine wk 10 ?_;refine dx 11 (BU Ai rfl rfl rfl rfl rfl rfl Aj rfl rfl rfl rfl rfl rfl) ?_;refine dx 12 (o_append1J Ai (b:=11) (es:=((w.out).map REff.cells)) rfl rfl rfl rfl rfl rfl rfl rfl rfl rfl rfl (q68 _) (fW _) (Zx _) rfl rfl (by rw[q76];show _*48<=_;omega) j6) ?_;refine wk 2 ?_;refine DOps.w rfl rfl (CQ Ai rfl rfl rfl rfl rfl rfl rfl rfl rfl (B1 _ _) Aj (Cj _ _) D9) ?_;refine wk 7 ?_;refine aq 19 (DD Ai rfl rfl rfl rfl) ?_;refine aq 20 (A1 (r:=.int .i64 (w.out.length:Int)) rfl rfl rfl (fq SJ SJ SJ)) ?_;refine wk 3 ?_;refine⟨[_],⟨rfl,trivial⟩,rfl,?_⟩;exact(HSub.put (HSub.put (HSub.put (HSub.put (HSub.put (HSub.none _) rfl) rfl) (by show _=some (AObj.row false 4 [[.ptr 4 1 0 0,A6 7 (Bb w.regs),A6 11 ((w.out++[e]).map REff.cells),.int .i64 w.time]]);rw[q77];rfl)) rfl) rY)
theorem Zy(w:RW)(t:Tac):w.bin t=⟨(Bs w.L (C4 w t)).2,A5 w.regs t.d (Bs w.L (C4 w t)).1,(w.div t).out,w.time⟩:=by
 exact nr
theorem fY(R m:Nat)(w:RW)(h:ROk R m w)(hm:m<=90000)(t:Tac)(hd:0<=t.d/\t.d<R)(ha:0<=t.a/\t.a<R)(hb:0<=t.b/\t.b<R):ACall Tryz.prog 99 [.ptr 8 1 0 0,.agg t.cells] (wH 8 7 11 hNew w) (fun r h'=>r=.tup []/\HSub (wH 8 7 11 hNone ((w.bin t))) h'):=by
 have hel:=h.el;have hkl:=h.kl;have hxd:=h.at hd;have hxa:=h.at ha;have hxb:=h.at hb;refine ACall.of_body (n:=120) Ai Tryz.func99 rfl rfl ?_;refine HG ?_;refine ax 3 (D4 8 12) ?_;refine wk 9 ?_;refine dq 19 (AR Ai rfl rfl rfl rfl rfl rfl rfl rfl hxa.1 hxa.2.2.1) ?_;refine dq 20 (Ar Ai rfl rfl rfl (ptsJ rfl (BQ ⟨hxa.1,hxa.2.1⟩)) rfl) ?_;refine wk 6 ?_;refine dq 27 (AR Ai rfl rfl rfl rfl rfl rfl rfl rfl hxb.1 hxb.2.2.1) ?_;refine dq 28 (Ar Ai rfl rfl rfl (ptsJ rfl (BQ ⟨hxb.1,hxb.2.1⟩)) rfl) ?_;refine wk 10 ?_;refine ax 35 (GU (JR w.L (rget w.regs t.a) hxa.2.2.2) [9,4] [(4,(.row false 1 [[A6 9 ((w.L).map RVal.cells)]])),(9,(By 9 ((w.L).map RVal.cells)))] rfl Tryz.func109 AF rfl rfl rfl ⟨⟨_,rfl,z60q⟩,⟨_,rfl,z60q⟩,trivial⟩ rfl (Ac rfl (Ac rfl (AE _))) ⟨⟨_,rfl,rfl,z60q⟩,⟨_,rfl,rfl,z60q⟩,trivial⟩ rfl) ?_;refine wk 13 ?_;refine ax 44 (GU (JR w.L (rget w.regs t.b) hxb.2.2.2) [9,4] [(4,(.row false 1 [[A6 9 ((w.L).map RVal.cells)]])),(9,(By 9 ((w.L).map RVal.cells)))] rfl Tryz.func109 AF rfl rfl rfl ⟨⟨_,rfl,z60q⟩,⟨_,rfl,z60q⟩,trivial⟩ rfl (Ac rfl (Ac rfl (AE _))) ⟨⟨_,rfl,rfl,z60q⟩,⟨_,rfl,rfl,z60q⟩,trivial⟩ rfl) ?_
 refine wk 7 ?_;refine AGo.join (γ:=Unit) (fun _u=>⟨120,(Aa (Aa (Aa (Aa (Aa (Aa (Aa (Aa (Aa AZ 0 (.ptr 8 1 0 0)) 3 (.ptr 12 1 0 0)) 4 (.int .i64 (rget w.regs t.a))) 5 (.int .i64 (rget w.regs t.b))) 6 (.int .u32 (Bu w.L (rget w.regs t.a)).1)) 8 (.int .u32 (Bu w.L (rget w.regs t.b)).1)) 7 (.bool (Bu w.L (rget w.regs t.a)).2)) 9 (.bool (Bu w.L (rget w.regs t.b)).2)) 10 (.bool (rrisky w t))),(wH 8 7 11 (hput (Bc 13) 12 (.row false 8 [t.cells])) w)⟩) (fun _u=>True) ?_ ?_
 .
  exact rd
 intro _u _;refine wk 5 ?_;refine asp 63 (fun hb5=>?_) fun hb5=>?_
 .
  refine act ?_;have hr:rrisky w t=true:=hb5;refine wk 9 ?_;refine ax 72 (GU (Ed R m w h z144q ⟨t.op,t.k,0,0,(rget w.regs t.a),(rget w.regs t.b)⟩) [11,7,8,9,4] [(4,(.row false 1 [[A6 9 ((((w).eff ⟨t.op,t.k,0,0,(rget w.regs t.a),(rget w.regs t.b)⟩).L).map RVal.cells)]])),(9,(By 9 ((((w).eff ⟨t.op,t.k,0,0,(rget w.regs t.a),(rget w.regs t.b)⟩).L).map RVal.cells))),(8,(.row false 4 [[.ptr 4 1 0 0,A6 7 (Bb (((w).eff ⟨t.op,t.k,0,0,(rget w.regs t.a),(rget w.regs t.b)⟩).regs)),A6 11 ((((w).eff ⟨t.op,t.k,0,0,(rget w.regs t.a),(rget w.regs t.b)⟩).out).map REff.cells),.int .i64 (((w).eff ⟨t.op,t.k,0,0,(rget w.regs t.a),(rget w.regs t.b)⟩).time)]])),(7,(By 1 (Bb (((w).eff ⟨t.op,t.k,0,0,(rget w.regs t.a),(rget w.regs t.b)⟩).regs)))),(11,(By 6 ((((w).eff ⟨t.op,t.k,0,0,(rget w.regs t.a),(rget w.regs t.b)⟩).out).map REff.cells)))] rfl Tryz.func100 AF rfl rfl rfl ⟨⟨_,rfl,z60q⟩,⟨_,rfl,z60q⟩,⟨_,rfl,z60q⟩,⟨_,rfl,z60q⟩,⟨_,rfl,z60q⟩,trivial⟩ rfl (Ac rfl (Ac rfl (Ac rfl (Ac rfl (Ac rfl (AE _)))))) ⟨⟨_,rfl,rfl,z60q⟩,⟨_,rfl,rfl,z60q⟩,⟨_,rfl,rfl,z60q⟩,⟨_,rfl,rfl,z60q⟩,⟨_,rfl,rfl,z60q⟩,trivial⟩ rfl) ?_
  refine wk 3 ?_;refine AGo.join (γ:=Unit) (fun _u=>⟨120,(Aa (Aa (Aa (Aa (Aa (Aa (Aa AZ 0 (.ptr 8 1 0 0)) 3 (.ptr 12 1 0 0)) 4 (.int .i64 (rget w.regs t.a))) 5 (.int .i64 (rget w.regs t.b))) 6 (.int .u32 (Bu w.L (rget w.regs t.a)).1)) 8 (.int .u32 (Bu w.L (rget w.regs t.b)).1)) 80 (.bool (EA w t))),(hput (hput (hput (hput (hput (hput (Bc 13) 12 (.row false 8 [t.cells])) 4 (.row false 1 [[A6 9 ((w.L).map RVal.cells)]])) 9 (By 9 ((w.L).map RVal.cells))) 8 (.row false 4 [[.ptr 4 1 0 0,A6 7 (Bb (w.regs)),A6 11 (((w.div t).out).map REff.cells),.int .i64 (w.time)]])) 7 (By 1 (Bb (w.regs)))) 11 (By 6 (((w.div t).out).map REff.cells)))⟩) (fun _u=>True) ?_ ?_
  .
   exact n4
  intro _u _;refine asp 80 (fun hb8=>?_) fun hb8=>?_
  .
   refine act ?_;have hf:EA w t=true:=hb8;exact rU
  refine acf ?_;have hf:EA w t=false:=hb8;exact rP
 refine acf ?_;have hr:rrisky w t=false:=hb5;refine wk 3 ?_;refine AGo.join (γ:=Unit) (fun _u=>⟨120,(Aa (Aa (Aa (Aa (Aa (Aa (Aa AZ 0 (.ptr 8 1 0 0)) 3 (.ptr 12 1 0 0)) 4 (.int .i64 (rget w.regs t.a))) 5 (.int .i64 (rget w.regs t.b))) 6 (.int .u32 (Bu w.L (rget w.regs t.a)).1)) 8 (.int .u32 (Bu w.L (rget w.regs t.b)).1)) 80 (.bool (EA w t))),(hput (hput (hput (hput (hput (hput (Bc 13) 12 (.row false 8 [t.cells])) 4 (.row false 1 [[A6 9 ((w.L).map RVal.cells)]])) 9 (By 9 ((w.L).map RVal.cells))) 8 (.row false 4 [[.ptr 4 1 0 0,A6 7 (Bb (w.regs)),A6 11 (((w.div t).out).map REff.cells),.int .i64 (w.time)]])) 7 (By 1 (Bb (w.regs)))) 11 (By 6 (((w.div t).out).map REff.cells)))⟩) (fun _u=>True) ?_ ?_
 .
  exact nZ
 intro _u _;refine asp 80 (fun hb11=>?_) fun hb11=>?_
 .
  refine act ?_;have hf:EA w t=true:=hb11;exact rU
 refine acf ?_;have hf:EA w t=false:=hb11;exact rP
theorem bl(R m:Nat)(w:RW)(h:ROk R m w)(hm:m<=80000)(t:Tac)(ht:Nb t R):ACall Tryz.prog 92 [.ptr 8 1 0 0,.agg t.cells] (wH 8 7 11 hNew w) (fun r h'=>r=.tup []/\HSub (wH 8 7 11 hNone ((w.step t))) h'):=by
 have hel:=h.el;have hkl:=h.kl;have htl:=h.tl;refine ACall.of_body (n:=209) Ai Tryz.func92 rfl rfl ?_;refine HG ?_;refine ax 3 (D4 8 12) ?_;refine wk 12 ?_;refine asp 22 (fun hb1=>?_) fun hb1=>?_
 .
  refine act ?_;have ho:t.op=1:=by simpa using hb1
  have hxd:=h.at (ht.d BI);refine wk 14 ?_;refine dx 37 (GU (ER w.L z144q ⟨1,0,0,0,0,0,0,0,t.n⟩) [9,4] [(4,(.row false 1 [[A6 9 (((Bs w.L ⟨1,0,0,0,0,0,0,0,t.n⟩).2).map RVal.cells)]])),(9,(By 9 (((Bs w.L ⟨1,0,0,0,0,0,0,0,t.n⟩).2).map RVal.cells)))] rfl Tryz.func70 AF rfl rfl rfl ⟨⟨_,rfl,z60q⟩,⟨_,rfl,z60q⟩,trivial⟩ rfl (Ac rfl (Ac rfl (AE _))) ⟨⟨_,rfl,rfl,z60q⟩,⟨_,rfl,rfl,z60q⟩,trivial⟩ rfl) ?_;refine dq 38 (AR Ai rfl rfl rfl rfl rfl rfl rfl rfl hxd.1 hxd.2.2.1) ?_;refine DOps.w rfl rfl (C5 Ai rfl rfl rfl rfl rfl rfl rfl K3 (Cz _) rfl rfl rfl) ?_;refine wk 1 ?_;refine⟨[],trivial,rfl,?_⟩;rw[Xr ho];exact pf
 refine wk 6 ?_;refine asp 39 (fun hb2=>?_) fun hb2=>?_
 .
  refine act ?_;have ho:t.op=2:=by simpa using hb2
  have hxd:=h.at (ht.d BI);have hxa:=h.at (ht.a (.inl BI));refine wk 13 ?_;refine dq 53 (AR Ai rfl rfl rfl rfl rfl rfl rfl rfl hxa.1 hxa.2.2.1) ?_;refine dq 54 (Ar Ai rfl rfl rfl (ptsJ rfl (BQ ⟨hxa.1,hxa.2.1⟩)) rfl) ?_;refine dq 55 (AR Ai rfl rfl rfl rfl rfl rfl rfl rfl hxd.1 hxd.2.2.1) ?_;refine DOps.w rfl rfl (C5 Ai rfl rfl rfl rfl rfl rfl rfl K3 (Cz _) rfl rfl rfl) ?_;refine wk 1 ?_;refine⟨[],trivial,rfl,?_⟩;rw[Xq ho];exact pf
 refine wk 6 ?_;refine asp 56 (fun hb3=>?_) fun hb3=>?_
 .
  refine act ?_;have ho:t.op=3:=by simpa using hb3
  refine wk 3 ?_;refine ax 60 (GU (fY R m w h z144q t (ht.d BI) (ht.a (.inr BI)) (ht.b BI)) [11,7,8,9,4] [(4,(.row false 1 [[A6 9 ((((w.bin t)).L).map RVal.cells)]])),(9,(By 9 ((((w.bin t)).L).map RVal.cells))),(8,(.row false 4 [[.ptr 4 1 0 0,A6 7 (Bb (((w.bin t)).regs)),A6 11 ((((w.bin t)).out).map REff.cells),.int .i64 (((w.bin t)).time)]])),(7,(By 1 (Bb (((w.bin t)).regs)))),(11,(By 6 ((((w.bin t)).out).map REff.cells)))] rfl Tryz.func99 AF rfl rfl rfl ⟨⟨_,rfl,z60q⟩,⟨_,rfl,z60q⟩,⟨_,rfl,z60q⟩,⟨_,rfl,z60q⟩,⟨_,rfl,z60q⟩,trivial⟩ rfl (Ac rfl (Ac rfl (Ac rfl (Ac rfl (Ac rfl (AE _)))))) ⟨⟨_,rfl,rfl,z60q⟩,⟨_,rfl,rfl,z60q⟩,⟨_,rfl,rfl,z60q⟩,⟨_,rfl,rfl,z60q⟩,⟨_,rfl,rfl,z60q⟩,trivial⟩ rfl) ?_;refine an ?_;refine⟨[],trivial,rfl,?_⟩;rw[Xp ho];exact Uh
 refine wk 6 ?_;refine asp 61 (fun hb4=>?_) fun hb4=>?_
 .
  refine act ?_;have ho:t.op=4:=by simpa using hb4
  have hxd:=h.at (ht.d BI);refine wk 18 ?_;refine dx 80 (GU (ER w.L z144q ⟨4,0,0,0,0,0,t.base,w.time,0⟩) [9,4] [(4,(.row false 1 [[A6 9 (((Bs w.L ⟨4,0,0,0,0,0,t.base,w.time,0⟩).2).map RVal.cells)]])),(9,(By 9 (((Bs w.L ⟨4,0,0,0,0,0,t.base,w.time,0⟩).2).map RVal.cells)))] rfl Tryz.func70 AF rfl rfl rfl ⟨⟨_,rfl,z60q⟩,⟨_,rfl,z60q⟩,trivial⟩ rfl (Ac rfl (Ac rfl (AE _))) ⟨⟨_,rfl,rfl,z60q⟩,⟨_,rfl,rfl,z60q⟩,trivial⟩ rfl) ?_;refine dq 81 (AR Ai rfl rfl rfl rfl rfl rfl rfl rfl hxd.1 hxd.2.2.1) ?_;refine DOps.w rfl rfl (C5 Ai rfl rfl rfl rfl rfl rfl rfl K3 (Cz _) rfl rfl rfl) ?_;refine wk 1 ?_;refine⟨[],trivial,rfl,?_⟩;rw[Xo ho];exact pf
 refine wk 6 ?_;refine asp 82 (fun hb5=>?_) fun hb5=>?_
 .
  refine act ?_;have ho:t.op=5:=by simpa using hb5
  have hxa:=h.at (ht.a (.inl BI));refine wk 13 ?_;refine dq 95 (AR Ai rfl rfl rfl rfl rfl rfl rfl rfl hxa.1 hxa.2.2.1) ?_;refine dq 96 (Ar Ai rfl rfl rfl (ptsJ rfl (BQ ⟨hxa.1,hxa.2.1⟩)) rfl) ?_;refine wk 1 ?_;refine dx 98 (GU (Ed R m w h z144q ⟨t.op,0,t.base,0,(rget w.regs t.a),0⟩) [11,7,8,9,4] [(4,(.row false 1 [[A6 9 ((((w).eff ⟨t.op,0,t.base,0,(rget w.regs t.a),0⟩).L).map RVal.cells)]])),(9,(By 9 ((((w).eff ⟨t.op,0,t.base,0,(rget w.regs t.a),0⟩).L).map RVal.cells))),(8,(.row false 4 [[.ptr 4 1 0 0,A6 7 (Bb (((w).eff ⟨t.op,0,t.base,0,(rget w.regs t.a),0⟩).regs)),A6 11 ((((w).eff ⟨t.op,0,t.base,0,(rget w.regs t.a),0⟩).out).map REff.cells),.int .i64 (((w).eff ⟨t.op,0,t.base,0,(rget w.regs t.a),0⟩).time)]])),(7,(By 1 (Bb (((w).eff ⟨t.op,0,t.base,0,(rget w.regs t.a),0⟩).regs)))),(11,(By 6 ((((w).eff ⟨t.op,0,t.base,0,(rget w.regs t.a),0⟩).out).map REff.cells)))] rfl Tryz.func100 AF rfl rfl rfl ⟨⟨_,rfl,z60q⟩,⟨_,rfl,z60q⟩,⟨_,rfl,z60q⟩,⟨_,rfl,z60q⟩,⟨_,rfl,z60q⟩,trivial⟩ rfl (Ac rfl (Ac rfl (Ac rfl (Ac rfl (Ac rfl (AE _)))))) ⟨⟨_,rfl,rfl,z60q⟩,⟨_,rfl,rfl,z60q⟩,⟨_,rfl,rfl,z60q⟩,⟨_,rfl,rfl,z60q⟩,⟨_,rfl,rfl,z60q⟩,trivial⟩ rfl) ?_
  exact nQ
 refine wk 6 ?_;refine asp 106 (fun hb6=>?_) fun hb6=>?_
 .
  refine act ?_;have ho:t.op=6:=by simpa using hb6
  have hxd:=h.at (ht.d BI);have hxa:=h.at (ht.a (.inl BI));refine wk 15 ?_;refine dq 121 (AR Ai rfl rfl rfl rfl rfl rfl rfl rfl hxa.1 hxa.2.2.1) ?_;refine dq 122 (Ar Ai rfl rfl rfl (ptsJ rfl (BQ ⟨hxa.1,hxa.2.1⟩)) rfl) ?_;refine wk 1 ?_;refine dx 124 (GU (Ed R m w h z144q ⟨t.op,0,t.base,t.size,(rget w.regs t.a),0⟩) [11,7,8,9,4] [(4,(.row false 1 [[A6 9 ((((w).eff ⟨t.op,0,t.base,t.size,(rget w.regs t.a),0⟩).L).map RVal.cells)]])),(9,(By 9 ((((w).eff ⟨t.op,0,t.base,t.size,(rget w.regs t.a),0⟩).L).map RVal.cells))),(8,(.row false 4 [[.ptr 4 1 0 0,A6 7 (Bb (((w).eff ⟨t.op,0,t.base,t.size,(rget w.regs t.a),0⟩).regs)),A6 11 ((((w).eff ⟨t.op,0,t.base,t.size,(rget w.regs t.a),0⟩).out).map REff.cells),.int .i64 (((w).eff ⟨t.op,0,t.base,t.size,(rget w.regs t.a),0⟩).time)]])),(7,(By 1 (Bb (((w).eff ⟨t.op,0,t.base,t.size,(rget w.regs t.a),0⟩).regs)))),(11,(By 6 ((((w).eff ⟨t.op,0,t.base,t.size,(rget w.regs t.a),0⟩).out).map REff.cells)))] rfl Tryz.func100 AF rfl rfl rfl ⟨⟨_,rfl,z60q⟩,⟨_,rfl,z60q⟩,⟨_,rfl,z60q⟩,⟨_,rfl,z60q⟩,⟨_,rfl,z60q⟩,trivial⟩ rfl (Ac rfl (Ac rfl (Ac rfl (Ac rfl (Ac rfl (AE _)))))) ⟨⟨_,rfl,rfl,z60q⟩,⟨_,rfl,rfl,z60q⟩,⟨_,rfl,rfl,z60q⟩,⟨_,rfl,rfl,z60q⟩,⟨_,rfl,rfl,z60q⟩,trivial⟩ rfl) ?_
  refine wk 15 ?_;refine dx 137 (GU (ER w.L z144q (E9 w.out.length)) [9,4] [(4,(.row false 1 [[A6 9 (((Bs w.L (E9 w.out.length)).2).map RVal.cells)]])),(9,(By 9 (((Bs w.L (E9 w.out.length)).2).map RVal.cells)))] rfl Tryz.func70 AF rfl rfl rfl ⟨⟨_,rfl,z60q⟩,⟨_,rfl,z60q⟩,trivial⟩ rfl (Ac rfl (Ac rfl (AE _))) ⟨⟨_,rfl,rfl,z60q⟩,⟨_,rfl,rfl,z60q⟩,trivial⟩ rfl) ?_;refine dq 138 (AR Ai rfl rfl rfl rfl rfl rfl rfl rfl hxd.1 hxd.2.2.1) ?_;refine DOps.w rfl rfl (C5 Ai rfl rfl rfl rfl rfl rfl rfl K3 (Cz _) rfl rfl rfl) ?_;refine wk 1 ?_;refine⟨[],trivial,rfl,?_⟩;rw[Xn ho];exact(HSub.put (HSub.put (HSub.put (HSub.put (HSub.put (HSub.none _) rfl) rfl) (by show _=some (AObj.row false 4 [[.ptr 4 1 0 0,A6 7 (Bb (A5 w.regs t.d _)),A6 11 ((w.eff ⟨t.op,0,t.base,t.size,(rget w.regs t.a),0⟩).out.map REff.cells),.int .i64 w.time]]);rw[FU];rfl)) QC) rfl)
 refine wk 6 ?_;refine asp 139 (fun hb7=>?_) fun hb7=>?_
 .
  refine act ?_;have ho:t.op=7:=by simpa using hb7
  have hxa:=h.at (ht.a (.inr BI));have hxb:=h.at (ht.b BI);refine wk 15 ?_;refine dq 154 (AR Ai rfl rfl rfl rfl rfl rfl rfl rfl hxa.1 hxa.2.2.1) ?_;refine dq 155 (Ar Ai rfl rfl rfl (ptsJ rfl (BQ ⟨hxa.1,hxa.2.1⟩)) rfl) ?_;refine wk 6 ?_;refine dq 162 (AR Ai rfl rfl rfl rfl rfl rfl rfl rfl hxb.1 hxb.2.2.1) ?_;refine dq 163 (Ar Ai rfl rfl rfl (ptsJ rfl (BQ ⟨hxb.1,hxb.2.1⟩)) rfl) ?_;refine wk 1 ?_;refine dx 165 (GU (Ed R m w h z144q ⟨t.op,0,t.base,t.size,(rget w.regs t.a),(rget w.regs t.b)⟩) [11,7,8,9,4] [(4,(.row false 1 [[A6 9 ((((w).eff ⟨t.op,0,t.base,t.size,(rget w.regs t.a),(rget w.regs t.b)⟩).L).map RVal.cells)]])),(9,(By 9 ((((w).eff ⟨t.op,0,t.base,t.size,(rget w.regs t.a),(rget w.regs t.b)⟩).L).map RVal.cells))),(8,(.row false 4 [[.ptr 4 1 0 0,A6 7 (Bb (((w).eff ⟨t.op,0,t.base,t.size,(rget w.regs t.a),(rget w.regs t.b)⟩).regs)),A6 11 ((((w).eff ⟨t.op,0,t.base,t.size,(rget w.regs t.a),(rget w.regs t.b)⟩).out).map REff.cells),.int .i64 (((w).eff ⟨t.op,0,t.base,t.size,(rget w.regs t.a),(rget w.regs t.b)⟩).time)]])),(7,(By 1 (Bb (((w).eff ⟨t.op,0,t.base,t.size,(rget w.regs t.a),(rget w.regs t.b)⟩).regs)))),(11,(By 6 ((((w).eff ⟨t.op,0,t.base,t.size,(rget w.regs t.a),(rget w.regs t.b)⟩).out).map REff.cells)))] rfl Tryz.func100 AF rfl rfl rfl ⟨⟨_,rfl,z60q⟩,⟨_,rfl,z60q⟩,⟨_,rfl,z60q⟩,⟨_,rfl,z60q⟩,⟨_,rfl,z60q⟩,trivial⟩ rfl (Ac rfl (Ac rfl (Ac rfl (Ac rfl (Ac rfl (AE _)))))) ⟨⟨_,rfl,rfl,z60q⟩,⟨_,rfl,rfl,z60q⟩,⟨_,rfl,rfl,z60q⟩,⟨_,rfl,rfl,z60q⟩,⟨_,rfl,rfl,z60q⟩,trivial⟩ rfl) ?_
  exact nP
 refine wk 6 ?_;refine asp 173 (fun hb8=>?_) fun hb8=>?_
 .
  refine act ?_;have ho:t.op=8:=by simpa using hb8
  have hxd:=h.at (ht.d BI);refine wk 6 ?_;refine ax 179 (GU (Ed R m w h z144q ⟨t.op,0,0,0,0,0⟩) [11,7,8,9,4] [(4,(.row false 1 [[A6 9 ((((w).eff ⟨t.op,0,0,0,0,0⟩).L).map RVal.cells)]])),(9,(By 9 ((((w).eff ⟨t.op,0,0,0,0,0⟩).L).map RVal.cells))),(8,(.row false 4 [[.ptr 4 1 0 0,A6 7 (Bb (((w).eff ⟨t.op,0,0,0,0,0⟩).regs)),A6 11 ((((w).eff ⟨t.op,0,0,0,0,0⟩).out).map REff.cells),.int .i64 (((w).eff ⟨t.op,0,0,0,0,0⟩).time)]])),(7,(By 1 (Bb (((w).eff ⟨t.op,0,0,0,0,0⟩).regs)))),(11,(By 6 ((((w).eff ⟨t.op,0,0,0,0,0⟩).out).map REff.cells)))] rfl Tryz.func100 AF rfl rfl rfl ⟨⟨_,rfl,z60q⟩,⟨_,rfl,z60q⟩,⟨_,rfl,z60q⟩,⟨_,rfl,z60q⟩,⟨_,rfl,z60q⟩,trivial⟩ rfl (Ac rfl (Ac rfl (Ac rfl (Ac rfl (Ac rfl (AE _)))))) ⟨⟨_,rfl,rfl,z60q⟩,⟨_,rfl,rfl,z60q⟩,⟨_,rfl,rfl,z60q⟩,⟨_,rfl,rfl,z60q⟩,⟨_,rfl,rfl,z60q⟩,trivial⟩ rfl) ?_;refine wk 15 ?_;refine dx 192 (GU (ER w.L z144q (E9 w.out.length)) [9,4] [(4,(.row false 1 [[A6 9 (((Bs w.L (E9 w.out.length)).2).map RVal.cells)]])),(9,(By 9 (((Bs w.L (E9 w.out.length)).2).map RVal.cells)))] rfl Tryz.func70 AF rfl rfl rfl ⟨⟨_,rfl,z60q⟩,⟨_,rfl,z60q⟩,trivial⟩ rfl (Ac rfl (Ac rfl (AE _))) ⟨⟨_,rfl,rfl,z60q⟩,⟨_,rfl,rfl,z60q⟩,trivial⟩ rfl) ?_;refine dq 193 (AR Ai rfl rfl rfl rfl rfl rfl rfl rfl hxd.1 hxd.2.2.1) ?_;refine DOps.w rfl rfl (C5 Ai rfl rfl rfl rfl rfl rfl rfl K3 (Cz _) rfl rfl rfl) ?_;refine wk 1 ?_;refine⟨[],trivial,rfl,?_⟩
  rw[Xm ho];exact(HSub.put (HSub.put (HSub.put (HSub.put (HSub.put (HSub.none _) rfl) rfl) (by show _=some (AObj.row false 4 [[.ptr 4 1 0 0,A6 7 (Bb (A5 w.regs t.d _)),A6 11 ((w.eff ⟨t.op,0,0,0,0,0⟩).out.map REff.cells),.int .i64 w.time]]);rw[FU];rfl)) QC) rfl)
 refine wk 6 ?_;refine asp 194 (fun hb9=>?_) fun hb9=>?_
 .
  refine act ?_;have ho:t.op=9:=by simpa using hb9
  have hxa:=h.at (ht.a (.inl BI));refine wk 10 ?_;refine dq 205 (AR Ai rfl rfl rfl rfl rfl rfl rfl rfl hxa.1 hxa.2.2.1) ?_;refine dq 206 (Ar Ai rfl rfl rfl (ptsJ rfl (BQ ⟨hxa.1,hxa.2.1⟩)) rfl) ?_;refine wk 1 ?_;refine dx 208 (GU (Ed R m w h z144q ⟨t.op,0,0,0,(rget w.regs t.a),0⟩) [11,7,8,9,4] [(4,(.row false 1 [[A6 9 ((((w).eff ⟨t.op,0,0,0,(rget w.regs t.a),0⟩).L).map RVal.cells)]])),(9,(By 9 ((((w).eff ⟨t.op,0,0,0,(rget w.regs t.a),0⟩).L).map RVal.cells))),(8,(.row false 4 [[.ptr 4 1 0 0,A6 7 (Bb (((w).eff ⟨t.op,0,0,0,(rget w.regs t.a),0⟩).regs)),A6 11 ((((w).eff ⟨t.op,0,0,0,(rget w.regs t.a),0⟩).out).map REff.cells),.int .i64 (((w).eff ⟨t.op,0,0,0,(rget w.regs t.a),0⟩).time)]])),(7,(By 1 (Bb (((w).eff ⟨t.op,0,0,0,(rget w.regs t.a),0⟩).regs)))),(11,(By 6 ((((w).eff ⟨t.op,0,0,0,(rget w.regs t.a),0⟩).out).map REff.cells)))] rfl Tryz.func100 AF rfl rfl rfl ⟨⟨_,rfl,z60q⟩,⟨_,rfl,z60q⟩,⟨_,rfl,z60q⟩,⟨_,rfl,z60q⟩,⟨_,rfl,z60q⟩,trivial⟩ rfl (Ac rfl (Ac rfl (Ac rfl (Ac rfl (Ac rfl (AE _)))))) ⟨⟨_,rfl,rfl,z60q⟩,⟨_,rfl,rfl,z60q⟩,⟨_,rfl,rfl,z60q⟩,⟨_,rfl,rfl,z60q⟩,⟨_,rfl,rfl,z60q⟩,trivial⟩ rfl) ?_
  refine wk 1 ?_;refine⟨[],trivial,rfl,?_⟩;rw[Xl ho];exact Uh
 refine wk 9 ?_;refine ax 14 (GU (Ed R m w h z144q ⟨t.op,0,t.base,0,0,0⟩) [11,7,8,9,4] [(4,(.row false 1 [[A6 9 ((((w).eff ⟨t.op,0,t.base,0,0,0⟩).L).map RVal.cells)]])),(9,(By 9 ((((w).eff ⟨t.op,0,t.base,0,0,0⟩).L).map RVal.cells))),(8,(.row false 4 [[.ptr 4 1 0 0,A6 7 (Bb (((w).eff ⟨t.op,0,t.base,0,0,0⟩).regs)),A6 11 ((((w).eff ⟨t.op,0,t.base,0,0,0⟩).out).map REff.cells),.int .i64 (((w).eff ⟨t.op,0,t.base,0,0,0⟩).time)]])),(7,(By 1 (Bb (((w).eff ⟨t.op,0,t.base,0,0,0⟩).regs)))),(11,(By 6 ((((w).eff ⟨t.op,0,t.base,0,0,0⟩).out).map REff.cells)))] rfl Tryz.func100 AF rfl rfl rfl ⟨⟨_,rfl,z60q⟩,⟨_,rfl,z60q⟩,⟨_,rfl,z60q⟩,⟨_,rfl,z60q⟩,⟨_,rfl,z60q⟩,trivial⟩ rfl (Ac rfl (Ac rfl (Ac rfl (Ac rfl (Ac rfl (AE _)))))) ⟨⟨_,rfl,rfl,z60q⟩,⟨_,rfl,rfl,z60q⟩,⟨_,rfl,rfl,z60q⟩,⟨_,rfl,rfl,z60q⟩,⟨_,rfl,rfl,z60q⟩,trivial⟩ rfl) ?_
 exact nY
theorem Uz(R m:Nat)(L:List RVal)(regs:List Int)(b:Block)(h:ROk R m ⟨L,regs,[],0⟩)(hl:∀t∈b.ins,Nb t R)(hm:m+2*b.ins.length<=80000):ACall Tryz.prog 71 [.ptr 4 1 0 0,.agg b.cells,A6 7 (Bb regs)] (hput (hput (hput (hput (hput hNew 4 (.row false 1 [[A6 9 ((L).map RVal.cells)]])) 9 (By 9 ((L).map RVal.cells))) 7 (By 1 (Bb regs))) 8 .free) 11 .free) (fun r h'=>r=.ptr 8 1 0 0/\HSub (wH 8 7 11 hNone ((EG L regs b.ins))) h'):=by
 refine ACall.of_body (n:=28) Ai Tryz.func71 rfl rfl ?_;refine HG ?_;refine ax 4 (D4 5 12) ?_;refine wk 6 ?_;refine aq 11 (Lt Ai (ps:=[(0,.ptr 4 1 0 0),(1,A6 7 (Bb regs))]) (r:=[.ptr 4 1 0 0,A6 7 (Bb regs),.nil,.int .i64 0]) rfl rfl rfl rfl rfl Aj (by simp only[Fe,B1];rfl) rfl (by simp only[partCells,B1];rfl)) ?_;refine ax 12 (ZK (sz:=4) 8 rfl rfl rfl rfl (q68 _) (by simp only[AV.cells,qQ1,qX7,Cj];rfl)) ?_;refine wk 4 ?_;refine AGo.ghost (.weakRowF 8 (es':=[[.ptr 4 1 0 0,A6 7 (Bb regs),.lst true [],.int .i64 0]]) rfl rfl YY) ?_;refine wk 4 ?_;refine AK (γ:=Nat) 13 (fun k=>⟨28,(Aa (Aa (Aa AZ 4 (.ptr 12 1 0 0)) 7 (.ptr 8 1 0 0)) 8 (.int .i64 (k:Int))),(wH 8 7 11 (hput (Bc 13) 12 (.row false 5 [b.cells])) ((EG L regs (b.ins.take (k)))))⟩) (fun k=>k<=b.ins.length) (fun k=>b.ins.length-k) 0 (Sub.mk' DB CX) (qZ1 _) (fun _=>Ab (Ab (Ab (Ab (Ab (Ab (fun b hb=>Ay hb) rfl) rfl) rfl) rfl) rfl) rfl) ?_
 intro k hk;refine wk 9 ?_;refine asp 17 (fun hb1=>?_) fun hb1=>?_
 .
  refine act ?_;have hkl:k<b.ins.length:=by have h:=hb1;simp only[q76,q56]at h;omega
  obtain⟨t,ht⟩:=Af hkl;refine wk 8 ?_;refine aq 24 (Hc Ai (Aw ht)) ?_;refine wk 1 ?_;refine ax 26 (GU (bl R _ (EG L regs (b.ins.take (k))) (US h hl k) hm t (hl t (q33 ht))) [11,7,8,9,4] [(4,(.row false 1 [[A6 9 (((((EG L regs (b.ins.take (k))).step t)).L).map RVal.cells)]])),(9,(By 9 (((((EG L regs (b.ins.take (k))).step t)).L).map RVal.cells))),(8,(.row false 4 [[.ptr 4 1 0 0,A6 7 (Bb ((((EG L regs (b.ins.take (k))).step t)).regs)),A6 11 (((((EG L regs (b.ins.take (k))).step t)).out).map REff.cells),.int .i64 ((((EG L regs (b.ins.take (k))).step t)).time)]])),(7,(By 1 (Bb ((((EG L regs (b.ins.take (k))).step t)).regs)))),(11,(By 6 (((((EG L regs (b.ins.take (k))).step t)).out).map REff.cells)))] rfl Tryz.func92 AF rfl rfl rfl ⟨⟨_,rfl,z60q⟩,⟨_,rfl,z60q⟩,⟨_,rfl,z60q⟩,⟨_,rfl,z60q⟩,⟨_,rfl,z60q⟩,trivial⟩ rfl (Ac rfl (Ac rfl (Ac rfl (Ac rfl (Ac rfl (AE _)))))) ⟨⟨_,rfl,rfl,z60q⟩,⟨_,rfl,rfl,z60q⟩,⟨_,rfl,rfl,z60q⟩,⟨_,rfl,rfl,z60q⟩,⟨_,rfl,rfl,z60q⟩,trivial⟩ rfl) ?_
  exact rn
 exact nU
theorem Ee(R m:Nat)(w:RW)(h:ROk R m w)(hm:m<=90000)(e:REff):ACall Tryz.prog 100 [.ptr 6 1 0 0,.agg e.cells] (wH 6 5 10 hNew w) (fun r h'=>r=.int .i64 (w.out.length:Int)/\HSub (wH 6 5 10 hNone ((w.eff e))) h'):=by
 have hel:=h.el;refine ACall.of_body (n:=21) Ai Tryz.func100 rfl rfl ?_;refine HG ?_;refine ax 3 (D4 6 12) ?_;refine wk 10 ?_;refine dx 11 (BU Ai rfl rfl rfl rfl rfl rfl Aj rfl rfl rfl rfl rfl rfl) ?_;refine dx 12 (o_append1J Ai (b:=10) (es:=((w.out).map REff.cells)) rfl rfl rfl rfl rfl rfl rfl rfl rfl rfl rfl (q68 _) (fW _) (Zx _) rfl rfl (by rw[q76];show _*48<=_;omega) j6) ?_;refine wk 2 ?_;refine DOps.w rfl rfl (CQ Ai rfl rfl rfl rfl rfl rfl rfl rfl rfl (B1 _ _) Aj (Cj _ _) D9) ?_;refine wk 7 ?_;refine aq 19 (DD Ai rfl rfl rfl rfl) ?_;refine aq 20 (A1 (r:=.int .i64 (w.out.length:Int)) rfl rfl rfl (fq SJ SJ SJ)) ?_;refine wk 3 ?_;refine⟨[_],⟨rfl,trivial⟩,rfl,?_⟩;exact(HSub.put (HSub.put (HSub.put (HSub.put (HSub.put (HSub.none _) rfl) rfl) (by show _=some (AObj.row false 4 [[.ptr 4 1 0 0,A6 5 (Bb w.regs),A6 10 ((w.out++[e]).map REff.cells),.int .i64 w.time]]);rw[q77];rfl)) rfl) rY)
theorem Zz(w:RW)(t:Tac):w.bin t=⟨(Bs w.L (C4 w t)).2,A5 w.regs t.d (Bs w.L (C4 w t)).1,(w.div t).out,w.time⟩:=by
 exact nr
theorem fZ(R m:Nat)(w:RW)(h:ROk R m w)(hm:m<=90000)(t:Tac)(hd:0<=t.d/\t.d<R)(ha:0<=t.a/\t.a<R)(hb:0<=t.b/\t.b<R):ACall Tryz.prog 99 [.ptr 6 1 0 0,.agg t.cells] (wH 6 5 10 hNew w) (fun r h'=>r=.tup []/\HSub (wH 6 5 10 hNone ((w.bin t))) h'):=by
 have hel:=h.el;have hkl:=h.kl;have hxd:=h.at hd;have hxa:=h.at ha;have hxb:=h.at hb;refine ACall.of_body (n:=120) Ai Tryz.func99 rfl rfl ?_;refine HG ?_;refine ax 3 (D4 8 12) ?_;refine wk 9 ?_;refine dq 19 (AR Ai rfl rfl rfl rfl rfl rfl rfl rfl hxa.1 hxa.2.2.1) ?_;refine dq 20 (Ar Ai rfl rfl rfl (ptsJ rfl (BQ ⟨hxa.1,hxa.2.1⟩)) rfl) ?_;refine wk 6 ?_;refine dq 27 (AR Ai rfl rfl rfl rfl rfl rfl rfl rfl hxb.1 hxb.2.2.1) ?_;refine dq 28 (Ar Ai rfl rfl rfl (ptsJ rfl (BQ ⟨hxb.1,hxb.2.1⟩)) rfl) ?_;refine wk 10 ?_;refine ax 35 (GU (JR w.L (rget w.regs t.a) hxa.2.2.2) [9,4] [(4,(.row false 1 [[A6 9 ((w.L).map RVal.cells)]])),(9,(By 9 ((w.L).map RVal.cells)))] rfl Tryz.func109 AF rfl rfl rfl ⟨⟨_,rfl,z60q⟩,⟨_,rfl,z60q⟩,trivial⟩ rfl (Ac rfl (Ac rfl (AE _))) ⟨⟨_,rfl,rfl,z60q⟩,⟨_,rfl,rfl,z60q⟩,trivial⟩ rfl) ?_;refine wk 13 ?_;refine ax 44 (GU (JR w.L (rget w.regs t.b) hxb.2.2.2) [9,4] [(4,(.row false 1 [[A6 9 ((w.L).map RVal.cells)]])),(9,(By 9 ((w.L).map RVal.cells)))] rfl Tryz.func109 AF rfl rfl rfl ⟨⟨_,rfl,z60q⟩,⟨_,rfl,z60q⟩,trivial⟩ rfl (Ac rfl (Ac rfl (AE _))) ⟨⟨_,rfl,rfl,z60q⟩,⟨_,rfl,rfl,z60q⟩,trivial⟩ rfl) ?_
 refine wk 7 ?_;refine AGo.join (γ:=Unit) (fun _u=>⟨120,(Aa (Aa (Aa (Aa (Aa (Aa (Aa (Aa (Aa AZ 0 (.ptr 6 1 0 0)) 3 (.ptr 12 1 0 0)) 4 (.int .i64 (rget w.regs t.a))) 5 (.int .i64 (rget w.regs t.b))) 6 (.int .u32 (Bu w.L (rget w.regs t.a)).1)) 8 (.int .u32 (Bu w.L (rget w.regs t.b)).1)) 7 (.bool (Bu w.L (rget w.regs t.a)).2)) 9 (.bool (Bu w.L (rget w.regs t.b)).2)) 10 (.bool (rrisky w t))),(wH 6 5 10 (hput (Bc 13) 12 (.row false 8 [t.cells])) w)⟩) (fun _u=>True) ?_ ?_
 .
  exact rd
 intro _u _;refine wk 5 ?_;refine asp 63 (fun hb5=>?_) fun hb5=>?_
 .
  refine act ?_;have hr:rrisky w t=true:=hb5;refine wk 9 ?_;refine ax 72 (GU (Ee R m w h z144q ⟨t.op,t.k,0,0,(rget w.regs t.a),(rget w.regs t.b)⟩) [10,5,6,9,4] [(4,(.row false 1 [[A6 9 ((((w).eff ⟨t.op,t.k,0,0,(rget w.regs t.a),(rget w.regs t.b)⟩).L).map RVal.cells)]])),(9,(By 9 ((((w).eff ⟨t.op,t.k,0,0,(rget w.regs t.a),(rget w.regs t.b)⟩).L).map RVal.cells))),(6,(.row false 4 [[.ptr 4 1 0 0,A6 5 (Bb (((w).eff ⟨t.op,t.k,0,0,(rget w.regs t.a),(rget w.regs t.b)⟩).regs)),A6 10 ((((w).eff ⟨t.op,t.k,0,0,(rget w.regs t.a),(rget w.regs t.b)⟩).out).map REff.cells),.int .i64 (((w).eff ⟨t.op,t.k,0,0,(rget w.regs t.a),(rget w.regs t.b)⟩).time)]])),(5,(By 1 (Bb (((w).eff ⟨t.op,t.k,0,0,(rget w.regs t.a),(rget w.regs t.b)⟩).regs)))),(10,(By 6 ((((w).eff ⟨t.op,t.k,0,0,(rget w.regs t.a),(rget w.regs t.b)⟩).out).map REff.cells)))] rfl Tryz.func100 AF rfl rfl rfl ⟨⟨_,rfl,z60q⟩,⟨_,rfl,z60q⟩,⟨_,rfl,z60q⟩,⟨_,rfl,z60q⟩,⟨_,rfl,z60q⟩,trivial⟩ rfl (Ac rfl (Ac rfl (Ac rfl (Ac rfl (Ac rfl (AE _)))))) ⟨⟨_,rfl,rfl,z60q⟩,⟨_,rfl,rfl,z60q⟩,⟨_,rfl,rfl,z60q⟩,⟨_,rfl,rfl,z60q⟩,⟨_,rfl,rfl,z60q⟩,trivial⟩ rfl) ?_
  refine wk 3 ?_;refine AGo.join (γ:=Unit) (fun _u=>⟨120,(Aa (Aa (Aa (Aa (Aa (Aa (Aa AZ 0 (.ptr 6 1 0 0)) 3 (.ptr 12 1 0 0)) 4 (.int .i64 (rget w.regs t.a))) 5 (.int .i64 (rget w.regs t.b))) 6 (.int .u32 (Bu w.L (rget w.regs t.a)).1)) 8 (.int .u32 (Bu w.L (rget w.regs t.b)).1)) 80 (.bool (EA w t))),(hput (hput (hput (hput (hput (hput (Bc 13) 12 (.row false 8 [t.cells])) 4 (.row false 1 [[A6 9 ((w.L).map RVal.cells)]])) 9 (By 9 ((w.L).map RVal.cells))) 6 (.row false 4 [[.ptr 4 1 0 0,A6 5 (Bb (w.regs)),A6 10 (((w.div t).out).map REff.cells),.int .i64 (w.time)]])) 5 (By 1 (Bb (w.regs)))) 10 (By 6 (((w.div t).out).map REff.cells)))⟩) (fun _u=>True) ?_ ?_
  .
   exact n4
  intro _u _;refine asp 80 (fun hb8=>?_) fun hb8=>?_
  .
   refine act ?_;have hf:EA w t=true:=hb8;exact rS
  refine acf ?_;have hf:EA w t=false:=hb8;exact rO
 refine acf ?_;have hr:rrisky w t=false:=hb5;refine wk 3 ?_;refine AGo.join (γ:=Unit) (fun _u=>⟨120,(Aa (Aa (Aa (Aa (Aa (Aa (Aa AZ 0 (.ptr 6 1 0 0)) 3 (.ptr 12 1 0 0)) 4 (.int .i64 (rget w.regs t.a))) 5 (.int .i64 (rget w.regs t.b))) 6 (.int .u32 (Bu w.L (rget w.regs t.a)).1)) 8 (.int .u32 (Bu w.L (rget w.regs t.b)).1)) 80 (.bool (EA w t))),(hput (hput (hput (hput (hput (hput (Bc 13) 12 (.row false 8 [t.cells])) 4 (.row false 1 [[A6 9 ((w.L).map RVal.cells)]])) 9 (By 9 ((w.L).map RVal.cells))) 6 (.row false 4 [[.ptr 4 1 0 0,A6 5 (Bb (w.regs)),A6 10 (((w.div t).out).map REff.cells),.int .i64 (w.time)]])) 5 (By 1 (Bb (w.regs)))) 10 (By 6 (((w.div t).out).map REff.cells)))⟩) (fun _u=>True) ?_ ?_
 .
  exact nZ
 intro _u _;refine asp 80 (fun hb11=>?_) fun hb11=>?_
 .
  refine act ?_;have hf:EA w t=true:=hb11;exact rS
 refine acf ?_;have hf:EA w t=false:=hb11;exact rO
theorem bm(R m:Nat)(w:RW)(h:ROk R m w)(hm:m<=80000)(t:Tac)(ht:Nb t R):ACall Tryz.prog 92 [.ptr 6 1 0 0,.agg t.cells] (wH 6 5 10 hNew w) (fun r h'=>r=.tup []/\HSub (wH 6 5 10 hNone ((w.step t))) h'):=by
 have hel:=h.el;have hkl:=h.kl;have htl:=h.tl;refine ACall.of_body (n:=209) Ai Tryz.func92 rfl rfl ?_;refine HG ?_;refine ax 3 (D4 8 12) ?_;refine wk 12 ?_;refine asp 22 (fun hb1=>?_) fun hb1=>?_
 .
  refine act ?_;have ho:t.op=1:=by simpa using hb1
  have hxd:=h.at (ht.d BI);refine wk 14 ?_;refine dx 37 (GU (ER w.L z144q ⟨1,0,0,0,0,0,0,0,t.n⟩) [9,4] [(4,(.row false 1 [[A6 9 (((Bs w.L ⟨1,0,0,0,0,0,0,0,t.n⟩).2).map RVal.cells)]])),(9,(By 9 (((Bs w.L ⟨1,0,0,0,0,0,0,0,t.n⟩).2).map RVal.cells)))] rfl Tryz.func70 AF rfl rfl rfl ⟨⟨_,rfl,z60q⟩,⟨_,rfl,z60q⟩,trivial⟩ rfl (Ac rfl (Ac rfl (AE _))) ⟨⟨_,rfl,rfl,z60q⟩,⟨_,rfl,rfl,z60q⟩,trivial⟩ rfl) ?_;refine dq 38 (AR Ai rfl rfl rfl rfl rfl rfl rfl rfl hxd.1 hxd.2.2.1) ?_;refine DOps.w rfl rfl (C5 Ai rfl rfl rfl rfl rfl rfl rfl K3 (Cz _) rfl rfl rfl) ?_;refine wk 1 ?_;refine⟨[],trivial,rfl,?_⟩;rw[Xr ho];exact pe
 refine wk 6 ?_;refine asp 39 (fun hb2=>?_) fun hb2=>?_
 .
  refine act ?_;have ho:t.op=2:=by simpa using hb2
  have hxd:=h.at (ht.d BI);have hxa:=h.at (ht.a (.inl BI));refine wk 13 ?_;refine dq 53 (AR Ai rfl rfl rfl rfl rfl rfl rfl rfl hxa.1 hxa.2.2.1) ?_;refine dq 54 (Ar Ai rfl rfl rfl (ptsJ rfl (BQ ⟨hxa.1,hxa.2.1⟩)) rfl) ?_;refine dq 55 (AR Ai rfl rfl rfl rfl rfl rfl rfl rfl hxd.1 hxd.2.2.1) ?_;refine DOps.w rfl rfl (C5 Ai rfl rfl rfl rfl rfl rfl rfl K3 (Cz _) rfl rfl rfl) ?_;refine wk 1 ?_;refine⟨[],trivial,rfl,?_⟩;rw[Xq ho];exact pe
 refine wk 6 ?_;refine asp 56 (fun hb3=>?_) fun hb3=>?_
 .
  refine act ?_;have ho:t.op=3:=by simpa using hb3
  refine wk 3 ?_;refine ax 60 (GU (fZ R m w h z144q t (ht.d BI) (ht.a (.inr BI)) (ht.b BI)) [10,5,6,9,4] [(4,(.row false 1 [[A6 9 ((((w.bin t)).L).map RVal.cells)]])),(9,(By 9 ((((w.bin t)).L).map RVal.cells))),(6,(.row false 4 [[.ptr 4 1 0 0,A6 5 (Bb (((w.bin t)).regs)),A6 10 ((((w.bin t)).out).map REff.cells),.int .i64 (((w.bin t)).time)]])),(5,(By 1 (Bb (((w.bin t)).regs)))),(10,(By 6 ((((w.bin t)).out).map REff.cells)))] rfl Tryz.func99 AF rfl rfl rfl ⟨⟨_,rfl,z60q⟩,⟨_,rfl,z60q⟩,⟨_,rfl,z60q⟩,⟨_,rfl,z60q⟩,⟨_,rfl,z60q⟩,trivial⟩ rfl (Ac rfl (Ac rfl (Ac rfl (Ac rfl (Ac rfl (AE _)))))) ⟨⟨_,rfl,rfl,z60q⟩,⟨_,rfl,rfl,z60q⟩,⟨_,rfl,rfl,z60q⟩,⟨_,rfl,rfl,z60q⟩,⟨_,rfl,rfl,z60q⟩,trivial⟩ rfl) ?_;refine an ?_;refine⟨[],trivial,rfl,?_⟩;rw[Xp ho];exact Uh
 refine wk 6 ?_;refine asp 61 (fun hb4=>?_) fun hb4=>?_
 .
  refine act ?_;have ho:t.op=4:=by simpa using hb4
  have hxd:=h.at (ht.d BI);refine wk 18 ?_;refine dx 80 (GU (ER w.L z144q ⟨4,0,0,0,0,0,t.base,w.time,0⟩) [9,4] [(4,(.row false 1 [[A6 9 (((Bs w.L ⟨4,0,0,0,0,0,t.base,w.time,0⟩).2).map RVal.cells)]])),(9,(By 9 (((Bs w.L ⟨4,0,0,0,0,0,t.base,w.time,0⟩).2).map RVal.cells)))] rfl Tryz.func70 AF rfl rfl rfl ⟨⟨_,rfl,z60q⟩,⟨_,rfl,z60q⟩,trivial⟩ rfl (Ac rfl (Ac rfl (AE _))) ⟨⟨_,rfl,rfl,z60q⟩,⟨_,rfl,rfl,z60q⟩,trivial⟩ rfl) ?_;refine dq 81 (AR Ai rfl rfl rfl rfl rfl rfl rfl rfl hxd.1 hxd.2.2.1) ?_;refine DOps.w rfl rfl (C5 Ai rfl rfl rfl rfl rfl rfl rfl K3 (Cz _) rfl rfl rfl) ?_;refine wk 1 ?_;refine⟨[],trivial,rfl,?_⟩;rw[Xo ho];exact pe
 refine wk 6 ?_;refine asp 82 (fun hb5=>?_) fun hb5=>?_
 .
  refine act ?_;have ho:t.op=5:=by simpa using hb5
  have hxa:=h.at (ht.a (.inl BI));refine wk 13 ?_;refine dq 95 (AR Ai rfl rfl rfl rfl rfl rfl rfl rfl hxa.1 hxa.2.2.1) ?_;refine dq 96 (Ar Ai rfl rfl rfl (ptsJ rfl (BQ ⟨hxa.1,hxa.2.1⟩)) rfl) ?_;refine wk 1 ?_;refine dx 98 (GU (Ee R m w h z144q ⟨t.op,0,t.base,0,(rget w.regs t.a),0⟩) [10,5,6,9,4] [(4,(.row false 1 [[A6 9 ((((w).eff ⟨t.op,0,t.base,0,(rget w.regs t.a),0⟩).L).map RVal.cells)]])),(9,(By 9 ((((w).eff ⟨t.op,0,t.base,0,(rget w.regs t.a),0⟩).L).map RVal.cells))),(6,(.row false 4 [[.ptr 4 1 0 0,A6 5 (Bb (((w).eff ⟨t.op,0,t.base,0,(rget w.regs t.a),0⟩).regs)),A6 10 ((((w).eff ⟨t.op,0,t.base,0,(rget w.regs t.a),0⟩).out).map REff.cells),.int .i64 (((w).eff ⟨t.op,0,t.base,0,(rget w.regs t.a),0⟩).time)]])),(5,(By 1 (Bb (((w).eff ⟨t.op,0,t.base,0,(rget w.regs t.a),0⟩).regs)))),(10,(By 6 ((((w).eff ⟨t.op,0,t.base,0,(rget w.regs t.a),0⟩).out).map REff.cells)))] rfl Tryz.func100 AF rfl rfl rfl ⟨⟨_,rfl,z60q⟩,⟨_,rfl,z60q⟩,⟨_,rfl,z60q⟩,⟨_,rfl,z60q⟩,⟨_,rfl,z60q⟩,trivial⟩ rfl (Ac rfl (Ac rfl (Ac rfl (Ac rfl (Ac rfl (AE _)))))) ⟨⟨_,rfl,rfl,z60q⟩,⟨_,rfl,rfl,z60q⟩,⟨_,rfl,rfl,z60q⟩,⟨_,rfl,rfl,z60q⟩,⟨_,rfl,rfl,z60q⟩,trivial⟩ rfl) ?_
  exact nQ
 refine wk 6 ?_;refine asp 106 (fun hb6=>?_) fun hb6=>?_
 .
  refine act ?_;have ho:t.op=6:=by simpa using hb6
  have hxd:=h.at (ht.d BI);have hxa:=h.at (ht.a (.inl BI));refine wk 15 ?_;refine dq 121 (AR Ai rfl rfl rfl rfl rfl rfl rfl rfl hxa.1 hxa.2.2.1) ?_;refine dq 122 (Ar Ai rfl rfl rfl (ptsJ rfl (BQ ⟨hxa.1,hxa.2.1⟩)) rfl) ?_;refine wk 1 ?_;refine dx 124 (GU (Ee R m w h z144q ⟨t.op,0,t.base,t.size,(rget w.regs t.a),0⟩) [10,5,6,9,4] [(4,(.row false 1 [[A6 9 ((((w).eff ⟨t.op,0,t.base,t.size,(rget w.regs t.a),0⟩).L).map RVal.cells)]])),(9,(By 9 ((((w).eff ⟨t.op,0,t.base,t.size,(rget w.regs t.a),0⟩).L).map RVal.cells))),(6,(.row false 4 [[.ptr 4 1 0 0,A6 5 (Bb (((w).eff ⟨t.op,0,t.base,t.size,(rget w.regs t.a),0⟩).regs)),A6 10 ((((w).eff ⟨t.op,0,t.base,t.size,(rget w.regs t.a),0⟩).out).map REff.cells),.int .i64 (((w).eff ⟨t.op,0,t.base,t.size,(rget w.regs t.a),0⟩).time)]])),(5,(By 1 (Bb (((w).eff ⟨t.op,0,t.base,t.size,(rget w.regs t.a),0⟩).regs)))),(10,(By 6 ((((w).eff ⟨t.op,0,t.base,t.size,(rget w.regs t.a),0⟩).out).map REff.cells)))] rfl Tryz.func100 AF rfl rfl rfl ⟨⟨_,rfl,z60q⟩,⟨_,rfl,z60q⟩,⟨_,rfl,z60q⟩,⟨_,rfl,z60q⟩,⟨_,rfl,z60q⟩,trivial⟩ rfl (Ac rfl (Ac rfl (Ac rfl (Ac rfl (Ac rfl (AE _)))))) ⟨⟨_,rfl,rfl,z60q⟩,⟨_,rfl,rfl,z60q⟩,⟨_,rfl,rfl,z60q⟩,⟨_,rfl,rfl,z60q⟩,⟨_,rfl,rfl,z60q⟩,trivial⟩ rfl) ?_
  refine wk 15 ?_;refine dx 137 (GU (ER w.L z144q (E9 w.out.length)) [9,4] [(4,(.row false 1 [[A6 9 (((Bs w.L (E9 w.out.length)).2).map RVal.cells)]])),(9,(By 9 (((Bs w.L (E9 w.out.length)).2).map RVal.cells)))] rfl Tryz.func70 AF rfl rfl rfl ⟨⟨_,rfl,z60q⟩,⟨_,rfl,z60q⟩,trivial⟩ rfl (Ac rfl (Ac rfl (AE _))) ⟨⟨_,rfl,rfl,z60q⟩,⟨_,rfl,rfl,z60q⟩,trivial⟩ rfl) ?_;refine dq 138 (AR Ai rfl rfl rfl rfl rfl rfl rfl rfl hxd.1 hxd.2.2.1) ?_;refine DOps.w rfl rfl (C5 Ai rfl rfl rfl rfl rfl rfl rfl K3 (Cz _) rfl rfl rfl) ?_;refine wk 1 ?_;refine⟨[],trivial,rfl,?_⟩;rw[Xn ho];exact(HSub.put (HSub.put (HSub.put (HSub.put (HSub.put (HSub.none _) rfl) rfl) (by show _=some (AObj.row false 4 [[.ptr 4 1 0 0,A6 5 (Bb (A5 w.regs t.d _)),A6 10 ((w.eff ⟨t.op,0,t.base,t.size,(rget w.regs t.a),0⟩).out.map REff.cells),.int .i64 w.time]]);rw[FU];rfl)) QC) rfl)
 refine wk 6 ?_;refine asp 139 (fun hb7=>?_) fun hb7=>?_
 .
  refine act ?_;have ho:t.op=7:=by simpa using hb7
  have hxa:=h.at (ht.a (.inr BI));have hxb:=h.at (ht.b BI);refine wk 15 ?_;refine dq 154 (AR Ai rfl rfl rfl rfl rfl rfl rfl rfl hxa.1 hxa.2.2.1) ?_;refine dq 155 (Ar Ai rfl rfl rfl (ptsJ rfl (BQ ⟨hxa.1,hxa.2.1⟩)) rfl) ?_;refine wk 6 ?_;refine dq 162 (AR Ai rfl rfl rfl rfl rfl rfl rfl rfl hxb.1 hxb.2.2.1) ?_;refine dq 163 (Ar Ai rfl rfl rfl (ptsJ rfl (BQ ⟨hxb.1,hxb.2.1⟩)) rfl) ?_;refine wk 1 ?_;refine dx 165 (GU (Ee R m w h z144q ⟨t.op,0,t.base,t.size,(rget w.regs t.a),(rget w.regs t.b)⟩) [10,5,6,9,4] [(4,(.row false 1 [[A6 9 ((((w).eff ⟨t.op,0,t.base,t.size,(rget w.regs t.a),(rget w.regs t.b)⟩).L).map RVal.cells)]])),(9,(By 9 ((((w).eff ⟨t.op,0,t.base,t.size,(rget w.regs t.a),(rget w.regs t.b)⟩).L).map RVal.cells))),(6,(.row false 4 [[.ptr 4 1 0 0,A6 5 (Bb (((w).eff ⟨t.op,0,t.base,t.size,(rget w.regs t.a),(rget w.regs t.b)⟩).regs)),A6 10 ((((w).eff ⟨t.op,0,t.base,t.size,(rget w.regs t.a),(rget w.regs t.b)⟩).out).map REff.cells),.int .i64 (((w).eff ⟨t.op,0,t.base,t.size,(rget w.regs t.a),(rget w.regs t.b)⟩).time)]])),(5,(By 1 (Bb (((w).eff ⟨t.op,0,t.base,t.size,(rget w.regs t.a),(rget w.regs t.b)⟩).regs)))),(10,(By 6 ((((w).eff ⟨t.op,0,t.base,t.size,(rget w.regs t.a),(rget w.regs t.b)⟩).out).map REff.cells)))] rfl Tryz.func100 AF rfl rfl rfl ⟨⟨_,rfl,z60q⟩,⟨_,rfl,z60q⟩,⟨_,rfl,z60q⟩,⟨_,rfl,z60q⟩,⟨_,rfl,z60q⟩,trivial⟩ rfl (Ac rfl (Ac rfl (Ac rfl (Ac rfl (Ac rfl (AE _)))))) ⟨⟨_,rfl,rfl,z60q⟩,⟨_,rfl,rfl,z60q⟩,⟨_,rfl,rfl,z60q⟩,⟨_,rfl,rfl,z60q⟩,⟨_,rfl,rfl,z60q⟩,trivial⟩ rfl) ?_
  exact nP
 refine wk 6 ?_;refine asp 173 (fun hb8=>?_) fun hb8=>?_
 .
  refine act ?_;have ho:t.op=8:=by simpa using hb8
  have hxd:=h.at (ht.d BI);refine wk 6 ?_;refine ax 179 (GU (Ee R m w h z144q ⟨t.op,0,0,0,0,0⟩) [10,5,6,9,4] [(4,(.row false 1 [[A6 9 ((((w).eff ⟨t.op,0,0,0,0,0⟩).L).map RVal.cells)]])),(9,(By 9 ((((w).eff ⟨t.op,0,0,0,0,0⟩).L).map RVal.cells))),(6,(.row false 4 [[.ptr 4 1 0 0,A6 5 (Bb (((w).eff ⟨t.op,0,0,0,0,0⟩).regs)),A6 10 ((((w).eff ⟨t.op,0,0,0,0,0⟩).out).map REff.cells),.int .i64 (((w).eff ⟨t.op,0,0,0,0,0⟩).time)]])),(5,(By 1 (Bb (((w).eff ⟨t.op,0,0,0,0,0⟩).regs)))),(10,(By 6 ((((w).eff ⟨t.op,0,0,0,0,0⟩).out).map REff.cells)))] rfl Tryz.func100 AF rfl rfl rfl ⟨⟨_,rfl,z60q⟩,⟨_,rfl,z60q⟩,⟨_,rfl,z60q⟩,⟨_,rfl,z60q⟩,⟨_,rfl,z60q⟩,trivial⟩ rfl (Ac rfl (Ac rfl (Ac rfl (Ac rfl (Ac rfl (AE _)))))) ⟨⟨_,rfl,rfl,z60q⟩,⟨_,rfl,rfl,z60q⟩,⟨_,rfl,rfl,z60q⟩,⟨_,rfl,rfl,z60q⟩,⟨_,rfl,rfl,z60q⟩,trivial⟩ rfl) ?_;refine wk 15 ?_;refine dx 192 (GU (ER w.L z144q (E9 w.out.length)) [9,4] [(4,(.row false 1 [[A6 9 (((Bs w.L (E9 w.out.length)).2).map RVal.cells)]])),(9,(By 9 (((Bs w.L (E9 w.out.length)).2).map RVal.cells)))] rfl Tryz.func70 AF rfl rfl rfl ⟨⟨_,rfl,z60q⟩,⟨_,rfl,z60q⟩,trivial⟩ rfl (Ac rfl (Ac rfl (AE _))) ⟨⟨_,rfl,rfl,z60q⟩,⟨_,rfl,rfl,z60q⟩,trivial⟩ rfl) ?_;refine dq 193 (AR Ai rfl rfl rfl rfl rfl rfl rfl rfl hxd.1 hxd.2.2.1) ?_;refine DOps.w rfl rfl (C5 Ai rfl rfl rfl rfl rfl rfl rfl K3 (Cz _) rfl rfl rfl) ?_;refine wk 1 ?_;refine⟨[],trivial,rfl,?_⟩
  rw[Xm ho];exact(HSub.put (HSub.put (HSub.put (HSub.put (HSub.put (HSub.none _) rfl) rfl) (by show _=some (AObj.row false 4 [[.ptr 4 1 0 0,A6 5 (Bb (A5 w.regs t.d _)),A6 10 ((w.eff ⟨t.op,0,0,0,0,0⟩).out.map REff.cells),.int .i64 w.time]]);rw[FU];rfl)) QC) rfl)
 refine wk 6 ?_;refine asp 194 (fun hb9=>?_) fun hb9=>?_
 .
  refine act ?_;have ho:t.op=9:=by simpa using hb9
  have hxa:=h.at (ht.a (.inl BI));refine wk 10 ?_;refine dq 205 (AR Ai rfl rfl rfl rfl rfl rfl rfl rfl hxa.1 hxa.2.2.1) ?_;refine dq 206 (Ar Ai rfl rfl rfl (ptsJ rfl (BQ ⟨hxa.1,hxa.2.1⟩)) rfl) ?_;refine wk 1 ?_;refine dx 208 (GU (Ee R m w h z144q ⟨t.op,0,0,0,(rget w.regs t.a),0⟩) [10,5,6,9,4] [(4,(.row false 1 [[A6 9 ((((w).eff ⟨t.op,0,0,0,(rget w.regs t.a),0⟩).L).map RVal.cells)]])),(9,(By 9 ((((w).eff ⟨t.op,0,0,0,(rget w.regs t.a),0⟩).L).map RVal.cells))),(6,(.row false 4 [[.ptr 4 1 0 0,A6 5 (Bb (((w).eff ⟨t.op,0,0,0,(rget w.regs t.a),0⟩).regs)),A6 10 ((((w).eff ⟨t.op,0,0,0,(rget w.regs t.a),0⟩).out).map REff.cells),.int .i64 (((w).eff ⟨t.op,0,0,0,(rget w.regs t.a),0⟩).time)]])),(5,(By 1 (Bb (((w).eff ⟨t.op,0,0,0,(rget w.regs t.a),0⟩).regs)))),(10,(By 6 ((((w).eff ⟨t.op,0,0,0,(rget w.regs t.a),0⟩).out).map REff.cells)))] rfl Tryz.func100 AF rfl rfl rfl ⟨⟨_,rfl,z60q⟩,⟨_,rfl,z60q⟩,⟨_,rfl,z60q⟩,⟨_,rfl,z60q⟩,⟨_,rfl,z60q⟩,trivial⟩ rfl (Ac rfl (Ac rfl (Ac rfl (Ac rfl (Ac rfl (AE _)))))) ⟨⟨_,rfl,rfl,z60q⟩,⟨_,rfl,rfl,z60q⟩,⟨_,rfl,rfl,z60q⟩,⟨_,rfl,rfl,z60q⟩,⟨_,rfl,rfl,z60q⟩,trivial⟩ rfl) ?_
  refine wk 1 ?_;refine⟨[],trivial,rfl,?_⟩;rw[Xl ho];exact Uh
 refine wk 9 ?_;refine ax 14 (GU (Ee R m w h z144q ⟨t.op,0,t.base,0,0,0⟩) [10,5,6,9,4] [(4,(.row false 1 [[A6 9 ((((w).eff ⟨t.op,0,t.base,0,0,0⟩).L).map RVal.cells)]])),(9,(By 9 ((((w).eff ⟨t.op,0,t.base,0,0,0⟩).L).map RVal.cells))),(6,(.row false 4 [[.ptr 4 1 0 0,A6 5 (Bb (((w).eff ⟨t.op,0,t.base,0,0,0⟩).regs)),A6 10 ((((w).eff ⟨t.op,0,t.base,0,0,0⟩).out).map REff.cells),.int .i64 (((w).eff ⟨t.op,0,t.base,0,0,0⟩).time)]])),(5,(By 1 (Bb (((w).eff ⟨t.op,0,t.base,0,0,0⟩).regs)))),(10,(By 6 ((((w).eff ⟨t.op,0,t.base,0,0,0⟩).out).map REff.cells)))] rfl Tryz.func100 AF rfl rfl rfl ⟨⟨_,rfl,z60q⟩,⟨_,rfl,z60q⟩,⟨_,rfl,z60q⟩,⟨_,rfl,z60q⟩,⟨_,rfl,z60q⟩,trivial⟩ rfl (Ac rfl (Ac rfl (Ac rfl (Ac rfl (Ac rfl (AE _)))))) ⟨⟨_,rfl,rfl,z60q⟩,⟨_,rfl,rfl,z60q⟩,⟨_,rfl,rfl,z60q⟩,⟨_,rfl,rfl,z60q⟩,⟨_,rfl,rfl,z60q⟩,trivial⟩ rfl) ?_
 exact nY
theorem UA(R m:Nat)(L:List RVal)(regs:List Int)(b:Block)(h:ROk R m ⟨L,regs,[],0⟩)(hl:∀t∈b.ins,Nb t R)(hm:m+2*b.ins.length<=80000):ACall Tryz.prog 71 [.ptr 4 1 0 0,.agg b.cells,A6 5 (Bb regs)] (hput (hput (hput (hput (hput hNew 4 (.row false 1 [[A6 9 ((L).map RVal.cells)]])) 9 (By 9 ((L).map RVal.cells))) 5 (By 1 (Bb regs))) 6 .free) 10 .free) (fun r h'=>r=.ptr 6 1 0 0/\HSub (wH 6 5 10 hNone ((EG L regs b.ins))) h'):=by
 refine ACall.of_body (n:=28) Ai Tryz.func71 rfl rfl ?_;refine HG ?_;refine ax 4 (D4 5 12) ?_;refine wk 6 ?_;refine aq 11 (Lt Ai (ps:=[(0,.ptr 4 1 0 0),(1,A6 5 (Bb regs))]) (r:=[.ptr 4 1 0 0,A6 5 (Bb regs),.nil,.int .i64 0]) rfl rfl rfl rfl rfl Aj (by simp only[Fe,B1];rfl) rfl (by simp only[partCells,B1];rfl)) ?_;refine ax 12 (ZK (sz:=4) 6 rfl rfl rfl rfl (q68 _) (by simp only[AV.cells,qQ1,qX7,Cj];rfl)) ?_;refine wk 4 ?_;refine AGo.ghost (.weakRowF 6 (es':=[[.ptr 4 1 0 0,A6 5 (Bb regs),.lst true [],.int .i64 0]]) rfl rfl YY) ?_;refine wk 4 ?_;refine AK (γ:=Nat) 13 (fun k=>⟨28,(Aa (Aa (Aa AZ 4 (.ptr 12 1 0 0)) 7 (.ptr 6 1 0 0)) 8 (.int .i64 (k:Int))),(wH 6 5 10 (hput (Bc 13) 12 (.row false 5 [b.cells])) ((EG L regs (b.ins.take (k)))))⟩) (fun k=>k<=b.ins.length) (fun k=>b.ins.length-k) 0 (Sub.mk' DB CX) (qZ1 _) (fun _=>Ab (Ab (Ab (Ab (Ab (Ab (fun b hb=>Ay hb) rfl) rfl) rfl) rfl) rfl) rfl) ?_
 intro k hk;refine wk 9 ?_;refine asp 17 (fun hb1=>?_) fun hb1=>?_
 .
  refine act ?_;have hkl:k<b.ins.length:=by have h:=hb1;simp only[q76,q56]at h;omega
  obtain⟨t,ht⟩:=Af hkl;refine wk 8 ?_;refine aq 24 (Hc Ai (Aw ht)) ?_;refine wk 1 ?_;refine ax 26 (GU (bm R _ (EG L regs (b.ins.take (k))) (US h hl k) hm t (hl t (q33 ht))) [10,5,6,9,4] [(4,(.row false 1 [[A6 9 (((((EG L regs (b.ins.take (k))).step t)).L).map RVal.cells)]])),(9,(By 9 (((((EG L regs (b.ins.take (k))).step t)).L).map RVal.cells))),(6,(.row false 4 [[.ptr 4 1 0 0,A6 5 (Bb ((((EG L regs (b.ins.take (k))).step t)).regs)),A6 10 (((((EG L regs (b.ins.take (k))).step t)).out).map REff.cells),.int .i64 ((((EG L regs (b.ins.take (k))).step t)).time)]])),(5,(By 1 (Bb ((((EG L regs (b.ins.take (k))).step t)).regs)))),(10,(By 6 (((((EG L regs (b.ins.take (k))).step t)).out).map REff.cells)))] rfl Tryz.func92 AF rfl rfl rfl ⟨⟨_,rfl,z60q⟩,⟨_,rfl,z60q⟩,⟨_,rfl,z60q⟩,⟨_,rfl,z60q⟩,⟨_,rfl,z60q⟩,trivial⟩ rfl (Ac rfl (Ac rfl (Ac rfl (Ac rfl (Ac rfl (AE _)))))) ⟨⟨_,rfl,rfl,z60q⟩,⟨_,rfl,rfl,z60q⟩,⟨_,rfl,rfl,z60q⟩,⟨_,rfl,rfl,z60q⟩,⟨_,rfl,rfl,z60q⟩,trivial⟩ rfl) ?_
  exact rn
 exact nU
theorem bH(old new:BFunc)(x y:Block)(R:Nat)(c:Cert)(i:Int)(next:List Int)(hreg:old.regs=(R:Int))(hR:R<=10000)(hx:old.blocks[i.toNat]?=some x)(hy:new.blocks[i.toNat]?=some y)(hc:∀r∈c.same,r.length=R)(hi:0<=i/\i<c.same.length)(hnx:∀k∈next,0<=k/\k<c.same.length)(hv:x.fin=2->(0<=x.v/\x.v<R)/\(0<=y.v/\y.v<R))(htx:∀t∈x.ins,Nb t R)(hty:∀t∈y.ins,Nb t R)(hlx:x.ins.length<=10000)(hly:y.ins.length<=10000)(hnl:next.length<=100000):APure Tryz.prog 51 [.agg old.cells,.agg new.cells,.agg c.cells,.int .i64 i,AS next] (fun r=>r=.bool (Gn R x y c i next)):=by
 obtain⟨row,hrow⟩:=Af (l:=c.same) (k:=i.toNat) z144q;have hat:c.at' i=row:=by unfold Cert.at';rw[hrow];rfl
 have hrl:=hc row (q33 hrow);have hoa:ROk R (2*R+2*x.ins.length) (Bk R (c.at' i) x):=Tb (ol (c.at' i) R) htx;have hob:ROk R (2*R+2*x.ins.length+2*y.ins.length) (Cc R (c.at' i) x y):=Tb (oh hoa (O2 x.ins)) hty;refine APure.of_body (n:=177) Ai Tryz.func51 rfl rfl ?_;refine HG ?_;refine ax 5 (D4 2 0) ?_;refine ax 6 (D4 2 1) ?_;refine ax 7 (D4 1 2) ?_;refine wk 5 ?_;refine ax 22 (D4 1 4) ?_;refine wk 3 ?_;refine AGo.ghost (.weakRowF 4 (es':=[[.lst true []]]) rfl rfl eH) ?_;refine wk 6 ?_;refine AGo.ghost (.weakSlot 12 (y:=.lst true []) rfl (fun _ _ _=>Tt)) ?_;refine AGo.ghost (.weakSlot 13 (y:=.lst true []) rfl (fun _ _ _=>Tt)) ?_;refine wk 4 ?_;refine AK (γ:=Nat) 12 (fun k=>⟨177,(Aa (Aa (Aa (Aa (Aa (Aa (Aa (Aa (Aa AZ 3 (.int .i64 i)) 4 (AS next)) 5 (.ptr 0 1 0 0)) 6 (.ptr 1 1 0 0)) 7 (.ptr 2 1 0 0)) 11 (.ptr 4 1 0 0)) 12 (A6 5 (Bb (Bh (c.at' i) (k)).xs))) 13 (A6 7 (Bb (Bh (c.at' i) (k)).ys))) 14 (.int .i64 (k:Int))),(hput (hput (hput (hput (hput (hput (hput (hput (hput (hput (hput (Bc 12) 0 (.row false 2 [old.cells])) 1 (.row false 2 [new.cells])) 2 (.row false 1 [c.cells])) 4 (.row false 1 [[A6 9 (((Bh (c.at' i) (k)).L).map RVal.cells)]])) 9 (By 9 (((Bh (c.at' i) (k)).L).map RVal.cells))) 5 (By 1 (Bb (Bh (c.at' i) (k)).xs))) 7 (By 1 (Bb (Bh (c.at' i) (k)).ys))) 6 .free) 8 .free) 10 .free) 11 .free)⟩) (fun k=>k<=R) (fun k=>R-k) 0 (Sub.mk' pt CX) (qZ1 _) (fun _=>Ab (Ab (Ab (Ab (Ab (Ab (Ab (Ab (Ab (Ab (Ab (fun b hb=>Ay hb) rfl) rfl) rfl) rfl) rfl) rfl) rfl) rfl) rfl) rfl) rfl) ?_
 intro k hk;refine wk 8 ?_;refine asp 26 (fun hb1=>?_) fun hb1=>?_
 .
  refine act ?_;have hkl:k<R:=by have h:=hb1;rw[hreg]at h;simp only[q56]at h;omega
  obtain⟨bit,hbit⟩:=Af (l:=row) (k:=k) z144q;refine wk 9 ?_;refine ax 33 (GU (ER (Bh (c.at' i) (k)).L pA (RVal.reg k 0)) [9,4] [(4,(.row false 1 [[A6 9 (((Bs (Bh (c.at' i) (k)).L (RVal.reg k 0)).2).map RVal.cells)]])),(9,(By 9 (((Bs (Bh (c.at' i) (k)).L (RVal.reg k 0)).2).map RVal.cells)))] rfl Tryz.func70 AF rfl rfl rfl ⟨⟨_,rfl,z60q⟩,⟨_,rfl,z60q⟩,trivial⟩ rfl (Ac rfl (Ac rfl (AE _))) ⟨⟨_,rfl,rfl,z60q⟩,⟨_,rfl,rfl,z60q⟩,trivial⟩ rfl) ?_;refine ax 34 (BU Ai rfl rfl rfl rfl rfl rfl Aj rfl rfl rfl rfl rfl rfl) ?_;refine ax 35 (o_append1J Ai (b:=5) (es:=Bb (Bh (c.at' i) (k)).xs) rfl rfl rfl rfl rfl rfl rfl rfl rfl rfl rfl (q68 _) (Cz _) (Q5 _) rfl rfl (by rw[HM];have h:=(DL (c.at' i) k).xl;show((Bh (c.at' i) (k)).xs.length+1)*8<=_;omega) (by rw[HM];have h:=(DL (c.at' i) k).xl;simp only[maxLen];show(Bh (c.at' i) (k)).xs.length+1<=_;omega)) ?_
  refine wk 12 ?_;refine aq 39 (Ak Ai rfl rfl rfl rfl rfl rfl hi.1 (by rw[q54,hrow];rfl) rfl) ?_;refine wk 2 ?_;refine aq 42 (Ak Ai rfl rfl rfl rfl rfl rfl (q46 _) (Aw hbit) rfl) ?_;refine wk 2 ?_;refine asp 43 (fun hb2=>?_) fun hb2=>?_
  .
   refine act ?_;have hside:Gm (c.at' i) k=0:=fx (by rw[hat];exact hbit) hb2;refine wk 9 ?_;exact yR
  refine acf ?_;have hside:Gm (c.at' i) k=1:=kN (by rw[hat];exact hbit) hb2;refine wk 7 ?_;exact yR
 refine acf ?_;obtain rfl:R=k:=by have h:=hb1;rw[hreg]at h;simp only[q16]at h;omega
 refine wk 7 ?_;refine dq 56 (Ak Ai rfl rfl rfl rfl rfl rfl hi.1 (by rw[q54,hx];rfl) rfl) ?_;refine wk 2 ?_;refine dx 59 (GU (UA R (2*R) (Bh (c.at' i) (R)).L (Bh (c.at' i) (R)).xs x (ol (c.at' i) R) htx z144q) [10,6,5,9,4] [(4,(.row false 1 [[A6 9 ((((Bk R (c.at' i) x)).L).map RVal.cells)]])),(9,(By 9 ((((Bk R (c.at' i) x)).L).map RVal.cells))),(6,(.row false 4 [[.ptr 4 1 0 0,A6 5 (Bb (((Bk R (c.at' i) x)).regs)),A6 10 ((((Bk R (c.at' i) x)).out).map REff.cells),.int .i64 (((Bk R (c.at' i) x)).time)]])),(5,(By 1 (Bb (((Bk R (c.at' i) x)).regs)))),(10,(By 6 ((((Bk R (c.at' i) x)).out).map REff.cells)))] rfl Tryz.func71 AF rfl rfl (by simp only[qQ1,qX7,BV _ (show mem [10,6,5,9,4] 5=true from rfl)];rfl) ⟨⟨_,rfl,z60q⟩,⟨_,rfl,z60q⟩,⟨_,rfl,z60q⟩,⟨_,rfl,z60q⟩,⟨_,rfl,z60q⟩,trivial⟩ rfl (Ac rfl (Ac rfl (Ac rfl (Ac rfl (Ac rfl (AE _)))))) ⟨⟨_,rfl,rfl,z60q⟩,⟨_,rfl,rfl,z60q⟩,⟨_,rfl,rfl,z60q⟩,⟨_,rfl,rfl,z60q⟩,⟨_,rfl,rfl,z60q⟩,trivial⟩ rfl) ?_
 refine wk 4 ?_;refine dq 64 (Ak Ai rfl rfl rfl rfl rfl rfl hi.1 (by rw[q54,hy];rfl) rfl) ?_;refine wk 2 ?_;refine dx 67 (GU (Uz R _ (Bk R (c.at' i) x).L (Bh (c.at' i) (R)).ys y (oh hoa (O2 x.ins)) hty z144q) [11,8,7,9,4] [(4,(.row false 1 [[A6 9 ((((Cc R (c.at' i) x y)).L).map RVal.cells)]])),(9,(By 9 ((((Cc R (c.at' i) x y)).L).map RVal.cells))),(8,(.row false 4 [[.ptr 4 1 0 0,A6 7 (Bb (((Cc R (c.at' i) x y)).regs)),A6 11 ((((Cc R (c.at' i) x y)).out).map REff.cells),.int .i64 (((Cc R (c.at' i) x y)).time)]])),(7,(By 1 (Bb (((Cc R (c.at' i) x y)).regs)))),(11,(By 6 ((((Cc R (c.at' i) x y)).out).map REff.cells)))] rfl Tryz.func71 AF rfl rfl (by simp only[qQ1,qX7,BV _ (show mem [11,8,7,9,4] 7=true from rfl)];rfl) ⟨⟨_,rfl,z60q⟩,⟨_,rfl,z60q⟩,⟨_,rfl,z60q⟩,⟨_,rfl,z60q⟩,⟨_,rfl,z60q⟩,trivial⟩ rfl (Ac rfl (Ac rfl (Ac rfl (Ac rfl (Ac rfl (AE _)))))) ⟨⟨_,rfl,rfl,z60q⟩,⟨_,rfl,rfl,z60q⟩,⟨_,rfl,rfl,z60q⟩,⟨_,rfl,rfl,z60q⟩,⟨_,rfl,rfl,z60q⟩,trivial⟩ rfl) ?_
 refine wk 10 ?_;refine dq 72 (DD Ai rfl rfl rfl rfl) ?_;refine wk 4 ?_;refine dq 77 (DD Ai rfl rfl rfl rfl) ?_;refine wk 2 ?_;refine asp 78 (fun hb3=>?_) fun hb3=>?_
 .
  refine act ?_;have hne:¬(Bk R (c.at' i) x).out=(Cc R (c.at' i) x y).out:=fun e=>by have h:=On hb3;rw[q76,q76,e]at h;exact h rfl
  refine wk 4 ?_;refine DY ⟨[_],⟨rfl,trivial⟩,?_,rfl⟩;refine bc ?_;exact(Rg hne).symm
 refine acf ?_;have hlen:(Bk R (c.at' i) x).out.length=(Cc R (c.at' i) x y).out.length:=by have h:=Hq hb3;rw[q76,q76]at h;omega
 refine wk 7 ?_;refine AK (γ:=Nat) 12 (fun k=>⟨177,(Aa (Aa (Aa (Aa (Aa (Aa (Aa (Aa AZ 3 (.int .i64 i)) 4 (AS next)) 5 (.ptr 0 1 0 0)) 6 (.ptr 1 1 0 0)) 7 (.ptr 2 1 0 0)) 16 (.ptr 6 1 0 0)) 17 (.ptr 8 1 0 0)) 18 (.int .i64 (k:Int))),(hput (hput (hput (wH 8 7 11 (hput (hput (hput (Bc 12) 0 (.row false 2 [old.cells])) 1 (.row false 2 [new.cells])) 2 (.row false 1 [c.cells])) ((Cc R (c.at' i) x y))) 6 (.row false 4 [[.ptr 4 1 0 0,A6 5 (Bb ((Bk R (c.at' i) x).regs)),A6 10 (((Bk R (c.at' i) x).out).map REff.cells),.int .i64 ((Bk R (c.at' i) x).time)]])) 5 (By 1 (Bb ((Bk R (c.at' i) x).regs)))) 10 (By 6 (((Bk R (c.at' i) x).out).map REff.cells)))⟩) (fun k=>k<=(Bk R (c.at' i) x).out.length/\(Bk R (c.at' i) x).out.take k=(Cc R (c.at' i) x y).out.take k) (fun k=>(Bk R (c.at' i) x).out.length-k) 0 (Sub.mk' B5 CX) ⟨qZ1 _,rfl⟩ (fun _=>Ab (Ab (Ab (Ab (Ab (Ab (Ab (Ab (Ab (Ab (Ab (fun b hb=>Ay hb) rfl) rfl) rfl) rfl) rfl) rfl) rfl) rfl) rfl) rfl) rfl) ?_
 intro k ⟨hk,htk⟩;refine wk 8 ?_;refine aq 84 (DD Ai rfl rfl rfl rfl) ?_;refine wk 2 ?_;refine asp 85 (fun hb4=>?_) fun hb4=>?_
 .
  refine act ?_;have hkl:k<(Bk R (c.at' i) x).out.length:=by have h:=hb4;simp only[q76,q56]at h;omega
  obtain⟨ex,hex⟩:=Af hkl;obtain⟨ey,hey⟩:=Af (l:=(Cc R (c.at' i) x y).out) (k:=k) z144q;refine wk 10 ?_;refine dq 93 (AR Ai rfl rfl rfl rfl rfl rfl rfl rfl (q46 _) K8) ?_;refine dq 94 (Ar Ai rfl rfl rfl (ptsJ rfl (Aw hex)) rfl) ?_;refine wk 5 ?_;refine dq 100 (AR Ai rfl rfl rfl rfl rfl rfl rfl rfl (q46 _) K8) ?_;refine dq 101 (Ar Ai rfl rfl rfl (ptsJ rfl (Aw hey)) rfl) ?_;refine dq 102 (ES Ai true rfl rfl rfl AF rfl rfl rfl rfl rfl) ?_;refine wk 1 ?_;refine asp 102 (fun hb5=>?_) fun hb5=>?_
  .
   refine act ?_;have hne:¬ex=ey:=bv hb5;refine wk 4 ?_;refine DY ⟨[_],⟨rfl,trivial⟩,?_,rfl⟩;refine bc ?_;exact(Rg (kH hex hey hne)).symm
  refine acf ?_;obtain rfl:ex=ey:=Xv hb5;refine wk 3 ?_;refine aq 87 (A2 rfl rfl hkl (show(Bk R (c.at' i) x).out.length<=maxLen by have:=hoa.el;simp only[maxLen];omega)) ?_;refine wk 2 ?_;exact⟨k+1,Drop.mk' Gt kj,⟨hkl,S1 htk hex hey⟩,by omega⟩
 refine acf ?_;have hge:(Bk R (c.at' i) x).out.length<=k:=by have h:=hb4;simp only[q76,q16]at h;omega
 have hout:(Bk R (c.at' i) x).out=(Cc R (c.at' i) x y).out:=OI htk hge z144q;refine wk 7 ?_;refine dq 106 (Ak Ai rfl rfl rfl rfl rfl rfl hi.1 (by rw[q54,hx];rfl) rfl) ?_;refine wk 4 ?_;refine DOps.split 110 rfl (fun hb6=>?_) (fun hb6=>?_)
 .
  have hf2:x.fin=2:=by simpa using hb6
  have hxo:=hoa.at (hv hf2).1;have hxn:=hob.at (hv hf2).2;refine wk 7 ?_;refine dq 118 (Ak Ai rfl rfl rfl rfl rfl rfl hi.1 (by rw[q54,hx];rfl) rfl) ?_;refine wk 2 ?_;refine dq 121 (AR Ai rfl rfl rfl rfl rfl rfl rfl rfl hxo.1 hxo.2.2.1) ?_;refine dq 122 (Ar Ai rfl rfl rfl (ptsJ rfl (BQ ⟨hxo.1,hxo.2.1⟩)) rfl) ?_;refine wk 7 ?_;refine dq 130 (Ak Ai rfl rfl rfl rfl rfl rfl hi.1 (by rw[q54,hy];rfl) rfl) ?_;refine wk 2 ?_;refine dq 133 (AR Ai rfl rfl rfl rfl rfl rfl rfl rfl hxn.1 hxn.2.2.1) ?_;refine dq 134 (Ar Ai rfl rfl rfl (ptsJ rfl (BQ ⟨hxn.1,hxn.2.1⟩)) rfl) ?_;refine wk 3 ?_;refine asp 136 (fun hb7=>?_) fun hb7=>?_
  .
   refine act ?_;have hvf:=hb7;refine wk 4 ?_;refine DY ⟨[_],⟨rfl,trivial⟩,?_,rfl⟩;refine bc ?_;exact(bu hf2 (On hvf)).symm
  refine acf ?_;have hvf:=hb7;refine wk 7 ?_;refine AK (γ:=Nat) 12 (fun j=>⟨177,(Aa (Aa (Aa (Aa (Aa (Aa (Aa (Aa AZ 3 (.int .i64 i)) 4 (AS next)) 5 (.ptr 0 1 0 0)) 6 (.ptr 1 1 0 0)) 7 (.ptr 2 1 0 0)) 16 (.ptr 6 1 0 0)) 17 (.ptr 8 1 0 0)) 19 (.int .i64 (j:Int))),(hput (hput (hput (wH 8 7 11 (hput (hput (hput (Bc 12) 0 (.row false 2 [old.cells])) 1 (.row false 2 [new.cells])) 2 (.row false 1 [c.cells])) ((Cc R (c.at' i) x y))) 6 (.row false 4 [[.ptr 4 1 0 0,A6 5 (Bb ((Bk R (c.at' i) x).regs)),A6 10 (((Bk R (c.at' i) x).out).map REff.cells),.int .i64 ((Bk R (c.at' i) x).time)]])) 5 (By 1 (Bb ((Bk R (c.at' i) x).regs)))) 10 (By 6 (((Bk R (c.at' i) x).out).map REff.cells)))⟩) (fun j=>j<=next.length/\(next.take j).all (fun k=>Fw (Bk R (c.at' i) x).vw (Cc R (c.at' i) x y).vw (c.at' k))=true) (fun j=>next.length-j) 0 (Sub.mk' B5 CX) ⟨qZ1 _,rfl⟩ (fun _=>Ab (Ab (Ab (Ab (Ab (Ab (Ab (Ab (Ab (Ab (Ab (fun b hb=>Ay hb) rfl) rfl) rfl) rfl) rfl) rfl) rfl) rfl) rfl) rfl) rfl) ?_
  intro j ⟨hj,hall⟩;refine wk 8 ?_;refine asp 140 (fun hb8=>?_) fun hb8=>?_
  .
   refine act ?_;have hjl:j<next.length:=by have h:=hb8;simp only[q76,q56]at h;omega
   obtain⟨nk,hnk⟩:=Af hjl;have hkr:=hnx nk (q33 hnk);obtain⟨row2,hrow2⟩:=Af (l:=c.same) (k:=nk.toNat) z144q;have hat2:c.at' nk=row2:=by unfold Cert.at';rw[hrow2];rfl
   have hrl2:=hc row2 (q33 hrow2);refine wk 8 ?_;refine AK (γ:=Nat) 12 (fun k=>⟨177,(Aa (Aa (Aa (Aa (Aa (Aa (Aa (Aa (Aa AZ 3 (.int .i64 i)) 4 (AS next)) 5 (.ptr 0 1 0 0)) 6 (.ptr 1 1 0 0)) 7 (.ptr 2 1 0 0)) 16 (.ptr 6 1 0 0)) 17 (.ptr 8 1 0 0)) 19 (.int .i64 (j:Int))) 20 (.int .i64 (k:Int))),(hput (hput (hput (wH 8 7 11 (hput (hput (hput (Bc 12) 0 (.row false 2 [old.cells])) 1 (.row false 2 [new.cells])) 2 (.row false 1 [c.cells])) ((Cc R (c.at' i) x y))) 6 (.row false 4 [[.ptr 4 1 0 0,A6 5 (Bb ((Bk R (c.at' i) x).regs)),A6 10 (((Bk R (c.at' i) x).out).map REff.cells),.int .i64 ((Bk R (c.at' i) x).time)]])) 5 (By 1 (Bb ((Bk R (c.at' i) x).regs)))) 10 (By 6 (((Bk R (c.at' i) x).out).map REff.cells)))⟩) (fun k=>k<=R/\HN (Bk R (c.at' i) x).vw (Cc R (c.at' i) x y).vw row2 k) (fun k=>R-k) 0 (Sub.mk' B5 CX) ⟨qZ1 _,vagree_zero⟩ (fun _=>Ab (Ab (Ab (Ab (Ab (Ab (Ab (Ab (Ab (Ab (Ab (fun b hb=>Ay hb) rfl) rfl) rfl) rfl) rfl) rfl) rfl) rfl) rfl) rfl) rfl) ?_
   intro k ⟨hk,hagr⟩;refine wk 8 ?_;refine asp 146 (fun hb9=>?_) fun hb9=>?_
   .
    refine act ?_;have hkl:k<R:=by have h:=hb9;rw[hreg]at h;simp only[q56]at h;omega
    refine wk 9 ?_;refine dq 153 (Ak Ai rfl rfl rfl rfl rfl rfl (q46 _) (Aw hnk) rfl) ?_;refine wk 1 ?_;refine dq 155 (Ak Ai rfl rfl rfl rfl rfl rfl hkr.1 (by rw[q54,hrow2];rfl) rfl) ?_;refine wk 2 ?_;obtain⟨must,hmu⟩:=Af (l:=row2) (k:=k) z144q;refine dq 158 (Ak Ai rfl rfl rfl rfl rfl rfl (q46 _) (Aw hmu) rfl) ?_;refine wk 2 ?_;refine DOps.split 160 rfl (fun hb10=>?_) (fun hb10=>?_)
    .
     have hmt:must=true:=by simpa using hb10
     have hxv:=hoa.at (z:=(k:Int)) z144q;have hyv:=hob.at (z:=(k:Int)) z144q;refine wk 5 ?_;refine dq 166 (AR Ai rfl rfl rfl rfl rfl rfl rfl rfl hxv.1 hxv.2.2.1) ?_;refine dq 167 (Ar Ai rfl rfl rfl (ptsJ rfl (BQ ⟨hxv.1,hxv.2.1⟩)) rfl) ?_;refine wk 5 ?_;refine dq 173 (AR Ai rfl rfl rfl rfl rfl rfl rfl rfl hyv.1 hyv.2.2.1) ?_;refine dq 174 (Ar Ai rfl rfl rfl (ptsJ rfl (BQ ⟨hyv.1,hyv.2.1⟩)) rfl) ?_;refine wk 3 ?_;refine asp 176 (fun hb11=>?_) fun hb11=>?_
     .
      refine act ?_;have hag:=hb11;exact nH
     refine acf ?_;have hag:=hb11;exact j4
    refine wk 18 ?_;have hag:=hb10;exact j4
   refine acf ?_;have hkge:row2.length<=k:=by have h:=hb9;rw[hreg]at h;simp only[q16]at h;omega
   exact rp
  refine acf ?_;have hjge:next.length<=j:=by have h:=hb8;simp only[q76,q16]at h;omega
  exact nT
 refine wk 28 ?_;have hvf:=hb6;refine wk 7 ?_;refine AK (γ:=Nat) 12 (fun j=>⟨177,(Aa (Aa (Aa (Aa (Aa (Aa (Aa (Aa AZ 3 (.int .i64 i)) 4 (AS next)) 5 (.ptr 0 1 0 0)) 6 (.ptr 1 1 0 0)) 7 (.ptr 2 1 0 0)) 16 (.ptr 6 1 0 0)) 17 (.ptr 8 1 0 0)) 19 (.int .i64 (j:Int))),(hput (hput (hput (wH 8 7 11 (hput (hput (hput (Bc 12) 0 (.row false 2 [old.cells])) 1 (.row false 2 [new.cells])) 2 (.row false 1 [c.cells])) ((Cc R (c.at' i) x y))) 6 (.row false 4 [[.ptr 4 1 0 0,A6 5 (Bb ((Bk R (c.at' i) x).regs)),A6 10 (((Bk R (c.at' i) x).out).map REff.cells),.int .i64 ((Bk R (c.at' i) x).time)]])) 5 (By 1 (Bb ((Bk R (c.at' i) x).regs)))) 10 (By 6 (((Bk R (c.at' i) x).out).map REff.cells)))⟩) (fun j=>j<=next.length/\(next.take j).all (fun k=>Fw (Bk R (c.at' i) x).vw (Cc R (c.at' i) x y).vw (c.at' k))=true) (fun j=>next.length-j) 0 (Sub.mk' B5 CX) ⟨qZ1 _,rfl⟩ (fun _=>Ab (Ab (Ab (Ab (Ab (Ab (Ab (Ab (Ab (Ab (Ab (fun b hb=>Ay hb) rfl) rfl) rfl) rfl) rfl) rfl) rfl) rfl) rfl) rfl) rfl) ?_
 intro j ⟨hj,hall⟩;refine wk 8 ?_;refine asp 140 (fun hb12=>?_) fun hb12=>?_
 .
  refine act ?_;have hjl:j<next.length:=by have h:=hb12;simp only[q76,q56]at h;omega
  obtain⟨nk,hnk⟩:=Af hjl;have hkr:=hnx nk (q33 hnk);obtain⟨row2,hrow2⟩:=Af (l:=c.same) (k:=nk.toNat) z144q;have hat2:c.at' nk=row2:=by unfold Cert.at';rw[hrow2];rfl
  have hrl2:=hc row2 (q33 hrow2);refine wk 8 ?_;refine AK (γ:=Nat) 12 (fun k=>⟨177,(Aa (Aa (Aa (Aa (Aa (Aa (Aa (Aa (Aa AZ 3 (.int .i64 i)) 4 (AS next)) 5 (.ptr 0 1 0 0)) 6 (.ptr 1 1 0 0)) 7 (.ptr 2 1 0 0)) 16 (.ptr 6 1 0 0)) 17 (.ptr 8 1 0 0)) 19 (.int .i64 (j:Int))) 20 (.int .i64 (k:Int))),(hput (hput (hput (wH 8 7 11 (hput (hput (hput (Bc 12) 0 (.row false 2 [old.cells])) 1 (.row false 2 [new.cells])) 2 (.row false 1 [c.cells])) ((Cc R (c.at' i) x y))) 6 (.row false 4 [[.ptr 4 1 0 0,A6 5 (Bb ((Bk R (c.at' i) x).regs)),A6 10 (((Bk R (c.at' i) x).out).map REff.cells),.int .i64 ((Bk R (c.at' i) x).time)]])) 5 (By 1 (Bb ((Bk R (c.at' i) x).regs)))) 10 (By 6 (((Bk R (c.at' i) x).out).map REff.cells)))⟩) (fun k=>k<=R/\HN (Bk R (c.at' i) x).vw (Cc R (c.at' i) x y).vw row2 k) (fun k=>R-k) 0 (Sub.mk' B5 CX) ⟨qZ1 _,vagree_zero⟩ (fun _=>Ab (Ab (Ab (Ab (Ab (Ab (Ab (Ab (Ab (Ab (Ab (fun b hb=>Ay hb) rfl) rfl) rfl) rfl) rfl) rfl) rfl) rfl) rfl) rfl) rfl) ?_
  intro k ⟨hk,hagr⟩;refine wk 8 ?_;refine asp 146 (fun hb13=>?_) fun hb13=>?_
  .
   refine act ?_;have hkl:k<R:=by have h:=hb13;rw[hreg]at h;simp only[q56]at h;omega
   refine wk 9 ?_;refine dq 153 (Ak Ai rfl rfl rfl rfl rfl rfl (q46 _) (Aw hnk) rfl) ?_;refine wk 1 ?_;refine dq 155 (Ak Ai rfl rfl rfl rfl rfl rfl hkr.1 (by rw[q54,hrow2];rfl) rfl) ?_;refine wk 2 ?_;obtain⟨must,hmu⟩:=Af (l:=row2) (k:=k) z144q;refine dq 158 (Ak Ai rfl rfl rfl rfl rfl rfl (q46 _) (Aw hmu) rfl) ?_;refine wk 2 ?_;refine DOps.split 160 rfl (fun hb14=>?_) (fun hb14=>?_)
   .
    have hmt:must=true:=by simpa using hb14
    have hxv:=hoa.at (z:=(k:Int)) z144q;have hyv:=hob.at (z:=(k:Int)) z144q;refine wk 5 ?_;refine dq 166 (AR Ai rfl rfl rfl rfl rfl rfl rfl rfl hxv.1 hxv.2.2.1) ?_;refine dq 167 (Ar Ai rfl rfl rfl (ptsJ rfl (BQ ⟨hxv.1,hxv.2.1⟩)) rfl) ?_;refine wk 5 ?_;refine dq 173 (AR Ai rfl rfl rfl rfl rfl rfl rfl rfl hyv.1 hyv.2.2.1) ?_;refine dq 174 (Ar Ai rfl rfl rfl (ptsJ rfl (BQ ⟨hyv.1,hyv.2.1⟩)) rfl) ?_;refine wk 3 ?_;refine asp 176 (fun hb15=>?_) fun hb15=>?_
    .
     refine act ?_;have hag:=hb15;exact nH
    refine acf ?_;have hag:=hb15;exact j4
   refine wk 18 ?_;have hag:=hb14;exact j4
  refine acf ?_;have hkge:row2.length<=k:=by have h:=hb13;rw[hreg]at h;simp only[q16]at h;omega
  exact rp
 refine acf ?_;have hjge:next.length<=j:=by have h:=hb12;simp only[q76,q16]at h;omega
 exact nT
theorem bq(old new:BFunc)(hno:old.blocks.length<=10000)(hnn:new.blocks.length<=10000)(hio:∀x∈old.blocks,x.ins.length<=10000/\H6 x.ins)(hin:∀x∈new.blocks,x.ins.length<=10000/\H6 x.ins):APure Tryz.prog 48 [.agg old.cells,.agg new.cells] (fun r=>r=.bool (vshaped old new)):=by
 refine APure.of_body (n:=68) Ai Tryz.func48 rfl rfl ?_;refine HG ?_;refine ax 2 (D4 2 0) ?_;refine ax 3 (D4 2 1) ?_;refine wk 6 ?_;refine ax 9 (CW Tryz.func69 (ij old z144q (fun x hx=>by have:=(hio x hx).1;omega))) ?_;refine wk 2 ?_;refine CM 11 (fun hb1=>?_) fun hb1=>?_
 .
  refine wk 26 ?_;exact jY
 refine wk 1 ?_;refine ax 13 (CW Tryz.func69 (ij new z144q (fun x hx=>by have:=(hin x hx).1;omega))) ?_;refine wk 3 ?_;refine CM 16 (fun hb2=>?_) fun hb2=>?_
 .
  refine wk 21 ?_;exact jY
 refine wk 7 ?_;refine CM 23 (fun hb3=>?_) fun hb3=>?_
 .
  refine wk 14 ?_;exact jY
 refine wk 9 ?_;refine asp 31 (fun hb4=>?_) fun hb4=>?_
 .
  refine wk 5 ?_;exact jY
 refine acf ?_;have hlen:=lN Bm;refine wk 7 ?_;refine AK (γ:=Nat) 2 (fun k=>⟨68,(Aa (Aa (Aa AZ 2 (.ptr 0 1 0 0)) 3 (.ptr 1 1 0 0)) 5 (.int .i64 (k:Int))),(hput (hput (Bc 2) 0 (.row false 2 [old.cells])) 1 (.row false 2 [new.cells]))⟩) (fun k=>k<=old.blocks.length/\((old.blocks.zip new.blocks).take k).all (fun p=>EC p.1 p.2)=true) (fun k=>old.blocks.length-k) 0 (Sub.mk' DB CX) ⟨qZ1 _,rfl⟩ (fun _=>Ab (Ab (fun b hb=>Ay hb) rfl) rfl) ?_;intro k ⟨hk,hall⟩;refine wk 9 ?_;refine asp 36 (fun hb5=>?_) fun hb5=>?_
 .
  refine act ?_;have hkl:k<old.blocks.length:=by simpa using hb5
  obtain⟨x,hx⟩:=Af hkl;obtain⟨y,hy⟩:=Af (l:=new.blocks) (k:=k) z144q;refine wk 8 ?_;refine dq 42 (Hc Ai (Aw hx)) ?_;refine wk 4 ?_;refine dq 47 (Hc Ai (Aw hy)) ?_;refine wk 1 ?_;refine dx 6 (Eg Ai 2) ?_;refine dx 7 (Eg Ai 3) ?_;refine wk 11 ?_;refine CM 54 (fun hb6=>?_) fun hb6=>?_
  .
   refine wk 19 ?_;exact pd
  refine wk 7 ?_;refine CM 61 (fun hb7=>?_) fun hb7=>?_
  .
   refine wk 12 ?_;exact pd
  refine wk 7 ?_;refine asp 67 (fun hb8=>?_) fun hb8=>?_
  .
   refine wk 5 ?_;exact pd
  refine wk 4 ?_;refine aq 38 (A2 rfl rfl hkl (show old.blocks.length<=maxLen by simp only[maxLen];omega)) ?_;refine wk 2 ?_;exact⟨k+1,Drop.mk' Gt IX,⟨hkl,Dw (Mi hx hy) hall (kO Bm Bm Bm)⟩,by omega⟩
 refine acf ?_;have hge:old.blocks.length<=k:=by simpa using hb5
 refine wk 5 ?_;refine DY ⟨[_],⟨rfl,trivial⟩,?_,rfl⟩;refine bc ?_;exact(Nk (Hq Bm) hlen (H3 Bm) (H3 Bm) (all_end hall (by rw[List.length_zip];omega))).symm
theorem bn(f:BFunc)(c:Cert)(hcl:c.same.length<=2000000):APure Tryz.prog 49 [.agg f.cells,.agg c.cells] (fun r=>r=.bool (Eb f c)):=by
 refine APure.of_body (n:=29) Ai Tryz.func49 rfl rfl ?_;refine HG ?_;refine ax 2 (D4 2 0) ?_;refine ax 3 (D4 1 1) ?_;refine wk 13 ?_;refine asp 12 (fun hb1=>?_) fun hb1=>?_
 .
  refine act ?_;have hne:=hb1;refine wk 4 ?_;refine DY ⟨[_],⟨rfl,trivial⟩,?_,rfl⟩;refine bc ?_;exact(Xu hne).symm
 refine acf ?_;have hcl2:=jj (old:=f) (c:=c) hb1;refine wk 7 ?_;refine AK (γ:=Nat) 2 (fun j=>⟨29,(Aa (Aa (Aa AZ 2 (.ptr 0 1 0 0)) 3 (.ptr 1 1 0 0)) 5 (.int .i64 (j:Int))),(hput (hput (Bc 2) 0 (.row false 2 [f.cells])) 1 (.row false 1 [c.cells]))⟩) (fun j=>j<=c.same.length/\(c.same.take j).all (fun r=>decide ((r.length:Int)=f.regs))=true) (fun j=>c.same.length-j) 0 (Sub.mk' DB CX) ⟨qZ1 _,rfl⟩ (fun _=>Ab (Ab (fun b hb=>Ay hb) rfl) rfl) ?_;intro j ⟨hj,hall⟩;refine wk 9 ?_;refine asp 17 (fun hb2=>?_) fun hb2=>?_
 .
  refine act ?_;have hjl:j<c.same.length:=by have h:=hb2;simp only[q76,q56]at h;omega
  obtain⟨r,hr⟩:=Af hjl;refine wk 8 ?_;refine dq 23 (Hc Ai (Aw hr)) ?_;refine wk 6 ?_;refine asp 28 (fun hb3=>?_) fun hb3=>?_
  .
   refine act ?_;have hbad:¬(r.length:Int)=f.regs:=by have h:=On hb3;rw[q76]at h;exact h
   refine wk 4 ?_;refine DY ⟨[_],⟨rfl,trivial⟩,?_,rfl⟩;refine bc ?_;exact(Xt hr hbad).symm
  refine acf ?_;have heq:(r.length:Int)=f.regs:=by have h:=Hq hb3;rw[q76]at h;exact h
  refine wk 3 ?_;refine aq 19 (A2 rfl rfl hjl (show c.same.length<=maxLen by simp only[maxLen];omega)) ?_;refine wk 2 ?_;exact⟨j+1,Drop.mk' Gt IX,⟨hjl,Dw hr hall (q96 heq)⟩,by omega⟩
 refine acf ?_;have hjge:c.same.length<=j:=by have h:=hb2;simp only[q76,q16]at h;omega
 refine wk 5 ?_;refine DY ⟨[_],⟨rfl,trivial⟩,?_,rfl⟩;refine bc ?_;exact(Xs hcl2 (all_end hall hjge)).symm
theorem bG(old new:BFunc)(hno:old.blocks.length<=10000)(hnn:new.blocks.length<=10000)(hio:∀x∈old.blocks,x.ins.length<=10000/\H6 x.ins)(hin:∀x∈new.blocks,x.ins.length<=10000/\H6 x.ins)(c:Cert)(hcl0:c.same.length<=2000000):APure Tryz.prog 38 [.agg old.cells,.agg new.cells,.agg c.cells] (fun r=>r=.bool (Fc old new c)):=by
 refine APure.of_body (n:=38) Ai Tryz.func38 rfl rfl ?_;refine HG ?_;refine ax 3 (D4 2 0) ?_;refine ax 4 (D4 2 1) ?_;refine ax 5 (D4 1 2) ?_;refine wk 7 ?_;refine ax 11 (CW Tryz.func48 (bq old new hno hnn hio hin)) ?_;refine wk 2 ?_;refine CM 13 (fun hb1=>?_) fun hb1=>?_
 .
  refine wk 11 ?_;exact nX
 refine wk 2 ?_;refine ax 16 (CW Tryz.func49 (bn old c hcl0)) ?_;refine wk 3 ?_;refine asp 18 (fun hb2=>?_) fun hb2=>?_
 .
  refine wk 5 ?_;exact nX
 refine acf ?_;have hsh:vshaped old new=true:=H3 Bm;have hsz:Eb old c=true:=H3 Bm;obtain⟨hcl,hall2⟩:=bo hsz;have hV:=Ii hsh;have hSo:=Fy hV.so;have hSn:=Fy hV.sn;have hr0:=hSo.r0;have hr1:=hSo.r1;have hR:((old.regs.toNat:Nat):Int)=old.regs:=q41 hr0;have hrl:∀r∈c.same,r.length=old.regs.toNat:=fun r hr=>by have:=hall2 r hr;omega
 refine wk 4 ?_;refine ax 20 (CW Tryz.func50 (fO old z144q)) ?_;refine wk 8 ?_;refine AK (γ:=Nat) 3 (fun k=>⟨38,(Aa (Aa (Aa (Aa (Aa AZ 3 (.ptr 0 1 0 0)) 4 (.ptr 1 1 0 0)) 5 (.ptr 2 1 0 0)) 7 (AO old.nexts)) 8 (.int .i64 (k:Int))),(hput (hput (hput (Bc 3) 0 (.row false 2 [old.cells])) 1 (.row false 2 [new.cells])) 2 (.row false 1 [c.cells]))⟩) (fun k=>k<=old.blocks.length/\((old.blocks.zip new.blocks).zipIdx.take k).all (fun p=>Gn old.regs.toNat p.1.1 p.1.2 c (p.2:Int) p.1.1.nexts)=true) (fun k=>old.blocks.length-k) 0 (Sub.mk' DB CX) ⟨qZ1 _,rfl⟩ (fun _=>Ab (Ab (Ab (fun b hb=>Ay hb) rfl) rfl) rfl) ?_;intro k ⟨hk,hallb⟩;refine wk 9 ?_;refine asp 25 (fun hb3=>?_) fun hb3=>?_
 .
  refine act ?_;have hkl:k<old.blocks.length:=by simpa using hb3
  obtain⟨x,hx⟩:=Af hkl;have hxm:=q33 hx;obtain⟨y,hy⟩:=Af (l:=new.blocks) (k:=k) (by have:=hV.len;omega);have hym:=q33 hy;have hsb:=hV.b k x y hx hy;have hnx:∀q∈x.nexts,0<=q/\q<c.same.length:=fun q hq=>by rw[hcl];exact hSo.next x hxm q hq
  have hvv:x.fin=2->(0<=x.v/\x.v<(old.regs.toNat:Int))/\(0<=y.v/\y.v<(old.regs.toNat:Int)):=fun hf=>by rw[hR];refine⟨hSo.v x hxm hf,?_⟩;rw[hV.regs];exact hSn.v y hym (by rw[<-hsb.1];exact hf)
  have hto:∀t∈x.ins,Nb t old.regs.toNat:=fun t ht=>hSo.tacs x hxm t ht ((hio x hxm).2 t ht)
  have htn:∀t∈y.ins,Nb t old.regs.toNat:=fun t ht=>by rw[hV.regs];exact hSn.tacs y hym t ht ((hin y hym).2 t ht)
  have hnl:x.nexts.length<=100000:=nexts_short x;refine wk 5 ?_
  skip
  refine wk 6 ?_;refine dq 34 (Ak Ai rfl rfl rfl rfl rfl rfl (q46 _) (Aw (CL hx)) rfl) ?_;refine wk 1 ?_;refine dx 36 (CW Tryz.func51 (bH old new x y old.regs.toNat c (k:Int) x.nexts hR.symm z144q hx hy hrl z144q hnx hvv hto htn (hio x (q33 hx)).1 (hin y (q33 hy)).1 hnl)) ?_;refine dq 37 (Nu rfl rfl) ?_;refine wk 1 ?_;refine asp 37 (fun hb4=>?_) fun hb4=>?_
  .
   refine act ?_;have hbad:=GV hb4;refine wk 4 ?_;refine DY ⟨[_],⟨rfl,trivial⟩,?_,rfl⟩;refine bc ?_;exact(Xz hx hy hbad).symm
  refine acf ?_;have hgood:=H3 hb4;refine wk 3 ?_;refine aq 27 (A2 rfl rfl hkl (show old.blocks.length<=maxLen by simp only[maxLen];omega)) ?_;refine wk 2 ?_;exact⟨k+1,Drop.mk' Gt IX,⟨hkl,Dw (B8 (Mi hx hy)) hallb hgood⟩,by omega⟩
 refine acf ?_;have hge:old.blocks.length<=k:=by simpa using hb3
 refine wk 5 ?_;refine DY ⟨[_],⟨rfl,trivial⟩,?_,rfl⟩;refine bc ?_;exact(Xy hsh hsz (all_end hallb (by rw[List.length_zipIdx,List.length_zip];omega))).symm
theorem HU(paths:List (List Int))(k i:Int)(hpn:∀p∈paths,p≠[]):APure Tryz.prog 68 [AO paths,.int .i64 k,.int .i64 i] (fun r=>r=.bool (D6 paths k i)):=by
 refine APure.of_body (n:=25) Ai Tryz.func68 rfl rfl ?_;refine wk 9 ?_;refine CM 9 (fun hb1=>?_) fun hb1=>?_
 .
  refine wk 6 ?_;refine CM 15 (fun hb2=>?_) fun hb2=>?_
  .
   have hkr:0<=k/\k<paths.length:=by simp_all[AO]<;>omega
   have hpk:=MK hkr;have hp0:=Se (hpn _ (q33 hpk));refine wk 2 ?_;refine aq 18 (Ak Ai rfl rfl rfl rfl rfl rfl hkr.1 (EK hpk) rfl) ?_;refine wk 1 ?_;refine aq 20 (Ak Ai rfl rfl rfl rfl rfl rfl Aj (cs:=[.int .i64 (EM (Dz paths k))]) (by show(List.map (fun b=>[AV.int .i64 b]) (Dz paths k))[0]?=_;rw[q54,hp0];rfl) rfl) ?_;refine wk 6 ?_;exact eu
  refine wk 11 ?_;exact eu
 refine wk 17 ?_;exact eu
theorem gN(old:BFunc)(b:Block)(paths:List (List Int))(p:List Int)(hpn:∀p∈paths,p≠[])(hp:oG old.blocks.length p)(hpl:p.length<=2000000)(hbl:b.ins.length<=1000000000)(hol:∀x∈old.blocks,x.ins.length<=1000000000):APure Tryz.prog 47 [.agg old.cells,.agg b.cells,AO paths,AS p] (fun r=>r=.bool (QJ old b paths p)):=by
 have hpos:0<p.length:=q43.2 hp.1;refine APure.of_body (n:=143) Ai Tryz.func47 rfl rfl ?_;refine HG ?_;refine ax 4 (D4 2 0) ?_;refine ax 5 (D4 5 1) ?_;refine wk 12 ?_;refine AK (γ:=Nat) 2 (fun k=>⟨143,(Aa (Aa (Aa (Aa (Aa (Aa AZ 2 (AO paths)) 3 (AS p)) 4 (.ptr 0 1 0 0)) 5 (.ptr 1 1 0 0)) 10 (.int .i64 (k:Int))) 9 (.int .i64 (((old.joined (p.take k)).length:Nat):Int))),(hput (hput (Bc 2) 0 (.row false 2 [old.cells])) 1 (.row false 5 [b.cells]))⟩) (fun k=>k<=p.length/\b.ins.take (old.joined (p.take k)).length=old.joined (p.take k)/\((List.range (p.length-1)).take k).all (NX old p)=true) (fun k=>p.length-k) 0 (Sub.mk' B5 CX) ⟨qZ1 _,by simp[BFunc.joined],rfl⟩ (fun _=>Ab (Ab (fun b hb=>Ay hb) rfl) rfl) ?_;intro k hF;refine wk 8 ?_;refine asp 19 (fun hb1=>?_) fun hb1=>?_
 .
  refine act ?_;have hkl:k<p.length:=DT hb1;obtain⟨y,hy⟩:=Af hkl;have hyr:=hp.2 y (q33 hy);have hyb:=Bv hyr;have hxl:=hol _ (q33 hyb);refine wk 9 ?_;refine dq 26 (Hc Ai (Aw hy)) ?_;refine wk 1 ?_;refine dq 28 (Ak Ai rfl rfl rfl rfl rfl rfl hyr.1 (EK hyb) rfl) ?_;refine wk 1 ?_;refine dx 11 (Eg Ai 2) ?_;refine wk 8 ?_;refine AK (γ:=Nat) 3 (fun j=>⟨143,(Aa (Aa (Aa (Aa (Aa (Aa (Aa (Aa AZ 2 (AO paths)) 3 (AS p)) 4 (.ptr 0 1 0 0)) 5 (.ptr 1 1 0 0)) 10 (.int .i64 (k:Int))) 9 (.int .i64 (((old.joined (p.take k)).length+j:Nat):Int))) 11 (.ptr 2 1 0 0)) 12 (.int .i64 (j:Int))),(hput (hput (hput (Bc 3) 0 (.row false 2 [old.cells])) 1 (.row false 5 [b.cells])) 2 (.row false 5 [(old.blockAt y).cells]))⟩) (fun j=>j<=(old.blockAt y).ins.length/\b.ins.take ((old.joined (p.take k)).length+j)=old.joined (p.take k)++(old.blockAt y).ins.take j) (fun j=>(old.blockAt y).ins.length-j) 0 (Sub.mk' B5 CX) ⟨qZ1 _,by rw[qX5,List.take_zero,q91];exact hF.2.1⟩ (fun _=>Ab (Ab (Ab (fun b hb=>Ay hb) rfl) rfl) rfl) ?_
  intro j hG;refine wk 9 ?_;refine asp 34 (fun hb2=>?_) fun hb2=>?_
  .
   refine act ?_;have hjl:j<(old.blockAt y).ins.length:=DT hb2;obtain⟨u,hu⟩:=Af hjl;have hbnd:(old.joined (p.take k)).length+j<=b.ins.length:=by
    have h:=congrArg List.length hG.2;rw[q69,q48,q69]at h;omega
   refine wk 12 ?_;refine DOps.split 42 rfl (fun hb3=>?_) (fun hb3=>?_)
   .
    refine wk 18 ?_;exact qZ
   have hnb:(old.joined (p.take k)).length+j<b.ins.length:=by have h:=hb3;simp at h;omega
   obtain⟨v,hv⟩:=Af hnb;refine wk 3 ?_;refine dq 46 (Hc Ai (Aw hv)) ?_;refine wk 4 ?_;refine dq 51 (Hc Ai (Aw hu)) ?_;refine wk 1 ?_;refine dq 53 (ES Ai true rfl rfl rfl AF rfl rfl rfl rfl (Tac.eqCells v u)) ?_;refine dq 54 (Et false rfl rfl rfl rfl) ?_;refine wk 1 ?_;refine asp 54 (fun hb4=>?_) fun hb4=>?_
   .
    refine wk 5 ?_;exact qZ
   refine acf ?_;have huv:v=u:=by have h:=hb4;simpa using h
   refine wk 3 ?_;refine aq 56 (A2 rfl rfl hnb Be) ?_;refine wk 4 ?_;refine aq 36 (A2 rfl rfl hjl Be) ?_;refine wk 2 ?_;exact⟨j+1,Drop.mk' Gt IX,⟨hjl,bf hG.2 hu (huv▸hv)⟩,by omega⟩
  refine acf ?_;have hge2:=DW hb2;have htb:=W5 hy hG.2 (by have:=hG.1;omega);refine wk 4 ?_;refine dq 58 (A2 rfl rfl hkl Be) ?_;refine wk 4 ?_;refine DOps.split 62 rfl (fun hb5=>?_) (fun hb5=>?_)
  .
   have hk1:k<p.length-1:=by have h:=hb5;simp at h;omega
   obtain⟨z,hz⟩:=Af (l:=p) (k:=k+1) z144q;have hat:NX old p k=((old.blockAt y).fin==1&&(old.blockAt y).to==z):=by rw[NX,VM hy,VM hz]
   refine wk 4 ?_;refine DOps.split 66 rfl (fun hb6=>?_) (fun hb6=>?_)
   .
    refine wk 16 ?_;exact ni
   refine wk 4 ?_;refine dq 71 (A2 rfl rfl hkl Be) ?_;refine dq 72 (Ak Ai rfl rfl rfl rfl rfl rfl (q46 _) (cs:=[.int .i64 z]) (by rw[q55];show(List.map (fun b=>[AV.int .i64 b]) p)[k+1]?=_;rw[q54,hz];rfl) rfl) ?_;refine wk 5 ?_;refine asp 76 (fun hb7=>?_) fun hb7=>?_
   .
    refine wk 5 ?_;exact ni
   refine wk 4 ?_;exact ry
  refine wk 19 ?_;exact ry
 refine acf ?_;have hge:=DW hb1;obtain rfl:k=p.length:=by have:=hF.1;omega
 have hall:G5 old p=true:=all_end hF.2.2 z145q;have hmd:=ck (f:=old) (b:=b.ins) (p:=p) (by have h:=hF.2.1;rwa[q20 (qZ0 _)]at h);have hjp:List.take p.length p=p:=q20 (qZ0 _);rw[hjp];have hlast:=hp.2 _ (Jm hp.1);refine wk 8 ?_;refine dq 82 (A1 (r:=.int .i64 ((p.length-1:Nat):Int)) rfl rfl rfl (by rw[q76];exact LJ hpos z144q)) ?_;refine dq 83 (Ak Ai rfl rfl rfl rfl rfl rfl (q46 _) (cs:=[.int .i64 (AT p)]) (by show(List.map (fun b=>[AV.int .i64 b]) p)[_]?=_;rw[q55,q54,PF hp.1];rfl) rfl) ?_;refine wk 1 ?_;refine dq 85 (Ak Ai rfl rfl rfl rfl rfl rfl hlast.1 (EK (Bv hlast)) rfl) ?_;refine wk 1 ?_;refine dx 13 (Eg Ai 2) ?_;refine wk 11 ?_;refine CM 92 (fun hb8=>?_) fun hb8=>?_
 .
  refine wk 19 ?_;exact pj
 refine wk 7 ?_;refine CM 99 (fun hb9=>?_) fun hb9=>?_
 .
  refine wk 12 ?_;exact pj
 refine wk 7 ?_;refine asp 105 (fun hb10=>?_) fun hb10=>?_
 .
  refine wk 5 ?_;exact pj
 refine wk 18 ?_;refine CM 114 (fun hb11=>?_) fun hb11=>?_
 .
  refine wk 12 ?_;refine ax 124 (CW Tryz.func68 (HU _ _ _ hpn)) ?_;refine wk 18 ?_;refine asp 132 (fun hb12=>?_) fun hb12=>?_
  .
   refine wk 7 ?_;refine ax 138 (CW Tryz.func68 (HU _ _ _ hpn)) ?_;refine wk 6 ?_;refine CM 140 (fun hb13=>?_) fun hb13=>?_
   .
    exact dI
   exact dI
  refine wk 6 ?_;refine CM 140 (fun hb14=>?_) fun hb14=>?_
  .
   exact dI
  exact dI
 refine wk 5 ?_;refine asp 118 (fun hb15=>?_) fun hb15=>?_
 .
  refine wk 7 ?_;refine ax 124 (CW Tryz.func68 (HU _ _ _ hpn)) ?_;refine wk 18 ?_;refine asp 132 (fun hb16=>?_) fun hb16=>?_
  .
   refine wk 7 ?_;refine ax 138 (CW Tryz.func68 (HU _ _ _ hpn)) ?_;refine wk 6 ?_;refine CM 140 (fun hb17=>?_) fun hb17=>?_
   .
    exact dI
   exact dI
  refine wk 6 ?_;refine CM 140 (fun hb18=>?_) fun hb18=>?_
  .
   exact dI
  exact dI
 refine wk 18 ?_;refine asp 132 (fun hb19=>?_) fun hb19=>?_
 .
  refine wk 7 ?_;refine ax 138 (CW Tryz.func68 (HU _ _ _ hpn)) ?_;refine wk 6 ?_;refine CM 140 (fun hb20=>?_) fun hb20=>?_
  .
   exact dI
  exact dI
 refine wk 6 ?_;refine CM 140 (fun hb21=>?_) fun hb21=>?_
 .
  exact dI
 exact dI
theorem UZ(old new:BFunc)(paths:List (List Int))(hol:∀x∈old.blocks,x.ins.length<=1000000000)(hnl:∀x∈new.blocks,x.ins.length<=1000000000)(hpl:paths.length<=2000000)(hps:∀p∈paths,p.length<=2000000):APure Tryz.prog 37 [.agg old.cells,.agg new.cells,AO paths] (fun r=>r=.bool (Ej old new paths)):=by
 refine APure.of_body (n:=95) Ai Tryz.func37 rfl rfl ?_;refine HG ?_;refine ax 3 (D4 2 0) ?_;refine ax 4 (D4 2 1) ?_;refine wk 12 ?_;refine CM 16 (fun hb1=>?_) fun hb1=>?_
 .
  refine wk 17 ?_;exact oZ
 refine wk 5 ?_;refine CM 21 (fun hb2=>?_) fun hb2=>?_
 .
  refine wk 12 ?_;exact oZ
 refine wk 7 ?_;refine asp 27 (fun hb3=>?_) fun hb3=>?_
 .
  refine wk 5 ?_;exact oZ
 refine acf ?_;have h0:paths.length≠0/\paths.length=new.blocks.length/\old.regs=new.regs:=by
  have h1:=hb1;have h2:=hb2;have h3:=hb3;simp only[q76,bne_eq_false_iff_eq,q40,ne_eq]at h1 h2 h3;exact⟨by omega,by omega,h3⟩
 refine wk 7 ?_;refine AK (γ:=Nat) 2 (fun k=>⟨95,(Aa (Aa (Aa (Aa AZ 2 (AO paths)) 3 (.ptr 0 1 0 0)) 4 (.ptr 1 1 0 0)) 7 (.int .i64 (k:Int))),(hput (hput (Bc 2) 0 (.row false 2 [old.cells])) 1 (.row false 2 [new.cells]))⟩) (fun k=>(paths.take k).all (FB old.blocks.length)=true) (fun k=>paths.length-k) 0 (Sub.mk' B5 CX) rfl (fun _=>Ab (Ab (fun b hb=>Ay hb) rfl) rfl) ?_;intro k hF;refine wk 8 ?_;refine asp 31 (fun hb4=>?_) fun hb4=>?_
 .
  refine act ?_;have hkl:k<paths.length:=DT hb4;obtain⟨p,hp⟩:=Af hkl;have hpp:=hps p (q33 hp);refine wk 8 ?_;refine aq 36 (Hc Ai (Aw hp)) ?_;refine wk 4 ?_;refine asp 39 (fun hb5=>?_) fun hb5=>?_
  .
   refine act ?_;have hpe:(p.length==0)=true:=by have h:=hb5;simp at h;simp[h]
   refine wk 4 ?_;refine DY ⟨[_],⟨rfl,trivial⟩,?_,rfl⟩;refine bc ?_;exact(Qe (D7 hp (by simp[FB,hpe]))).symm
  refine acf ?_;have hpe:(p.length==0)=false:=by have h:=hb5;simp at h;simp[h]
  refine wk 6 ?_;refine AK (γ:=Nat) 2 (fun j=>⟨95,(Aa (Aa (Aa (Aa (Aa AZ 2 (AO paths)) 3 (.ptr 0 1 0 0)) 4 (.ptr 1 1 0 0)) 7 (.int .i64 (k:Int))) 8 (.int .i64 (j:Int))),(hput (hput (Bc 2) 0 (.row false 2 [old.cells])) 1 (.row false 2 [new.cells]))⟩) (fun j=>(p.take j).all (fun i=> !(decide (i<0))&& !(decide (i>=(old.blocks.length:Int))))=true) (fun j=>p.length-j) 0 (Sub.mk' B5 CX) rfl (fun _=>Ab (Ab (fun b hb=>Ay hb) rfl) rfl) ?_;intro j hG;refine wk 6 ?_;refine aq 43 (Hc Ai (Aw hp)) ?_;refine wk 4 ?_;refine asp 46 (fun hb6=>?_) fun hb6=>?_
  .
   refine act ?_;have hjl:j<p.length:=DT hb6;obtain⟨y,hy⟩:=Af hjl;refine wk 7 ?_;refine dq 51 (Hc Ai (Aw hp)) ?_;refine wk 2 ?_;refine dq 54 (Hc Ai (Aw hy)) ?_;refine wk 3 ?_;refine DOps.split 57 rfl (fun hb7=>?_) (fun hb7=>?_)
   .
    refine wk 18 ?_;exact n6
   refine wk 2 ?_;refine dq 60 (Hc Ai (Aw hp)) ?_;refine wk 2 ?_;refine dq 63 (Hc Ai (Aw hy)) ?_;refine wk 7 ?_;refine asp 69 (fun hb8=>?_) fun hb8=>?_
   .
    refine wk 5 ?_;exact n6
   refine wk 4 ?_;refine aq 48 (A2 rfl rfl hjl Be) ?_;refine wk 2 ?_;exact⟨j+1,Drop.mk' Gt IX,(Dw hy hG (by simp_all[BZ])),by omega⟩
  refine acf ?_;have hge2:=DW hb6;refine wk 3 ?_;refine aq 33 (A2 rfl rfl hkl Be) ?_;refine wk 2 ?_;exact⟨k+1,Drop.mk' Gt IX,(Dw hp hF (by simp only[FB,hpe,Bool.not_false,qQ5];exact all_end hG hge2)),by omega⟩
 refine acf ?_;have hge:=DW hb4;have hall:=all_end hF hge;have hp00:=MK (paths:=paths) (k:=0) z144q;have hp01:=Se (Ip (q67.1 hall _ (q33 hp00))).1;refine wk 5 ?_;refine aq 71 (Ak Ai rfl rfl rfl rfl rfl rfl Aj (cs:=F1 (Dz paths 0)) (EK hp00) rfl) ?_;refine wk 1 ?_;refine aq 73 (Ak Ai rfl rfl rfl rfl rfl rfl Aj (cs:=[.int .i64 (EM (Dz paths 0))]) (by show(List.map (fun b=>[AV.int .i64 b]) (Dz paths 0))[0]?=_;rw[q54,hp01];rfl) rfl) ?_;refine wk 3 ?_;refine asp 75 (fun hb9=>?_) fun hb9=>?_
 .
  refine act ?_;have hz:=hb9;refine wk 4 ?_;refine DY ⟨[_],⟨rfl,trivial⟩,?_,rfl⟩;refine bc ?_;exact(Yr hz).symm
 refine acf ?_;have hz:=hb9;refine wk 7 ?_;refine AK (γ:=Nat) 2 (fun k=>⟨95,(Aa (Aa (Aa (Aa AZ 2 (AO paths)) 3 (.ptr 0 1 0 0)) 4 (.ptr 1 1 0 0)) 9 (.int .i64 (k:Int))),(hput (hput (Bc 2) 0 (.row false 2 [old.cells])) 1 (.row false 2 [new.cells]))⟩) (fun k=>(paths.zipIdx.take k).all (Ko old new paths)=true) (fun k=>paths.length-k) 0 (Sub.mk' B5 CX) rfl (fun _=>Ab (Ab (fun b hb=>Ay hb) rfl) rfl) ?_;intro k hS;refine wk 8 ?_;refine asp 79 (fun hb10=>?_) fun hb10=>?_
 .
  refine act ?_;have hkl:k<paths.length:=DT hb10;obtain⟨p,hp⟩:=Af hkl;have hpp:=hps p (q33 hp);have hpin:=Ip (q67.1 hall p (q33 hp));have hnb:new.blocks[((k:Nat):Int).toNat]?=some (new.blockAt k):=Bv z144q;refine wk 9 ?_;refine dq 86 (Ak Ai rfl rfl rfl rfl rfl rfl (q46 _) (cs:=(new.blockAt k).cells) (EK hnb) rfl) ?_;refine wk 4 ?_;refine dq 91 (Hc Ai (Aw hp)) ?_;refine wk 1 ?_;refine dx 93 (CW Tryz.func47 (gN old (new.blockAt k) paths p (fun p hp=>(Ip (q67.1 hall p hp)).1) hpin hpp (hnl _ (q33 hnb)) hol)) ?_;refine dq 94 (Nu rfl rfl) ?_;refine wk 1 ?_;refine asp 94 (fun hb11=>?_) fun hb11=>?_
  .
   refine wk 5 ?_;refine DY ⟨[_],⟨rfl,trivial⟩,?_,rfl⟩;refine bc ?_;exact(Yq (D7 (B8 hp) (by rw[Re];simpa using(show(!QJ old (new.blockAt k) paths p)=true from ‹_›)))).symm
  refine wk 4 ?_;refine aq 81 (A2 rfl rfl hkl Be) ?_;refine wk 2 ?_;exact⟨k+1,Drop.mk' Gt IX,(Dw (B8 hp) hS (by rw[Re];simpa using(show(!QJ old (new.blockAt k) paths p)=false from ‹_›))),by omega⟩
 refine acf ?_;have hge3:=DW hb10;refine wk 5 ?_;refine DY ⟨[_],⟨rfl,trivial⟩,?_,rfl⟩;refine bc ?_;exact(Yp h0.1 h0.2.1 h0.2.2 hall hz (all_end hS (by rw[List.length_zipIdx];exact hge3))).symm
theorem fP(k:Int):APure Tryz.prog 22 [.int .i64 k] (fun r=>r=.bool (kind35 k)):=by
 refine APure.of_body (n:=9) Ai Tryz.func22 rfl rfl ?_;refine wk 9 ?_;refine CM 5 (fun hb1=>?_) fun hb1=>?_
 .
  exact nh
 exact nh
theorem UU(f:BFunc)(p:OPass)(hf:I35 f)(hp:y4 p)(hcl:p.cert.same.length<=1048576):APure Tryz.prog 24 [.agg f.cells,.agg p.cells] (fun r=>r=.bool (p.holds f)):=by
 have hr:p.holds f=p.rholds f:=lV hf.w hp.f.w;refine APure.of_body (n:=38) Ai Tryz.func24 rfl rfl ?_;refine HG ?_;refine ax 2 (D4 2 0) ?_;refine ax 3 (D4 5 1) ?_;refine wk 9 ?_;refine asp 7 (fun hb1=>?_) fun hb1=>?_
 .
  refine act ?_;have h4:p.kind=4:=by simpa using hb1
  have hr4:p.rholds f=(p.cert.same.isEmpty&&Ej f p.f p.paths):=by unfold OPass.rholds;rw[h4];rfl
  refine wk 8 ?_;refine CM 13 (fun hb2=>?_) fun hb2=>?_
  .
   refine wk 5 ?_;refine ax 19 (CW Tryz.func37 (UZ f p.f p.paths (fun x hx=>qX2 (hf.i x hx).1 Aj) (fun x hx=>qX2 (hp.f.i x hx).1 Aj) (qX2 hp.n Aj) (fun q hq=>qX2 (hp.q q hq) Aj))) ?_;refine wk 3 ?_;exact nx
  refine wk 9 ?_;exact nx
 refine acf ?_;have h4:p.kind≠4:=by simpa using hb1
 have hr4:p.rholds f=(kind35 p.kind&&(p.paths.isEmpty&&Fc f p.f p.cert)):=by unfold OPass.rholds;rw[q40.2 h4];rfl
 refine wk 5 ?_;refine ax 23 (CW Tryz.func22 (fP p.kind)) ?_;refine wk 1 ?_;refine CM 24 (fun hb3=>?_) fun hb3=>?_
 .
  refine wk 6 ?_;refine CM 30 (fun hb4=>?_) fun hb4=>?_
  .
   refine wk 5 ?_;refine ax 36 (CW Tryz.func38 (bG f p.f hf.n hp.f.n hf.i hp.f.i p.cert (qX2 hcl Aj))) ?_;refine wk 3 ?_;exact oW
  refine wk 9 ?_;exact oW
 refine wk 15 ?_;exact oW
theorem kF:APure Tryz.prog 30 [] (fun r=>r=.agg (Zf tinyA).cells):=
 DZ (ct:=lG) (fz:=cx) (lg:=[]) Ai RJ AF 1000 AF (FF _)
theorem SZ:Gr Tryz.prog I2:=FI kF (FF _)
theorem jx(ho:APure Tryz.prog 15 WZ (fun r=>r=Ze))(hv:Gr Tryz.prog pV):APure Tryz.prog 14 [] (fun r=>r=.bool true):=
 DZ (ct:=zg) (fz:=cx) (lg:=I2++(pV++(I2++(I2++((15,WZ,Ze)::I2))))) Ai RJ AF 1000 AF
  (J4 SZ (J4 hv (J4 SZ (J4 SZ (FI ho SZ)))))
theorem WY:APure Tryz.prog 97 [.agg tinyBl.cells,.int .i64 3] (fun r=>r=SX):=by
 have hT:∀t∈tinyBl.ins,t.inR (3:Int):=fun t ht=>by
  simp only[tinyBl,q99,List.not_mem_nil,or_false]at ht;rcases ht with rfl|rfl<;>exact⟨by decide,by decide⟩
 have h:=Uy tinyBl 3 Aj Aj hT (fun h=>absurd h Aj);have e:AV.tup [.lst false (BE 3 (Ks tinyBl)),.lst false (BE 3 (fun v=>C3 v tinyBl.ins))]=SX:=by rfl
 rw[e]at h;exact QS rfl h
theorem kG:APure Tryz.prog 15 WZ (fun r=>r=Ze):=
 DZ (ct:=yK) (fz:=cx) (lg:=[(97,[.agg tinyBl.cells,.int .i64 3],SX)]) Ai RJ AF 1000 AF (FI WY (FF _))
theorem kB:Gr Tryz.prog pV:=
 FI (DZ (ct:=lG) (fz:=cx) (lg:=[]) Ai RJ AF 1000 AF (FF _))<|
 FI (DZ (ct:=lG) (fz:=cx) (lg:=[]) Ai RJ AF 1000 AF (FF _))<|
 FI (DZ (ct:=lG) (fz:=cx) (lg:=[]) Ai RJ AF 1000 AF (FF _)) (FF _)
set_option maxRecDepth 100000
theorem jO{P:Program}{γ:Type}{x y z:Code}{s:Al}{Q:Exit->Al->Prop}(inv:γ->Al)(F:γ->Prop)(h:AGo P x s (Ce (fun s'=>AGo P y s' (Ce (fun s''=>∃g,Sub (inv g) s''/\F g) Q)) Q))(k:∀g,F g->AGo P z (inv g) Q):AGo P (.seq x (.seq y z)) s Q:=
 AGo.seq (h.mono fun e s' hq=>by
  cases e with
  |normal=>exact AGo.seq (AGo.join inv F (AGo.mono hq fun e s h=>by cases e<;>exact h) k)
  |_=>exact hq)
theorem bR(f:BFunc)(k:Int)(hk:kind35 k=false):APure Tryz.prog 21 [.agg f.cells,.int .i64 k] (fun r=>r=.tup [.agg [.int .i64 0,.nil],.agg [.int .i64 0,.nil,.nil,.int .i64 0,.nil],.int .i64 1]):=by
 refine APure.of_body (n:=28) Ai Tryz.func21 rfl rfl ?_;refine wk 40 ?_;refine ax 2 (D4 2 0) ?_;refine ax 4 (Eg Ai 1) ?_;refine ax 5 (Eg Ai 2) ?_;refine wk 40 ?_;refine ax 13 (CW Tryz.func31 (TO k)) ?_;rw[hk];exact nO
theorem PS35.i35(h:PS35 n w f):I35 f:=⟨qX2 h.c Aj,h.i⟩
theorem PS35.p35(h:PS35 n w f)(k:Int):y4 (CN f k)/\(CN f k).cert.same.length<=1048576:=by
 have hi:=(h.step k).i35;have hl:=h.len.1;have hnil:∀r∈([]:List (List Int)),r.length<=1048576:=fun r hr=>by cases hr
 unfold CN at hi|-
 cases e1:k==1 with
 |true=>rw[e1]at hi;exact⟨⟨hi,qZ1 _,hnil⟩,by show f.all.same.length<=_;unfold BFunc.all;rw[q30];omega⟩
 |false=>
 cases e2:k==2 with
 |true=>rw[e1,e2]at hi;exact⟨⟨hi,qZ1 _,hnil⟩,by show f.fcert.same.length<=_;unfold BFunc.fcert;rw[q30];omega⟩
 |false=>
 cases e3:k==3 with
 |true=>rw[e1,e2,e3]at hi;exact⟨⟨hi,qZ1 _,hnil⟩,by show(EF (NN f)).length<=_;rw[EF,q76,List.length_range,(Jy (F7 f)).2];omega⟩
 |false=>
  rw[e1,e2,e3]at hi;exact⟨⟨hi,by show f.tpaths.length<=_;have:f.tpaths.length<=f.blocks.length:=Dr f _;omega,fun r hr=>by have:=EZ _ r hr;omega⟩,qZ1 _⟩
theorem W8(f:BFunc)(h:kind35 k=true):(CN f k).kind=k:=by
 unfold CN;rcases PJ h with e|e|e|e<;>subst e<;>rfl
theorem Vu{α:Type}{l:List α}{x:α}(f:α->List AV)(h:l[l.length-1]?=some x)(hl:0<l.length):(l.map f)[((l.length:Int)-1).toNat]?=some (f x):=by
 rw[show((l.length:Int)-1).toNat=l.length-1 by omega,q54,h];rfl
theorem MM(b:Blocks)(ks:List Int)(kd:Int)(hL:b.Lim)(hW:b.insW)(hkl0:ks.length<=1048576):APure Tryz.prog 7 [.agg b.cells,AS ks,.int .i64 kd] (fun r=>r=.bool true):=by
 have hawake:=jx kG kB;refine APure.of_body (n:=134) Ai Tryz.func7 rfl rfl ?_;refine wk 40 ?_;refine ax 3 (D4 2 0) ?_;refine wk 40 ?_;refine ax 19 (CW Tryz.func13 (Xd b hL)) ?_;refine wk 2 ?_;refine CM 21 (fun hb1=>?_) fun hb1=>?_
 . refine wk 40 ?_;exact dW
 have hsm:Hh b=true:=by simpa using hb1
 refine wk 5 ?_;refine CM 26 (fun hb2=>?_) fun hb2=>?_
 . refine wk 40 ?_;exact dW
 have hk4:ks.length<=4:=by have:=hb2;simp[AS]at this;omega
 refine wk 1 ?_;refine ax 28 (CW Tryz.func16 (XR ks hkl0)) ?_;refine wk 40 ?_;refine asp 30 (fun hb3=>?_) fun hb3=>?_
 . refine wk 40 ?_;exact dW
 have hps:ks.all kind35=true:=by have:=hb3;simp at this;exact q67.2 this.1
 have hv:=q67.1 hps;have hall:=All35.of hsm hW;have hne:b.funcs≠[]:=(KM hall.r).2.2.1;have hn0:0<b.funcs.length:=q43.2 hne;have hn6:=hall.n;obtain⟨f,hf⟩:=Af (l:=b.funcs) (k:=b.funcs.length-1) z144q;have hP:=hall.e _ f hf;have hw:b.words<=1048576:=(KM hall.r).2.1;refine wk 9 ?_;refine aq 37 (A1 (r:=.int .i64 ((b.funcs.length:Int)-1)) rfl rfl rfl (by rw[q76];exact fq z144q z144q rfl)) ?_;refine aq 38 (Ak Ai rfl rfl rfl rfl rfl rfl z144q (Vu BFunc.cells hf hn0) rfl) ?_;refine wk 1 ?_;refine ax 7 (Eg Ai 1) ?_;refine wk 2 ?_;refine jO (γ:=Unit) (fun _=>⟨134,(Aa (Aa (Aa AZ 1 (AS ks)) 3 (.ptr 0 1 0 0)) 7 (.ptr 1 1 0 0)),(hput (hput (Bc 4) 0 (.row false 2 [b.cells])) 1 (.row false 2 [f.cells]))⟩) (fun _=>True) ?_ ?_
 . cases hkd:kind35 kd with
   |false=>
    refine wk 40 ?_;refine ax 43 (CW Tryz.func21 (bR f kd hkd)) ?_;refine wk 40 ?_;refine ax 8 (Eg Ai 2) ?_;refine ax 9 (Eg Ai 3) ?_;refine wk 40 ?_;refine ax 48 (CW Tryz.func22 (Ph kd)) ?_;rw[hkd];exact ra
   |true=>
    have hG:=W8 f hkd;obtain⟨hp35,hcl⟩:=hP.p35 kd;refine wk 40 ?_;refine ax 43 (CW Tryz.func21 (Pg f (CN f) hP.passes kd hkd)) ?_;refine wk 40 ?_;refine ax 8 (Eg Ai 2) ?_;refine ax 9 (Eg Ai 3) ?_;refine wk 40 ?_;refine ax 48 (CW Tryz.func22 (Ph kd)) ?_;rw[hkd];refine wk 40 ?_;refine CM 71 (fun hb4=>?_) fun hb4=>?_
    . exfalso;simp[hG]at hb4
    refine wk 40 ?_;refine ax 75 (CW Tryz.func23 ((Lk (CN f kd).f (CN f kd).f ⟨by have:=hp35.f.n;omega,fun x hx=>by have:=(hp35.f.i x hx).1;omega⟩).mono (fun r h=>by rw[h,q96 rfl]))) ?_;refine wk 40 ?_;refine ax 81 (CW Tryz.func24 ((UU f (CN f kd) hP.i35 hp35 hcl).mono (fun r h=>by rw[h,hP.holds_g hw kd hkd]))) ?_;exact ra
 intro _ _;refine wk 40 ?_;refine ax 87 (CW Tryz.func15 (qk b hall ks z144q hv)) ?_;refine wk 40 ?_;refine ax 11 (Eg Ai 4) ?_;refine wk 40 ?_;refine asp 101 (fun hb5=>?_) fun hb5=>?_
 . exfalso;simp[XQ]at hb5
 refine wk 40 ?_;refine AK (γ:=Nat) 5 (fun j=>⟨134,(Aa (Aa (Aa (Aa (Aa AZ 1 (AS ks)) 3 (.ptr 0 1 0 0)) 7 (.ptr 1 1 0 0)) 11 (.ptr 4 1 0 0)) 14 (.int .i64 (j:Int))),(hput (hput (hput (Bc 5) 0 (.row false 2 [b.cells])) 1 (.row false 2 [(Mh CN (ks.take j) f).cells])) 4 (.row false 2 [(XQ b ks).cells]))⟩) (fun j=>j<=ks.length) (fun j=>ks.length-j) 0 (Sub.mk' B5 CX) (qZ1 _) (fun _=>Ab (Ab (Ab (fun b hb=>Ay hb) rfl) rfl) rfl) ?_;intro j hj;refine wk 40 ?_;refine asp 105 (fun hb6=>?_) fun hb6=>?_
 . have hjl:j<ks.length:=by have h:=hb6;simp at h;omega
   obtain⟨q,hq⟩:=Af hjl;have hPj:=(P0 (ks.take j) f hP).1;have hkq:=hv q (q33 hq);refine wk 40 ?_;refine dq 112 (Hc Ai (Aw hq)) ?_;refine wk 1 ?_;refine DOps.x 114 rfl rfl rfl (CW Tryz.func21 (Pg _ (CN _) hPj.passes q hkq)) ?_;refine wk 40 ?_;refine dx 15 (Eg Ai 5) ?_;refine dx 16 (Eg Ai 6) ?_;refine wk 18 ?_;refine aq 107 (A2 rfl rfl hjl Be) ?_;refine wk 40 ?_;exact⟨j+1,Drop.mk' Gt (by repeat(first|exact HDrop.none _ _|exact HDrop.tail _ _|refine HDrop.put ?_ (by first|rfl|exact congrArg (fun x=>some (AObj.row false 2 [BFunc.cells x])) (LZ hq).symm) rfl rfl)),hjl,by omega⟩
 have hge:ks.length<=j:=by have h:=hb6;simp at h;omega
 refine wk 40 ?_;rw[q20 hge];refine dx 121 (CW Tryz.func14 hawake) ?_;refine wk 7 ?_;have hlast:(XQ b ks).funcs[(XQ b ks).funcs.length-1]?=some (Mh CN ks f):=by
  show(b.funcs.map (Mh CN ks))[(b.funcs.map (Mh CN ks)).length-1]?=_;rw[q76,q54,hf];rfl
 have hlen:(XQ b ks).funcs.length=b.funcs.length:=q76 _;have hend:=(P0 ks f hP).1.i35;refine dq 129 (A1 (r:=.int .i64 (((XQ b ks).funcs.length:Int)-1)) rfl rfl rfl (by rw[q76];exact fq z144q z144q rfl)) ?_;refine dq 130 (Ak Ai rfl rfl rfl rfl rfl rfl z144q (Vu BFunc.cells hlast z144q) rfl) ?_;refine wk 1 ?_;refine dx 132 (CW Tryz.func23 ((Lk (Mh CN ks f) (Mh CN ks f) ⟨by have:=hend.n;omega,fun x hx=>by have:=(hend.i x hx).1;omega⟩).mono (fun r h=>by rw[h,q96 rfl]))) ?_;refine wk 40 ?_;exact⟨[_],⟨rfl,trivial⟩,rfl,rfl⟩
theorem LB(b:Blocks)(ks:List Int)(kd:Int)(hb:b.Lim/\b.insW)(hk:ks.length<=1048576)(hd:Ue kd):APure Tryz.prog 7 [.agg b.cells,AS ks,.int .i64 kd] (fun r=>r=.bool true):=MM b ks kd hb.1 hb.2 hk
end Go.Proofs.YtbbfelelocccmaaGreat.Sv
