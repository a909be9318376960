/-
  WALKS OF THE FORWARDING PASS (4): a function. Own work.
-/
import Derived.Test.YtbbfelelocccmaaGreatPOptimizeSteps6
import Derived.Test.YtbbfelelocccmaaGreatPOptimizeSteps3
import Derived.Test.YtbbfelelocccmaaGreatPOptimizeSteps4
import Derived.Test.YtbbfelelocccmaaGreatPOptimizeSteps2
import Derived.Test.YtbbfelelocccmaaGreatPOptimizeSteps5
import Derived.RangeFuncFrom
import Derived.TacticsIn
import Derived.RangeFuncLeaves
import Derived.RangeFuncKeeps
import Derived.Shelf.Abstract
import Derived.WalkKit
import Derived.OwnWalkIn
import Derived.TacticsInMore
import Derived.LoopNIn
import Derived.LoopIn
set_option linter.unusedVariables false
set_option linter.unusedSimpArgs false
set_option maxRecDepth 100000
set_option maxHeartbeats 2000000
namespace Go.Proofs.YtbbfelelocccmaaGreat.Sv
open Go
set_option maxRecDepth 100000
structure yO(f:BFunc):Prop where
  r0:0<=f.regs
  r1:f.regs<=4000
  n:f.blocks.length<=1048576
  i:∀x∈f.blocks,x.ins.length<=1048576
  t:∀x∈f.blocks,∀t∈x.ins,YC f.regs.toNat t
  v:∀x∈f.blocks,x.fin=2->0<=x.v/\x.v<f.regs.toNat
theorem forwardOf_ok(f:BFunc)(hf:yO f):APure Tryz.prog 42 [.agg f.cells] (fun r=>r=.tup [.agg f.forward.cells,.agg f.fcert.cells]):=by
 refine APure.of_body (n:=58) Ai Tryz.func42 rfl rfl ?_;have hn:=hf.n;have hr0:=hf.r0;have hr1:=hf.r1;refine wk 40 ?_;refine ax 1 (D4 2 0) ?_;refine ax 2 (Eg Ai 1) ?_;refine ax 3 (Eg Ai 2) ?_;refine wk 40 ?_;refine dx 15 (AJ Ai (n:=f.blocks.length) (m:=f.blocks.length) 3 true rfl rfl rfl z145q z145q rfl rfl rfl rfl rfl (q68 _) rfl (qZ0 _) (by show 56*f.blocks.length<=_;omega) Be) ?_;refine wk 40 ?_;refine dx 4 (Eg Ai 4) ?_;refine wk 40 ?_;refine ax 20 (AJ Ai (n:=f.blocks.length) (m:=f.blocks.length) 5 true rfl rfl rfl z145q z145q rfl rfl rfl rfl rfl (q68 _) rfl (qZ0 _) QX Be) ?_;refine wk 40 ?_;refine ax 5 (Eg Ai 6) ?_;refine wk 40 ?_;refine AK (γ:=Nat) 7 (fun k=>⟨58,(Aa (Aa (Aa (Aa (Aa (Aa (Aa (Aa AZ 1 (.ptr 0 1 0 0)) 2 (.ptr 1 1 0 0)) 3 (.ptr 2 1 0 0)) 4 (.ptr 4 1 0 0)) 5 (.ptr 6 1 0 0)) 23 (BZ f.blocks)) 24 (.int .i64 (f.blocks.length:Int))) 25 (.int .i64 (k:Int))),(hput (hput (hput (hput (hput (hput (hput (Bc 7) 0 (.row false 2 [f.cells])) 1 (.row false 2 [[.int .i64 0,.nil]])) 2 (.row false 1 [[.nil]])) 4 (.row false 2 [[.int .i64 f.regs,.ref 3 f.blocks.length 0 f.blocks.length]])) 6 (.row false 1 [[.ref 5 f.blocks.length 0 f.blocks.length]])) 3 (.row true 5 (((((f.blocks.map (Block.forward f.regs.toNat)).take (k)).map Block.cells)++List.replicate (f.blocks.length-(k)) [.nil,.int .i64 0,.int .i64 0,.int .i64 0,.int .i64 0])))) 5 (.row true 1 (((((List.replicate f.blocks.length (List.replicate f.regs.toNat true)).take (k)).map Dj)++List.replicate (f.blocks.length-(k)) [.nil]))))⟩) (fun k=>k<=f.blocks.length) (fun k=>f.blocks.length-k) 0 (Sub.mk' DB SM) (qZ1 _) (fun _=>(Ab (Ab (Ab (Ab (Ab (Ab (Ab (fun b hb=>Ay hb) rfl) rfl) rfl) rfl) rfl) rfl) rfl)) ?_
 intro k hk;refine wk 40 ?_;refine asp 26 (fun hb1=>?_) fun hb1=>?_
 .
  have hkl:k<f.blocks.length:=by simpa using hb1
  obtain⟨x,hx⟩:=Af hkl;have hxm:=q33 hx;have hxf:(f.blocks.map (Block.forward f.regs.toNat))[k]?=some (x.forward f.regs.toNat):=by simp[hx]
  refine wk 40 ?_;refine aq 28 (Hc Ai (Aw hx)) ?_;refine wk 1 ?_;refine ax 7 (Eg Ai 7) ?_;refine wk 40 ?_;have hfw:=TN x f.regs.toNat z144q (by have:=hf.i x hxm;omega) (hf.t x hxm) (hf.v x hxm);rw[show((f.regs.toNat:Nat):Int)=f.regs by omega]at hfw;refine DOps.x 36 rfl rfl rfl (CW Tryz.func57 hfw) ?_;refine dq 37 (Ae Ai rfl rfl rfl rfl rfl rfl rfl (AG (by simp:(f.blocks.map (Block.forward f.regs.toNat)).length=f.blocks.length) (qX0 hkl)) rfl (q46 _) z144q) ?_;refine DOps.w rfl rfl (o_store Ai rfl rfl rfl rfl rfl rfl (AG (by simp:(f.blocks.map (Block.forward f.regs.toNat)).length=f.blocks.length) (qX0 hkl)) (fill_get (by simp:(f.blocks.map (Block.forward f.regs.toNat)).length=f.blocks.length) hkl) rfl Aj rfl E4) ?_;refine wk 40 ?_;refine ax 40 (AJ Ai (n:=f.regs.toNat) (m:=f.regs.toNat) 8 true rfl rfl rfl z144q z144q rfl rfl rfl rfl rfl (q68 _) rfl (qZ0 _) (by show 1*f.regs.toNat<=_;omega) Be) ?_;refine wk 40 ?_;refine AK (γ:=Nat) 9 (fun j=>⟨58,(Aa (Aa (Aa (Aa (Aa (Aa (Aa (Aa (Aa (Aa (Aa (Aa AZ 1 (.ptr 0 1 0 0)) 2 (.ptr 1 1 0 0)) 3 (.ptr 2 1 0 0)) 4 (.ptr 4 1 0 0)) 5 (.ptr 6 1 0 0)) 23 (BZ f.blocks)) 24 (.int .i64 (f.blocks.length:Int))) 25 (.int .i64 (k:Int))) 6 (.int .i64 (k:Int))) 8 (.ref 8 f.regs.toNat 0 f.regs.toNat)) 42 (.int .i64 (f.regs.toNat:Int))) 43 (.int .i64 (j:Int))),hput (hput (hput (hput (hput (hput (hput (hput (Bc 9) 0 (.row false 2 [f.cells])) 1 (.row false 2 [[.int .i64 0,.nil]])) 2 (.row false 1 [[.nil]])) 4 (.row false 2 [[.int .i64 f.regs,.ref 3 f.blocks.length 0 f.blocks.length]])) 6 (.row false 1 [[.ref 5 f.blocks.length 0 f.blocks.length]])) 3 (.row true 5 (((((f.blocks.map (Block.forward f.regs.toNat)).take (k+1)).map Block.cells)++List.replicate (f.blocks.length-(k+1)) [.nil,.int .i64 0,.int .i64 0,.int .i64 0,.int .i64 0])))) 5 (.row true 1 (((((List.replicate f.blocks.length (List.replicate f.regs.toNat true)).take (k)).map Dj)++List.replicate (f.blocks.length-(k)) [.nil])))) 8 (.row true 1 ((((List.replicate f.regs.toNat true).take (j)).map Bg)++List.replicate (f.regs.toNat-(j)) [.bool false]))⟩) (fun j=>j<=f.regs.toNat) (fun j=>f.regs.toNat-j) 0 (Sub.mk' B5 (by repeat(first|exact HSub.none _|exact AQ _|exact AM Aj|refine HSub.put ?_ (by first|rfl|exact congrArg (fun es=>some (AObj.row true 5 es)) (B4 (f:=Block.cells) (by simp:(f.blocks.map (Block.forward f.regs.toNat)).length=f.blocks.length) hxf))|refine AP ?_ Aj))) (qZ1 _) (fun _=>(Ab (Ab (Ab (Ab (Ab (Ab (Ab (Ab (fun b hb=>Ay hb) rfl) rfl) rfl) rfl) rfl) rfl) rfl) rfl)) ?_
  intro j hj;refine wk 40 ?_;refine asp 44 (fun hb2=>?_) fun hb2=>?_
  .
   have hjl:j<f.regs.toNat:=by have h:=hb2;simp at h;omega
   refine wk 40 ?_;refine aq 48 (Ae Ai rfl rfl rfl rfl rfl rfl rfl (AG (by simp:(List.replicate f.regs.toNat true).length=f.regs.toNat) (qX0 hjl)) rfl (q46 _) z144q) ?_;refine AOps.w rfl rfl (o_store Ai rfl rfl rfl rfl rfl rfl (AG (by simp:(List.replicate f.regs.toNat true).length=f.regs.toNat) (qX0 hjl)) (fill_get (by simp:(List.replicate f.regs.toNat true).length=f.regs.toNat) hjl) rfl Aj rfl E4) ?_;refine wk 2 ?_;refine aq 49 (A2 rfl rfl hjl Be) ?_;refine wk 40 ?_;exact q8
  have hge2:f.regs.toNat<=j:=by have h:=hb2;simp at h;omega
  refine wk 2 ?_;refine AGo.ghost (.freeze 8 8 rfl rfl (AG (by simp:(List.replicate f.regs.toNat true).length=f.regs.toNat) hj)) ?_;refine wk 40 ?_;refine aq 54 (Ae Ai rfl rfl rfl rfl rfl rfl rfl (AG (by simp:(List.replicate f.blocks.length (List.replicate f.regs.toNat true)).length=f.blocks.length) (qX0 hkl)) rfl (q46 _) z144q) ?_;refine AOps.w rfl rfl (o_store Ai rfl rfl rfl rfl rfl rfl (AG (by simp:(List.replicate f.blocks.length (List.replicate f.regs.toNat true)).length=f.blocks.length) (qX0 hkl)) (fill_get (by simp:(List.replicate f.blocks.length (List.replicate f.regs.toNat true)).length=f.blocks.length) hkl) rfl Aj rfl E4) ?_;refine wk 2 ?_;refine aq 55 (A2 rfl rfl hkl Be) ?_;refine wk 40 ?_;have hcr:=CU (f:=Bg) (z:=[.bool false]) (by simp:(List.replicate f.regs.toNat true).length=f.regs.toNat) hge2;have hrow:=B4 (f:=Dj) (z:=[.nil]) (x:=List.replicate f.regs.toNat true) (by simp:(List.replicate f.blocks.length (List.replicate f.regs.toNat true)).length=f.blocks.length) (by simp[hkl]:(List.replicate f.blocks.length (List.replicate f.regs.toNat true))[k]?=some (List.replicate f.regs.toNat true))
  exact⟨k+1,Drop.mk' SK (by repeat(first|exact HDrop.none _ _|exact HDrop.tail _ _|refine HDrop.put ?_ (by first|rfl|exact congrArg (fun es=>some (AObj.row true 1 es)) (by rw[<-hrow];exact congrArg (fun b=>List.set _ _ [AV.lst false b]) hcr)) rfl rfl)),hkl,by omega⟩
 have hge:f.blocks.length<=k:=by simpa using hb1
 refine wk 2 ?_;refine AGo.ghost (.freezeCell 4 0 1 3 rfl rfl rfl rfl (AG (by simp:(f.blocks.map (Block.forward f.regs.toNat)).length=f.blocks.length) hk) Aj) ?_;refine AGo.ghost (.freezeCell 6 0 0 5 rfl rfl rfl rfl (AG (by simp:(List.replicate f.blocks.length (List.replicate f.regs.toNat true)).length=f.blocks.length) hk) Aj) ?_;refine wk 40 ?_;refine⟨[_,_],⟨⟨_,_,_,_,rfl,rfl,.ptr _ _ _ _ _ _ _ _ rfl rfl rfl,rfl⟩,⟨_,_,_,_,rfl,rfl,.ptr _ _ _ _ _ _ _ _ rfl rfl rfl,rfl⟩,trivial⟩,?_,rfl⟩;have e1:=CU (f:=Block.cells) (z:=[.nil,.int .i64 0,.int .i64 0,.int .i64 0,.int .i64 0]) (by simp:(f.blocks.map (Block.forward f.regs.toNat)).length=f.blocks.length) hge;exact n0
theorem UI(f:BFunc)(hc:f.count<=1000000000):APure Tryz.prog 35 [.agg f.cells] (fun r=>r=.int .i64 (f.count:Int)):=by
 have hs3:=E2 f;refine APure.of_body (n:=25) Ai Tryz.func35 rfl rfl ?_;refine asq ?_;refine Mf 0 rfl (fun H ι v=>Rk) (fun hfit=>?_);refine dJ ?_;refine ax 1 (D4 2 0) ?_;refine wk 15 ?_;refine AK (γ:=Nat) 1 (fun j=>⟨25,(Aa (Aa (Aa AZ 1 (.ptr 0 1 0 0)) 3 (.int .i64 ((f.blocks.length+DG (f.blocks.take j):Nat):Int))) 4 (.int .i64 (j:Int))),(hput (Bc 1) 0 (.row false 2 [f.cells]))⟩) (fun j=>True) (fun j=>f.blocks.length-j) 0 (Sub.mk' (by repeat(first|exact ESub.new _|refine ESub.put ?_ (by first|rfl|exact congrArg (fun(n:Nat)=>some (AV.int .i64 (n:Int))) (by show(List.map Block.cells f.blocks).length=f.blocks.length+0;simp)))) CX) trivial (fun _=>Ab (fun b hb=>Ay hb) rfl) ?_;intro j _;refine wk 9 ?_;refine asp 12 (fun hb1=>?_) fun hb1=>?_
 .
  refine act ?_;have hjl:j<f.blocks.length:=by simpa using hb1
  obtain⟨x,hx⟩:=Af hjl;have hs4:=TF hx;have hs5:=TE (l:=f.blocks) (k:=j+1);refine wk 8 ?_;refine aq 19 (Ak Ai rfl rfl rfl rfl rfl rfl (q46 _) (Aw Bm) rfl) ?_;refine wk 3 ?_;refine aq 23 (A1 (r:=.int .i64 (((f.blocks.length+DG (f.blocks.take j))+x.ins.length:Nat):Int)) rfl rfl rfl (by simp only[AX,BH,isShift,qZ3,qZ8];rw[q76,Cq z144q z144q];rfl)) ?_;refine wk 4 ?_;refine aq 14 (A2 rfl rfl hjl hfit.1) ?_;refine wk 2 ?_;exact⟨j+1,Drop.mk' (by repeat(first|exact EDrop.new _ _|refine EDrop.put ?_ (by first|rfl|exact congrArg (fun(n:Nat)=>some (AV.int .i64 (n:Int))) (by rw[hs4];omega)) j9)) IX,trivial,by omega⟩
 refine acf ?_;have hje:DG (f.blocks.take j)=DG f.blocks:=by rw[q20 (by simpa using hb1)]
 refine wk 6 ?_;refine DY ⟨[_],⟨rfl,trivial⟩,?_,rfl⟩;show AV.int .i64 _=AV.int .i64 _;congr 1;rw[hje,hs3]
theorem fI(b:Blocks)(hc:b.count<=1000000000):APure Tryz.prog 27 [.agg b.cells] (fun r=>r=.int .i64 (b.count:Int)):=by
 refine APure.of_body (n:=21) Ai Tryz.func27 rfl rfl ?_;refine asq ?_;refine Mf 0 rfl (fun H ι v=>UW) (fun hfit=>?_);refine dJ ?_;refine ax 1 (D4 2 0) ?_;refine wk 12 ?_;refine AK (γ:=Nat) 1 (fun k=>⟨21,(Aa (Aa (Aa AZ 1 (.ptr 0 1 0 0)) 3 (.int .i64 ((((b.funcs.take k).map BFunc.count).sum:Nat):Int))) 4 (.int .i64 (k:Int))),(hput (Bc 1) 0 (.row false 2 [b.cells]))⟩) (fun k=>True) (fun k=>b.funcs.length-k) 0 (Sub.mk' DB CX) trivial (fun _=>Ab (fun b hb=>Ay hb) rfl) ?_;intro k _;refine wk 9 ?_;refine asp 9 (fun hb1=>?_) fun hb1=>?_
 .
  refine act ?_;have hkl:k<b.funcs.length:=by simpa using hb1
  obtain⟨f,hf⟩:=Af hkl;have hs1:=sum_succ (p:=BFunc.count) hf;have hs2:_<=b.count:=No (l:=b.funcs) (p:=BFunc.count) (k:=k+1);have hs3:=E2 f;refine wk 8 ?_;refine aq 16 (Ak Ai rfl rfl rfl rfl rfl rfl (q46 _) (Aw Bm) rfl) ?_;refine wk 1 ?_;refine ax 18 (CW Tryz.func35 (UI f z144q)) ?_;refine aq 19 (A1 (r:=.int .i64 ((((b.funcs.take k).map BFunc.count).sum+f.count:Nat):Int)) rfl rfl rfl (by simp only[AX,BH,isShift,qZ3,qZ8];rw[Cq z144q z144q];rfl)) ?_;refine wk 4 ?_;refine aq 11 (A2 rfl rfl hkl hfit.1) ?_;refine wk 2 ?_;exact⟨k+1,Drop.mk' (by repeat(first|exact EDrop.new _ _|refine EDrop.put ?_ (by first|rfl|exact congrArg (fun(n:Nat)=>some (AV.int .i64 (n:Int))) (by rw[hs1])) j9)) IX,trivial,by omega⟩
 refine acf ?_;have hke:((b.funcs.take k).map BFunc.count).sum=b.count:=kK (by simpa using hb1);refine wk 6 ?_;refine DY ⟨[_],⟨rfl,trivial⟩,?_,rfl⟩;show AV.int .i64 _=AV.int .i64 _;congr 1;rw[hke]
theorem kT(t:Tac):APure Tryz.prog 74 [.agg t.cells] (fun r=>r=.int .i64 t.sets):=by
 refine APure.of_body (n:=14) Ai Tryz.func74 rfl rfl ?_;refine HG ?_;refine ax 1 (D4 8 0) ?_;refine wk 15 ?_;refine asp 5 (fun hb1=>?_) fun hb1=>?_
 .
  refine wk 9 ?_;exact WJ
 refine wk 6 ?_;refine asp 5 (fun hb2=>?_) fun hb2=>?_
 .
  refine wk 9 ?_;exact WJ
 refine wk 6 ?_;refine asp 5 (fun hb3=>?_) fun hb3=>?_
 .
  refine wk 9 ?_;exact WJ
 refine wk 6 ?_;refine asp 5 (fun hb4=>?_) fun hb4=>?_
 .
  refine wk 9 ?_;exact WJ
 refine wk 6 ?_;refine asp 5 (fun hb5=>?_) fun hb5=>?_
 .
  refine wk 9 ?_;exact WJ
 refine wk 5 ?_;refine asp 5 (fun hb6=>?_) fun hb6=>?_
 .
  refine wk 7 ?_;exact WJ
 refine wk 6 ?_;exact WJ
theorem kC(t:Tac):APure Tryz.prog 75 [.agg t.cells] (fun r=>r=AS t.uses):=by
 refine APure.of_body (n:=21) Ai Tryz.func75 rfl rfl ?_;refine HG ?_;refine ax 1 (D4 8 0) ?_;refine wk 15 ?_;refine asp 5 (fun hb1=>?_) fun hb1=>?_
 .
  refine wk 7 ?_;exact jV
 refine wk 6 ?_;refine asp 5 (fun hb2=>?_) fun hb2=>?_
 .
  refine wk 7 ?_;exact jV
 refine wk 6 ?_;refine asp 5 (fun hb3=>?_) fun hb3=>?_
 .
  refine wk 7 ?_;exact jV
 refine wk 5 ?_;refine asp 5 (fun hb4=>?_) fun hb4=>?_
 .
  refine wk 5 ?_;exact jV
 refine wk 7 ?_;refine asp 13 (fun hb5=>?_) fun hb5=>?_
 .
  refine wk 9 ?_;exact mU
 refine wk 5 ?_;refine asp 13 (fun hb6=>?_) fun hb6=>?_
 .
  refine wk 7 ?_;exact mU
 refine wk 6 ?_;refine AGo.ghost (.empty 2 rfl) ?_;exact pg
theorem Ci(i j:Int):APure Tryz.prog 73 [.int .i64 i,.int .i64 j] (fun r=>r=.bool (A3 i j)):=by
 refine APure.of_body (n:=12) Ai Tryz.func73 rfl rfl ?_;refine wk 9 ?_;refine CM 7 (fun hb1=>?_) fun hb1=>?_
 .
  exact mI
 exact mI
theorem me(b:Block)(blocks regs:Int):APure Tryz.prog 54 [.agg b.cells,.int .i64 blocks,.int .i64 regs] (fun r=>r=.bool (b.ends blocks regs)):=by
 refine APure.of_body (n:=61) Ai Tryz.func54 rfl rfl ?_;refine HG ?_;refine ax 3 (D4 5 0) ?_;refine wk 14 ?_;refine asp 9 (fun hb1=>?_) fun hb1=>?_
 .
  refine wk 6 ?_;refine ax 14 (CW Tryz.func73 (Ci _ _)) ?_;refine wk 1 ?_;refine CM 15 (fun hb2=>?_) fun hb2=>?_
  .
   refine wk 5 ?_;refine CM 20 (fun hb3=>?_) fun hb3=>?_
   .
    refine wk 6 ?_;exact Qz
   refine wk 6 ?_;exact Qz
  refine wk 11 ?_;exact Qz
 refine wk 6 ?_;refine asp 25 (fun hb4=>?_) fun hb4=>?_
 .
  refine wk 6 ?_;refine ax 30 (CW Tryz.func73 (Ci _ _)) ?_;refine wk 1 ?_;refine CM 31 (fun hb5=>?_) fun hb5=>?_
  .
   refine wk 3 ?_;refine ax 35 (CW Tryz.func73 (Ci _ _)) ?_;refine wk 2 ?_;refine CM 37 (fun hb6=>?_) fun hb6=>?_
   .
    refine wk 3 ?_;refine ax 41 (CW Tryz.func73 (Ci _ _)) ?_;refine wk 3 ?_;exact Qz
   refine wk 7 ?_;exact Qz
  refine wk 13 ?_;exact Qz
 refine wk 8 ?_;refine CM 46 (fun hb7=>?_) fun hb7=>?_
 .
  refine wk 5 ?_;refine CM 51 (fun hb8=>?_) fun hb8=>?_
  .
   refine wk 5 ?_;refine CM 56 (fun hb9=>?_) fun hb9=>?_
   .
    refine wk 6 ?_;exact Qz
   refine wk 6 ?_;exact Qz
  refine wk 11 ?_;exact Qz
 refine wk 16 ?_;exact Qz
theorem l9(t:Tac)(f regs words:Int)(hw:0<=words)(hw2:words<=1048576):APure Tryz.prog 55 [.agg t.cells,.int .i64 f,.int .i64 regs,.int .i64 words] (fun r=>r=.bool (t.fits f regs words)):=by
 refine APure.of_body (n:=166) Ai Tryz.func55 rfl rfl ?_;refine HG ?_;refine ax 4 (D4 8 0) ?_;refine wk 9 ?_;refine CM 15 (fun hb1=>?_) fun hb1=>?_
 .
  refine wk 10 ?_;exact mM
 refine wk 5 ?_;refine asp 19 (fun hb2=>?_) fun hb2=>?_
 .
  refine wk 5 ?_;exact mM
 refine wk 7 ?_;refine ax 9 (Eg Ai 1) ?_;refine wk 3 ?_;refine AGo.join (γ:=Int) (fun d=>⟨166,(Aa (Aa (Aa (Aa (Aa AZ 1 (.int .i64 f)) 2 (.int .i64 regs)) 3 (.int .i64 words)) 4 (.ptr 0 1 0 0)) 9 (.ptr 1 1 0 0)),(hput (hput (Bc 2) 0 (.row false 8 [t.cells])) 1 (.row false 8 [[.int .i64 t.op,.int .i64 d,.int .i64 0,.int .i64 0,.int .i64 0,.int .i64 0,.int .i64 0,.int .u32 0]]))⟩) (fun d=>(!setsOp t.op||A3 t.d regs)=true/\d=bif setsOp t.op then t.d else 0) ?_ ?_
 .
  refine wk 3 ?_;refine ax 24 (CW Tryz.func74 (kT _)) ?_;refine wk 2 ?_;refine CM 26 (fun hb3=>?_) fun hb3=>?_
  .
   refine wk 43 ?_;refine ax 62 (CW Tryz.func73 (Ci _ _)) ?_;refine wk 2 ?_;refine asp 63 (fun hb4=>?_) fun hb4=>?_
   .
    exact WL
   exact WN
  refine wk 5 ?_;refine CM 31 (fun hb5=>?_) fun hb5=>?_
  .
   refine wk 38 ?_;refine ax 62 (CW Tryz.func73 (Ci _ _)) ?_;refine wk 2 ?_;refine asp 63 (fun hb6=>?_) fun hb6=>?_
   .
    exact WL
   exact WN
  refine wk 5 ?_;refine CM 36 (fun hb7=>?_) fun hb7=>?_
  .
   refine wk 33 ?_;refine ax 62 (CW Tryz.func73 (Ci _ _)) ?_;refine wk 2 ?_;refine asp 63 (fun hb8=>?_) fun hb8=>?_
   .
    exact WL
   exact WN
  refine wk 5 ?_;refine CM 41 (fun hb9=>?_) fun hb9=>?_
  .
   refine wk 28 ?_;refine ax 62 (CW Tryz.func73 (Ci _ _)) ?_;refine wk 2 ?_;refine asp 63 (fun hb10=>?_) fun hb10=>?_
   .
    exact WL
   exact WN
  refine wk 5 ?_;refine CM 46 (fun hb11=>?_) fun hb11=>?_
  .
   refine wk 23 ?_;refine ax 62 (CW Tryz.func73 (Ci _ _)) ?_;refine wk 2 ?_;refine asp 63 (fun hb12=>?_) fun hb12=>?_
   .
    exact WL
   exact WN
  refine wk 5 ?_;refine CM 51 (fun hb13=>?_) fun hb13=>?_
  .
   refine wk 18 ?_;refine ax 62 (CW Tryz.func73 (Ci _ _)) ?_;refine wk 2 ?_;refine asp 63 (fun hb14=>?_) fun hb14=>?_
   .
    exact WL
   exact WN
  refine wk 5 ?_;refine asp 55 (fun hb15=>?_) fun hb15=>?_
  .
   refine wk 13 ?_;refine ax 62 (CW Tryz.func73 (Ci _ _)) ?_;refine wk 2 ?_;refine asp 63 (fun hb16=>?_) fun hb16=>?_
   .
    exact WL
   exact WN
  refine wk 2 ?_;exact⟨0,Sub.mk' B5 CX,⟨by simp[setsOp, *],by simp[setsOp, *]⟩⟩
 intro d ⟨hd,hdd⟩;refine wk 3 ?_;refine ax 65 (CW Tryz.func75 (kC _)) ?_;refine wk 8 ?_;refine AK (γ:=Nat) 2 (fun j=>⟨166,(Aa (Aa (Aa (Aa (Aa (Aa (Aa AZ 1 (.int .i64 f)) 2 (.int .i64 regs)) 3 (.int .i64 words)) 4 (.ptr 0 1 0 0)) 9 (.ptr 1 1 0 0)) 10 (AS t.uses)) 11 (.int .i64 (j:Int))),(hput (hput (Bc 2) 0 (.row false 8 [t.cells])) 1 (.row false 8 [[.int .i64 t.op,.int .i64 d,.int .i64 0,.int .i64 0,.int .i64 0,.int .i64 0,.int .i64 0,.int .u32 0]]))⟩) (fun j=>(t.uses.take j).all (fun r=>A3 r regs)=true) (fun j=>t.uses.length-j) 0 (Sub.mk' B5 CX) rfl (fun _=>Ab (Ab (fun b hb=>Ay hb) rfl) rfl) ?_;intro j hj;refine wk 8 ?_;refine asp 69 (fun hb17=>?_) fun hb17=>?_
 .
  refine act ?_;have hjl:j<t.uses.length:=DT hb17;obtain⟨u,hu⟩:=Af hjl;refine wk 7 ?_;refine aq 74 (Ak Ai rfl rfl rfl rfl rfl rfl (q46 _) (Aw Bm) rfl) ?_;refine wk 2 ?_;refine ax 77 (CW Tryz.func73 (Ci _ _)) ?_;refine wk 2 ?_;refine asp 78 (fun hb18=>?_) fun hb18=>?_
  .
   refine act ?_;have hbw:=hb18;refine wk 4 ?_;refine DY ⟨[_],⟨rfl,trivial⟩,?_,rfl⟩;refine bc ?_;exact(iQ (D7 hu (by simpa using hbw))).symm
  refine acf ?_;have hbw:=hb18;refine wk 3 ?_;refine aq 71 (A2 rfl rfl hjl (qX2 (Uw t) Aj)) ?_;exact re
 refine acf ?_;have hall:=all_end hj (DW hb17);refine wk 2 ?_;refine AGo.join (γ:=Int) (fun a=>⟨166,(Aa (Aa (Aa (Aa (Aa (Aa AZ 1 (.int .i64 f)) 2 (.int .i64 regs)) 3 (.int .i64 words)) 4 (.ptr 0 1 0 0)) 9 (.ptr 1 1 0 0)) 10 (AS t.uses)),(hput (hput (Bc 2) 0 (.row false 8 [t.cells])) 1 (.row false 8 [[.int .i64 t.op,.int .i64 d,.int .i64 a,.int .i64 0,.int .i64 0,.int .i64 0,.int .i64 0,.int .u32 0]]))⟩) (fun a=>a=bif use1 t.op||use2 t.op then t.a else 0) ?_ ?_
 .
  refine wk 6 ?_;refine asp 81 (fun hb19=>?_) fun hb19=>?_
  .
   refine wk 7 ?_;exact⟨t.a,Sub.mk' B5 CX,by have h3:=Nl t.op;cases h1:use1 t.op<;>cases h2:use2 t.op<;>simp_all[Tac.uses]⟩
  exact rh
 intro a haa;refine asq ?_;refine AGo.join (γ:=Int) (fun b=>⟨166,(Aa (Aa (Aa (Aa (Aa AZ 1 (.int .i64 f)) 2 (.int .i64 regs)) 3 (.int .i64 words)) 4 (.ptr 0 1 0 0)) 9 (.ptr 1 1 0 0)),(hput (hput (Bc 2) 0 (.row false 8 [t.cells])) 1 (.row false 8 [[.int .i64 t.op,.int .i64 d,.int .i64 a,.int .i64 b,.int .i64 0,.int .i64 0,.int .i64 0,.int .u32 0]]))⟩) (fun b=>b=bif use2 t.op then t.b else 0) ?_ ?_
 .
  refine wk 6 ?_;refine asp 87 (fun hb20=>?_) fun hb20=>?_
  .
   refine wk 7 ?_;exact⟨t.b,Sub.mk' B5 CX,by have h3:=Nl t.op;cases h1:use1 t.op<;>cases h2:use2 t.op<;>simp_all[Tac.uses]⟩
  exact rh
 intro b hbb;refine wk 12 ?_;refine asp 93 (fun hb21=>?_) fun hb21=>?_
 .
  refine wk 11 ?_;exact Uj
 refine wk 6 ?_;refine asp 98 (fun hb22=>?_) fun hb22=>?_
 .
  refine wk 14 ?_;refine CM 106 (fun hb23=>?_) fun hb23=>?_
  .
   refine wk 10 ?_;exact dO
  refine wk 5 ?_;refine asp 110 (fun hb24=>?_) fun hb24=>?_
  .
   refine wk 5 ?_;exact dO
  refine wk 6 ?_;exact Uj
 refine wk 7 ?_;refine asp 111 (fun hb25=>?_) fun hb25=>?_
 .
  refine wk 15 ?_;refine ax 120 (CW Tryz.func73 (Ci _ _)) ?_;refine wk 2 ?_;refine asp 121 (fun hb26=>?_) fun hb26=>?_
  .
   refine wk 5 ?_;exact dO
  refine wk 6 ?_;exact Uj
 refine wk 5 ?_;refine asp 111 (fun hb27=>?_) fun hb27=>?_
 .
  refine wk 13 ?_;refine ax 120 (CW Tryz.func73 (Ci _ _)) ?_;refine wk 2 ?_;refine asp 121 (fun hb28=>?_) fun hb28=>?_
  .
   refine wk 5 ?_;exact dO
  refine wk 6 ?_;exact Uj
 refine wk 7 ?_;refine asp 122 (fun hb29=>?_) fun hb29=>?_
 .
  refine wk 20 ?_;refine CM 134 (fun hb30=>?_) fun hb30=>?_
  .
   refine wk 24 ?_;exact Ui
  refine wk 5 ?_;refine CM 139 (fun hb31=>?_) fun hb31=>?_
  .
   refine wk 19 ?_;exact Ui
  refine wk 5 ?_;refine CM 144 (fun hb32=>?_) fun hb32=>?_
  .
   refine wk 14 ?_;exact Ui
  refine wk 9 ?_;refine asp 152 (fun hb33=>?_) fun hb33=>?_
  .
   refine wk 5 ?_;exact Ui
  refine wk 6 ?_;exact Uj
 refine wk 5 ?_;refine asp 122 (fun hb34=>?_) fun hb34=>?_
 .
  refine wk 18 ?_;refine CM 134 (fun hb35=>?_) fun hb35=>?_
  .
   refine wk 24 ?_;exact Ui
  refine wk 5 ?_;refine CM 139 (fun hb36=>?_) fun hb36=>?_
  .
   refine wk 19 ?_;exact Ui
  refine wk 5 ?_;refine CM 144 (fun hb37=>?_) fun hb37=>?_
  .
   refine wk 14 ?_;exact Ui
  refine wk 9 ?_;refine asp 152 (fun hb38=>?_) fun hb38=>?_
  .
   refine wk 5 ?_;exact Ui
  refine wk 6 ?_;exact Uj
 refine wk 6 ?_;refine asp 153 (fun hb39=>?_) fun hb39=>?_
 .
  refine wk 13 ?_;refine ax 161 (CW Tryz.func73 (Ci _ _)) ?_;refine wk 2 ?_;refine asp 162 (fun hb40=>?_) fun hb40=>?_
  .
   refine wk 5 ?_;exact dO
  refine wk 6 ?_;exact Uj
 refine wk 6 ?_;exact Uj
theorem ql(f:BFunc)(number words:Int)(hw:0<=words)(hw2:words<=1048576):APure Tryz.prog 40 [.agg f.cells,.int .i64 number,.int .i64 words] (fun r=>r=.bool (f.one number words)):=by
 refine APure.of_body (n:=68) Ai Tryz.func40 rfl rfl ?_;refine asq ?_;refine Mf 0 rfl (fun H ι v=>Rk) (fun hfit=>?_);refine dJ ?_;refine ax 3 (D4 2 0) ?_;refine wk 9 ?_;refine CM 12 (fun hb1=>?_) fun hb1=>?_
 .
  refine wk 16 ?_;exact d5
 refine wk 5 ?_;refine CM 17 (fun hb2=>?_) fun hb2=>?_
 .
  refine wk 11 ?_;exact d5
 refine wk 6 ?_;refine asp 22 (fun hb3=>?_) fun hb3=>?_
 .
  refine wk 5 ?_;exact d5
 refine acf ?_;have h0:0<=f.regs/\f.regs<=4000/\f.blocks.length≠0:=by simp_all<;>omega
 refine wk 7 ?_;refine AK (γ:=Nat) 1 (fun k=>⟨68,(Aa (Aa (Aa (Aa AZ 1 (.int .i64 number)) 2 (.int .i64 words)) 3 (.ptr 0 1 0 0)) 7 (.int .i64 (k:Int))),(hput (Bc 1) 0 (.row false 2 [f.cells]))⟩) (fun k=>(f.blocks.take k).all (fun x=>x.ok f.blocks.length f.regs number words)=true) (fun k=>f.blocks.length-k) 0 (Sub.mk' B5 CX) rfl (fun _=>Ab (fun b hb=>Ay hb) rfl) ?_;intro k hk;refine wk 9 ?_;refine asp 27 (fun hb4=>?_) fun hb4=>?_
 .
  refine act ?_;have hkl:k<f.blocks.length:=DT hb4;obtain⟨x,hx⟩:=Af hkl;refine wk 9 ?_;refine dq 33 (Ak Ai rfl rfl rfl rfl rfl rfl (q46 _) (Aw Bm) rfl) ?_;refine wk 6 ?_;refine dx 40 (CW Tryz.func54 (me x _ _)) ?_;refine dq 41 (Nu rfl rfl) ?_;refine wk 1 ?_;refine asp 41 (fun hb5=>?_) fun hb5=>?_
  .
   refine act ?_;have hends:x.ends f.blocks.length f.regs=false:=by simpa using hb5
   refine wk 4 ?_;refine DY ⟨[_],⟨rfl,trivial⟩,?_,rfl⟩;refine bc ?_;rw[LC h0.1 h0.2.1 h0.2.2,D7 hx (by simp[Block.ok,hends])]
  refine acf ?_;have hends:x.ends f.blocks.length f.regs=true:=by simpa using hb5
  refine wk 6 ?_;refine AK (γ:=Nat) 1 (fun j=>⟨68,(Aa (Aa (Aa (Aa (Aa AZ 1 (.int .i64 number)) 2 (.int .i64 words)) 3 (.ptr 0 1 0 0)) 7 (.int .i64 (k:Int))) 8 (.int .i64 (j:Int))),(hput (Bc 1) 0 (.row false 2 [f.cells]))⟩) (fun j=>(x.ins.take j).all (fun t=>t.fits number f.regs words)=true) (fun j=>x.ins.length-j) 0 (Sub.mk' B5 CX) rfl (fun _=>Ab (fun b hb=>Ay hb) rfl) ?_;intro j hj;refine wk 7 ?_;refine aq 46 (Ak Ai rfl rfl rfl rfl rfl rfl (q46 _) (Aw Bm) rfl) ?_;refine wk 5 ?_;refine asp 50 (fun hb6=>?_) fun hb6=>?_
  .
   refine act ?_;have hjl:j<x.ins.length:=DT hb6;obtain⟨u,hu⟩:=Af hjl;refine wk 8 ?_;refine dq 56 (Ak Ai rfl rfl rfl rfl rfl rfl (q46 _) (Aw Bm) rfl) ?_;refine wk 3 ?_;refine dq 60 (Ak Ai rfl rfl rfl rfl rfl rfl (q46 _) (Aw Bm) rfl) ?_;refine wk 5 ?_;refine dx 66 (CW Tryz.func55 (l9 u _ _ _ hw hw2)) ?_;refine dq 67 (Nu rfl rfl) ?_;refine wk 1 ?_;refine asp 67 (fun hb7=>?_) fun hb7=>?_
   .
    refine act ?_;have hbw:=hb7;refine wk 4 ?_;refine DY ⟨[_],⟨rfl,trivial⟩,?_,rfl⟩;refine bc ?_;rw[LC h0.1 h0.2.1 h0.2.2,D7 hx (by simp only[Block.ok,D7 (p:=fun t=>Tac.fits t number f.regs words) hu (by simpa using hbw),q97])]
   refine acf ?_;have hbw:=hb7;refine wk 3 ?_;refine aq 52 (A2 rfl rfl hjl (hfit.2 x (q33 hx))) ?_;exact re
  refine acf ?_;have hins:=all_end hj (DW hb6);refine wk 3 ?_;refine aq 29 (A2 rfl rfl hkl hfit.1) ?_;refine wk 2 ?_;exact⟨k+1,Drop.mk' Gt IX,Dw hx hk (by simp[Block.ok,hends,hins]),by omega⟩
 refine acf ?_;have hall:=all_end hk (DW hb4);refine wk 5 ?_;refine DY ⟨[_],⟨rfl,trivial⟩,?_,rfl⟩;refine bc ?_;rw[LC h0.1 h0.2.1 h0.2.2,hall]
theorem UT(b:Blocks):APure Tryz.prog 29 [.agg b.cells] (fun r=>r=.bool b.right):=by
 refine APure.of_body (n:=35) Ai Tryz.func29 rfl rfl ?_;refine asq ?_;refine Mf 0 rfl (fun H ι v=>UW) (fun hfit=>?_);refine dJ ?_;refine ax 1 (D4 2 0) ?_;refine wk 9 ?_;refine CM 7 (fun hb1=>?_) fun hb1=>?_
 .
  refine wk 16 ?_;exact d6
 refine wk 5 ?_;refine CM 12 (fun hb2=>?_) fun hb2=>?_
 .
  refine wk 11 ?_;exact d6
 refine wk 6 ?_;refine asp 17 (fun hb3=>?_) fun hb3=>?_
 .
  refine wk 5 ?_;exact d6
 refine acf ?_;have h0:0<=b.words/\b.words<=1048576/\b.funcs.length≠0:=by simp_all<;>omega
 refine wk 7 ?_;refine AK (γ:=Nat) 1 (fun k=>⟨35,(Aa (Aa AZ 1 (.ptr 0 1 0 0)) 3 (.int .i64 (k:Int))),(hput (Bc 1) 0 (.row false 2 [b.cells]))⟩) (fun k=>(b.funcs.zipIdx.take k).all (fun p=>p.1.one (p.2:Int) b.words)=true) (fun k=>b.funcs.length-k) 0 (Sub.mk' B5 CX) rfl (fun _=>Ab (fun b hb=>Ay hb) rfl) ?_;intro k hk;refine wk 9 ?_;refine asp 22 (fun hb4=>?_) fun hb4=>?_
 .
  refine act ?_;have hkl:k<b.funcs.length:=DT hb4;obtain⟨x,hx⟩:=Af hkl;refine wk 8 ?_;refine dq 28 (Ak Ai rfl rfl rfl rfl rfl rfl (q46 _) (Aw Bm) rfl) ?_;refine wk 4 ?_;refine dx 33 (CW Tryz.func40 (ql x _ _ h0.1 h0.2.1)) ?_;refine dq 34 (Nu rfl rfl) ?_;refine wk 1 ?_;refine asp 34 (fun hb5=>?_) fun hb5=>?_
  .
   refine act ?_;have hone:=hb5;refine wk 4 ?_;refine DY ⟨[_],⟨rfl,trivial⟩,?_,rfl⟩;refine bc ?_;rw[My h0.1 h0.2.1 h0.2.2,D7 (B8 hx) (by simpa using hone)]
  refine acf ?_;have hone:=hb5;refine wk 3 ?_;refine aq 24 (A2 rfl rfl hkl hfit.1) ?_;refine wk 2 ?_;exact⟨k+1,Drop.mk' Gt IX,Dw (B8 hx) hk (by simpa using hone),by omega⟩
 refine acf ?_;have hall:=all_end hk (by rw[List.length_zipIdx];exact DW hb4);refine wk 5 ?_;refine DY ⟨[_],⟨rfl,trivial⟩,?_,rfl⟩;refine bc ?_;rw[My h0.1 h0.2.1 h0.2.2,hall]
theorem Xd(b:Blocks)(hL:b.Lim):APure Tryz.prog 13 [.agg b.cells] (fun r=>r=.bool (Hh b)):=by
 have hn:=hL.n;refine APure.of_body (n:=37) Ai Tryz.func13 rfl rfl ?_;refine HG ?_;refine ax 1 (D4 2 0) ?_;refine wk 10 ?_;refine CM 8 (fun hb1=>?_) fun hb1=>?_
 .
  refine wk 20 ?_;exact YQ
 refine wk 5 ?_;refine CM 13 (fun hb2=>?_) fun hb2=>?_
 .
  refine wk 15 ?_;exact YQ
 refine wk 1 ?_;refine ax 15 (CW Tryz.func29 (UT b)) ?_;refine wk 3 ?_;refine CM 18 (fun hb3=>?_) fun hb3=>?_
 .
  refine wk 10 ?_;exact YQ
 refine wk 1 ?_;refine ax 20 (CW Tryz.func27 (fI b (by have:=hL.c;omega))) ?_;refine wk 3 ?_;refine asp 22 (fun hb4=>?_) fun hb4=>?_
 .
  refine wk 5 ?_;exact YQ
 refine acf ?_;have hg1:b.funcs.length<=6:=by have h:=hb1;simp at h;omega
 have hg2:b.words<=400:=by have h:=hb2;simp at h;omega
 have hg3:b.right=true:=by have h:=hb3;simpa using h
 have hg4:b.count<=200:=by have h:=hb4;simp at h;omega
 refine wk 7 ?_;refine AK (γ:=Nat) 1 (fun k=>⟨37,(Aa (Aa AZ 1 (.ptr 0 1 0 0)) 3 (.int .i64 (k:Int))),(hput (Bc 1) 0 (.row false 2 [b.cells]))⟩) (fun k=>k<=b.funcs.length/\(b.funcs.take k).all PA=true) (fun k=>b.funcs.length-k) 0 (Sub.mk' DB CX) ⟨qZ1 _,rfl⟩ (fun _=>Ab (fun b hb=>Ay hb) rfl) ?_;intro k hF;refine wk 9 ?_;refine asp 27 (fun hb5=>?_) fun hb5=>?_
 .
  refine act ?_;have hkl:=DT hb5;obtain⟨f,hf⟩:=Af hkl;refine wk 8 ?_;refine aq 33 (Hc Ai (Aw hf)) ?_;refine wk 4 ?_;refine asp 36 (fun hb6=>?_) fun hb6=>?_
  .
   refine act ?_;have hno:¬f.regs<=30:=by have h:=hb6;simp at h;omega
   have hnall:=qp (q33 hf) hno;refine wk 4 ?_;refine DY ⟨[_],⟨rfl,trivial⟩,?_,rfl⟩;refine bc ?_;simp[Hh,hnall]
  refine acf ?_;have hyes:f.regs<=30:=by have h:=hb6;simp at h;omega
  refine wk 3 ?_;refine aq 29 (A2 rfl rfl hkl Be) ?_;refine wk 2 ?_;exact⟨k+1,Drop.mk' Gt IX,⟨hkl,il hf hF.2 hyes⟩,by omega⟩
 refine acf ?_;have hge:=DW hb5;have hall:b.funcs.all PA=true:=by have h:=hF.2;rwa[q20 hge]at h
 refine wk 5 ?_;refine DY ⟨[_],⟨rfl,trivial⟩,?_,rfl⟩;refine bc ?_;simp[Hh,hg1,hg2,hg3,hg4,hall]
theorem TO(k:Int):APure Tryz.prog 31 [.int .i64 k] (fun r=>r=.tup [.val (ZI k),.bool (kind35 k)]):=by
 refine APure.of_body (n:=28) Ai Tryz.func31 rfl rfl ?_;refine wk 9 ?_;refine ax 4 (Eg Ai 0) ?_;refine wk 13 ?_;refine asp 8 (fun hb1=>?_) fun hb1=>?_
 .
  refine act ?_;have hk1:k=1:=by simpa using hb1
  subst hk1;refine wk 4 ?_;refine aq 12 (Ls Ai rfl rfl rfl rfl D9) ?_;exact YP
 refine acf ?_;have hn1:k≠1:=by simpa using hb1
 refine wk 5 ?_;refine asp 13 (fun hb2=>?_) fun hb2=>?_
 .
  refine act ?_;have hk2:k=2:=by simpa using hb2
  subst hk2;refine wk 4 ?_;refine aq 17 (Ls Ai rfl rfl rfl rfl D9) ?_;exact YP
 refine acf ?_;have hn2:k≠2:=by simpa using hb2
 refine wk 5 ?_;refine asp 18 (fun hb3=>?_) fun hb3=>?_
 .
  refine act ?_;have hk3:k=3:=by simpa using hb3
  subst hk3;refine wk 4 ?_;refine aq 22 (Ls Ai rfl rfl rfl rfl D9) ?_;exact YP
 refine acf ?_;have hn3:k≠3:=by simpa using hb3
 refine wk 5 ?_;refine asp 23 (fun hb4=>?_) fun hb4=>?_
 .
  refine act ?_;have hk4:k=4:=by simpa using hb4
  subst hk4;refine wk 4 ?_;refine aq 27 (Ls Ai rfl rfl rfl rfl D9) ?_;exact YP
 refine acf ?_;have hn4:k≠4:=by simpa using hb4
 refine wk 7 ?_;refine⟨[_,_],⟨rfl,rfl,trivial⟩,?_,rfl⟩;rw[gF hn1 hn2 hn3 hn4,lP hn1 hn2 hn3 hn4];rfl
variable {f : BFunc}
variable {p : List Int}
theorem JF{n:Nat}{e:Ax}{h:Ad}(b0 i j:Nat){p:Bool}{sz0:Nat}{es:List (List AV)}{cs:List AV}{x:AV}(y:AV)(hb0:h b0=some (.row p sz0 es))(hi:es[i]?=some cs)(hj:cs[j]?=some x)(hxy:∀H ι v,Rel H ι x v->Rel H ι y v)(h1:y.cell1=true):
 Ghost ⟨n,e,h⟩ ⟨n,e,hput h b0 (.row p sz0 (es.set i (cs.set j y)))⟩:=fun H ι a w hs=>by
 obtain⟨u1,u2⟩:=hs.heap.recell hb0 hi hj (y:=y) (fun v hv=>hxy _ _ v hv) h1;exact⟨H,ι,⟨hs.n,hs.d,hs.env,u1⟩,u2⟩
variable {next : List (List Int)} {reach : List Bool} {a : Int} {i k : Nat} {r : Bool} {row : List Int}
set_option maxRecDepth 100000
theorem Za(k:Int)(g:BFunc):APure Tryz.prog 126 [.agg [.int .i64 k],.agg g.cells] (fun r=>r=.agg (⟨k,⟨[]⟩,[],g⟩:OPass).cells):=by
 refine APure.of_body (n:=9) Ai Tryz.func126 rfl rfl ?_;refine wk 40 ?_;refine ax 2 (D4 1 0) ?_;refine ax 3 (D4 2 1) ?_;refine ax 4 (Eg Ai 2) ?_;refine wk 9 ?_;refine AGo.ghost (JF 2 0 1 (.lst false []) rfl rfl rfl (fun _ _ _=>UY) rfl) ?_;refine AGo.ghost (JF 2 0 2 (.lst false []) rfl rfl rfl (fun _ _ _=>UY) rfl) ?_;refine wk 40 ?_;exact⟨[_],⟨⟨_,_,_,_,rfl,rfl,.ptr _ _ _ _ _ _ _ _ rfl rfl rfl,rfl⟩,trivial⟩,rfl,rfl⟩
theorem TW(k:Int)(fo:Nat){fn:Func}(hf:Tryz.prog.funcs[fo]?=some fn)(hn:(fn.name== "runtime.NumGoroutine")=false)(hb:fn.body.isSome=true)(f g:BFunc)(c:Cert)(hO:APure Tryz.prog fo [.agg f.cells] (fun r=>r=.tup [.agg g.cells,.agg c.cells])):APure Tryz.prog 128 [.agg [.int .i64 k,.val (.func (.func fo) #[] #[])],.agg f.cells] (fun r=>r=.tup [.agg g.cells,.agg (⟨k,c,[],g⟩:OPass).cells]):=by
 refine APure.of_body (n:=24) Ai Tryz.func128 rfl rfl ?_;refine wk 40 ?_;refine ax 2 (D4 2 0) ?_;refine ax 3 (D4 2 1) ?_;refine ax 4 (Eg Ai 2) ?_;refine ax 5 (Eg Ai 3) ?_;refine wk 40 ?_;refine ax 13 (bV rfl rfl hf hn hb rfl rfl hO) ?_;refine wk 40 ?_;refine ax 6 (Eg Ai 4) ?_;refine ax 7 (Eg Ai 5) ?_;refine wk 40 ?_;refine ax 19 (CW Tryz.func126 (Za k g)) ?_;exact nV
theorem lR(k:Int)(f g:BFunc)(ps:List (List Int))(hO:APure Tryz.prog 144 [.agg f.cells] (fun r=>r=.tup [.agg g.cells,AO ps])):APure Tryz.prog 142 [.agg [.int .i64 k],.agg f.cells] (fun r=>r=.tup [.agg g.cells,.agg (⟨k,⟨[]⟩,ps,g⟩:OPass).cells]):=by
 refine APure.of_body (n:=22) Ai Tryz.func142 rfl rfl ?_;refine wk 40 ?_;refine ax 2 (D4 1 0) ?_;refine ax 3 (D4 2 1) ?_;refine ax 4 (Eg Ai 2) ?_;refine ax 5 (Eg Ai 3) ?_;refine wk 40 ?_;refine ax 11 (CW Tryz.func144 hO) ?_;refine wk 40 ?_;refine ax 6 (Eg Ai 4) ?_;refine wk 40 ?_;refine ax 17 (CW Tryz.func126 (Za k g)) ?_;exact nV
structure T6(f:BFunc)(G:Int->OPass):Prop where
  c1:APure Tryz.prog 41 [.agg f.cells] (fun r=>r=.tup [.agg (G 1).f.cells,.agg (G 1).cert.cells])
  c2:APure Tryz.prog 42 [.agg f.cells] (fun r=>r=.tup [.agg (G 2).f.cells,.agg (G 2).cert.cells])
  c3:APure Tryz.prog 43 [.agg f.cells] (fun r=>r=.tup [.agg (G 3).f.cells,.agg (G 3).cert.cells])
  c4:APure Tryz.prog 144 [.agg f.cells] (fun r=>r=.tup [.agg (G 4).f.cells,AO (G 4).paths])
  e1:G 1=⟨1,(G 1).cert,[],(G 1).f⟩
  e2:G 2=⟨2,(G 2).cert,[],(G 2).f⟩
  e3:G 3=⟨3,(G 3).cert,[],(G 3).f⟩
  e4:G 4=⟨4,⟨[]⟩,(G 4).paths,(G 4).f⟩
variable {o : Oper} {e : Ax} {h : Ad}
theorem vX{G:Int->OPass}(hG:T6 f G){k:Int}(hk:kind35 k=true){recv:Operand}{args:Array Operand}{tys:Array TypeId}(ho:o.op=.call {callee:=.invoke recv "seedcorn/optimize.run",args:=args,argTypes:=tys})
 (hr:An e recv=some (.val (ZI k))) (hx:A8 e args.toList=some [.agg f.cells]):OLoc Tryz.prog o e h [] [] (some (.tup [.agg (G k).f.cells,.agg (G k).cells])):=by
 rcases PJ hk with h1|h1|h1|h1<;>subst h1
 . rw[congrArg OPass.cells hG.e1];exact LD ho hr (fun w=>mt_cr _ w) (HX (by rfl)) Tryz.func128 AF rfl hx rfl (TW 1 _ Tryz.func41 AF rfl f _ _ hG.c1)
 . rw[congrArg OPass.cells hG.e2];exact LD ho hr (fun w=>mt_cr _ w) (HX (by rfl)) Tryz.func128 AF rfl hx rfl (TW 2 _ Tryz.func42 AF rfl f _ _ hG.c2)
 . rw[congrArg OPass.cells hG.e3];exact LD ho hr (fun w=>mt_cr _ w) (HX (by rfl)) Tryz.func128 AF rfl hx rfl (TW 3 _ Tryz.func43 AF rfl f _ _ hG.c3)
 . rw[congrArg OPass.cells hG.e4];exact LD ho hr (fun w=>mt_jr _ w) (HX (by rfl)) Tryz.func142 AF rfl hx rfl (lR 4 f _ _ hG.c4)
theorem Pg(f:BFunc)(G:Int->OPass)(hG:T6 f G)(k:Int)(hk:kind35 k=true):APure Tryz.prog 21 [.agg f.cells,.int .i64 k] (fun r=>r=.tup [.agg (G k).f.cells,.agg (G k).cells,.int .i64 0]):=by
 refine APure.of_body (n:=28) Ai Tryz.func21 rfl rfl ?_;refine wk 40 ?_;refine ax 2 (D4 2 0) ?_;refine ax 4 (Eg Ai 1) ?_;refine ax 5 (Eg Ai 2) ?_;refine wk 40 ?_;refine ax 13 (CW Tryz.func31 (TO k)) ?_;rw[hk];refine wk 40 ?_;refine ax 23 (vX hG hk rfl rfl rfl) ?_;refine wk 40 ?_;refine ax 9 (Eg Ai 3) ?_;refine ax 10 (Eg Ai 4) ?_;exact nO
theorem lc(z R i:Nat)(p:Nat->Bool)(hi:i<R)(hR:R<=100000):ACall Tryz.prog 106 [.ref z (nw R) 0 (nw R),.int .i64 (i:Int)] (hput hNew z (.row true 1 (BE R p))) (fun r h'=>r=.tup []/\HSub (hput hNone z (.row true 1 (BE R (fun v=>p v||v==i)))) h'):=by
 have hj:=Vo hi;refine ACall.of_body (n:=14) Ai Tryz.func106 rfl rfl ?_;refine wk 3 ?_;refine dq 6 (A1 (r:=.int .i64 ((i/64:Nat):Int)) rfl rfl rfl (ZC z144q)) ?_;refine dq 7 (Ae Ai rfl rfl rfl rfl rfl rfl (At _ _ _) (Bt _ _).symm rfl (q46 _) z144q) ?_;refine dq 8 (Ar Ai rfl rfl rfl (.ptr _ _ _ _ _ _ _ (BK p (i/64)) (At _ _ _) (Bt _ _).symm j8) rfl) ?_;refine dm 9 ?_;refine dq 10 (A1 (r:=.int .i64 ((i%64:Nat):Int)) rfl rfl rfl fR) ?_;refine dq 11 (A1 (r:=.int .u64 ((wd (fun v=>v==i%64):Nat):Int)) rfl rfl rfl (eJ z144q)) ?_;refine dq 12 (A1 rfl rfl rfl (eI (fun v=>p (64*(i/64)+v)) (fun v=>v==i%64))) ?_;refine dq 13 (Ae Ai rfl rfl rfl rfl rfl rfl (At _ _ _) (Bt _ _).symm rfl (q46 _) z144q) ?_;refine DOps.w rfl rfl (o_store Ai (es:=BE R p) (cs:=BK p (i/64)) rfl rfl rfl rfl rfl (At _ _ _) (Bt _ _).symm j8 rfl Aj rfl (fun _=>rfl)) ?_
 refine wk 1 ?_;refine⟨[],trivial,rfl,HSub.put (HSub.none _) ((At _ _ _).trans (congrArg (fun es=>some (AObj.row true 1 es)) ?_))⟩;rw[qQ8,q55];exact(congrArg ((BE R p).set (i/64)) (WQ p i)).symm.trans (Ll (fun v hv=>by
  have:(v==i)=false:=by rw[q40];intro e;exact hv (by rw[e])
  simp[this]))
theorem p8(z R i:Nat)(p:Nat->Bool)(hi:i<R)(hR:R<=100000):ACall Tryz.prog 108 [.ref z (nw R) 0 (nw R),.int .i64 (i:Int)] (hput hNew z (.row true 1 (BE R p))) (fun r h'=>r=.tup []/\HSub (hput hNone z (.row true 1 (BE R (fun v=>p v&& !(v==i))))) h'):=by
 have hj:=Vo hi;refine ACall.of_body (n:=14) Ai Tryz.func108 rfl rfl ?_;refine wk 3 ?_;refine dq 6 (A1 (r:=.int .i64 ((i/64:Nat):Int)) rfl rfl rfl (ZC z144q)) ?_;refine dq 7 (Ae Ai rfl rfl rfl rfl rfl rfl (At _ _ _) (Bt _ _).symm rfl (q46 _) z144q) ?_;refine dq 8 (Ar Ai rfl rfl rfl (.ptr _ _ _ _ _ _ _ (BK p (i/64)) (At _ _ _) (Bt _ _).symm j8) rfl) ?_;refine dm 9 ?_;refine dq 10 (A1 (r:=.int .i64 ((i%64:Nat):Int)) rfl rfl rfl fR) ?_;refine dq 11 (A1 (r:=.int .u64 ((wd (fun v=>v==i%64):Nat):Int)) rfl rfl rfl (eJ z144q)) ?_;refine dq 12 (A1 rfl rfl rfl (Q2 (fun v=>p (64*(i/64)+v)) (fun v=>v==i%64))) ?_;refine dq 13 (Ae Ai rfl rfl rfl rfl rfl rfl (At _ _ _) (Bt _ _).symm rfl (q46 _) z144q) ?_;refine DOps.w rfl rfl (o_store Ai (es:=BE R p) (cs:=BK p (i/64)) rfl rfl rfl rfl rfl (At _ _ _) (Bt _ _).symm j8 rfl Aj rfl (fun _=>rfl)) ?_
 refine wk 1 ?_;refine⟨[],trivial,rfl,HSub.put (HSub.none _) ((At _ _ _).trans (congrArg (fun es=>some (AObj.row true 1 es)) ?_))⟩;rw[qQ8,q55];exact(congrArg ((BE R p).set (i/64)) (aE p i)).symm.trans (Ll (fun v hv=>by
  have:(v==i)=false:=by rw[q40];intro e;exact hv (by rw[e])
  simp[this]))
theorem Lm(z R:Nat)(hR:R<=100000):ACall Tryz.prog 98 [.int .i64 (R:Int)] (hput hNew z .free) (fun r h'=>r=.ref z (nw R) 0 (nw R)/\HSub (hput hNone z (.row true 1 (BE R (fun _=>false)))) h'):=by
 refine ACall.of_body (n:=7) Ai Tryz.func98 rfl rfl ?_;refine wk 7 ?_;refine aq 4 (A1 (r:=.int .i64 ((R+63:Nat):Int)) rfl rfl rfl (H9 (a:=R) (b:=63) (JJ z144q))) ?_;refine aq 5 (A1 (r:=.int .i64 ((nw R:Nat):Int)) rfl rfl rfl (ZC z144q)) ?_;refine ax 6 (AJ Ai (n:=nw R) (m:=nw R) z true rfl rfl rfl rfl rfl rfl rfl rfl (At _ _ _) rfl (q68 _) rfl (qZ0 _) (by unfold nw;show 8*_<=_;omega) (by unfold nw;simp only[maxLen];omega)) ?_;refine wk 3 ?_;refine⟨[_],⟨rfl,trivial⟩,rfl,HSub.put (HSub.none _) ((At _ _ _).trans (congrArg (fun es=>some (AObj.row true 1 es)) (bx R)))⟩
theorem OX(z R:Nat)(p:Nat->Bool)(hR:R<=100000):ACall Tryz.prog 91 [.ref (z+16) (nw R) 0 (nw R),.int .i64 (R:Int)] (hput hNew (z+16) (.row true 1 (BE R p))) (fun r h'=>r=Cf (GW R p)/\HSub (hput hNone (z+16) (.row true 1 (BE R p))) h'):=by
 refine ACall.of_body (n:=29) Ai Tryz.func91 rfl rfl ?_;refine wk 7 ?_;refine ax 8 (AJ Ai (n:=R) (m:=R) 0 true rfl rfl rfl (rfl) (rfl) rfl rfl rfl rfl rfl (q68 _) rfl (qZ0 _) (by show 1*R<=_;omega) Be) ?_;refine wk 10 ?_;refine AGo.loopI (γ:=Nat) (fun k=>⟨29,(Aa (Aa (Aa (Aa AZ 0 (.ref (z+16) (nw R) 0 (nw R))) 5 (.ref 0 R 0 R)) 10 (.int .i64 (R:Int))) 11 (.int .i64 (k:Int))),(hput (hput hNone (z+16) (.row true 1 (BE R p))) 0 (.row true 1 (((GW R p).take k).map Bg++List.replicate (R-k) [AV.bool false])))⟩) (fun k=>k<=R) (fun k=>R-k) 0 (Sub.mk' DB (by repeat(first|exact HSub.refl _|exact HSub.none _|exact AQ _|exact AM D2|refine HSub.put ?_ (by first|rfl|exact At _ _ _|((try simp only[hputs]);repeat(first|rfl|exact At _ _ _|refine AC Cy ?_|refine hrm_skip z144q ?_|refine(CV _ QA).trans ?_)))|refine AP ?_ D2|refine BD ?_ Aj))) (qZ1 _) ?_
 intro k hk;refine wk 5 ?_;refine asp 12 (fun hb1=>?_) fun hb1=>?_
 .
  refine act ?_;have hkl:k<R:=by have h:=hb1;simp at h;exact h
  have hpk:(fun v=>p (64*(k/64)+v)) (k%64)=p k:=by show p (64*(k/64)+k%64)=p k;rw[Nat.div_add_mod]
  refine wk 13 ?_;refine aq 18 (A1 (r:=.int .i64 ((k/64:Nat):Int)) rfl rfl rfl (ZC z144q)) ?_;refine aq 19 (Ae Ai rfl rfl rfl rfl rfl rfl BL (Bt _ _).symm rfl (q46 _) (by have:=Vo hkl;omega)) ?_;refine aq 20 (Ar Ai rfl rfl rfl (.ptr _ _ _ _ true 1 (BE R p) (BK p (k/64)) BL (Bt _ _).symm (by rw[qQ8,q55];exact EI (Vo hkl))) rfl) ?_;refine wk 1 ?_;refine aq 22 (A1 (r:=.int .i64 ((k%64:Nat):Int)) rfl rfl rfl fR) ?_;refine aq 23 (A1 rfl rfl rfl (pK (p:=fun v=>p (64*(k/64)+v)) z144q)) ?_;refine aq 24 (A1 rfl rfl rfl (kq (fun v=>p (64*(k/64)+v)) z144q)) ?_;refine aq 25 (A1 rfl rfl rfl (pL _)) ?_;refine aq 26 (Ae Ai rfl rfl rfl rfl rfl rfl rfl (AG (H4 R p) (qX0 hkl)) rfl (q46 _) z144q) ?_;refine AOps.w rfl rfl (o_store Ai rfl rfl rfl rfl rfl rfl (AG (H4 R p) (qX0 hkl)) (fill_get (H4 R p) hkl) rfl Aj rfl E4) ?_
  refine wk 2 ?_;refine aq 27 (A2 rfl rfl hkl Be) ?_;refine wk 2 ?_;exact⟨k+1,Sub.mk' B5 (by repeat(first|exact HSub.refl _|exact HSub.none _|exact AQ _|exact AM D2|refine HSub.put ?_ (by first|rfl|exact congrArg (fun es=>some (AObj.row true 1 es)) (B4 (f:=Bg) (x:=p (64*(k/64)+k%64)) (H4 R p) ((Vr hkl).trans (congrArg some hpk.symm)))|((try simp only[hputs]);repeat(first|rfl|exact At _ _ _|refine AC Cy ?_|refine hrm_skip z144q ?_|refine(CV _ QA).trans ?_)))|refine AP ?_ D2|refine BD ?_ Aj)),hkl,by omega⟩
 refine acf ?_;have hge:R<=k:=by have h:=hb1;simp at h;exact h
 refine wk 2 ?_;refine AGo.ghost (.freeze 5 0 rfl rfl (AG (H4 R p) hk)) ?_;rw[CU (H4 R p) hge];refine wk 5 ?_;refine⟨[_],⟨rfl,trivial⟩,rfl,HSub.put (HSub.none _) BL⟩
abbrev Fr(l:Nat):Fence:=Fence.wide.inRound l
variable {P : Program} {l n : Nat}
variable {args : Array Value} {w : World}
theorem db{f:FuncId}{R:Ending->World->Prop}(h:Calls P f args w R):CallsIn (Fr l) n P f args w R:=callsIn_wide (n:=n).2 h
theorem fK{row:String}{R:Value->World->Prop}(h:Rows P row args w R):RowsIn (Fr l) n P row args w R:=fun c cs _=>
 let ⟨v,w',r,s⟩:=h c cs
 ⟨v,w',r,stepsIn_wide.2 s⟩
def LG(o:Oper):Bool:=match o.op with
  | .defer _=>false
  |_=>true
theorem ZJ{a:Act}{N:Act->World->Prop}{Q:Exit->Act->World->Prop}(hd:LG o=true)(h:o.wp P a w N Q):o.wpIn (Fr l) n P a w N Q:=by
 refine⟨fun _ _=>trivial,?_⟩;rw[Oper.semAt_eq _ _ _ (fun c e=>by unfold LG at hd;rw[e]at hd;cases hd)];unfold Oper.wp at h;generalize(execOp a.eval o).run P w=res at h|-
 cases res with
 |ok x w'=>
  cases x with
  |value v=>exact h
  |skip=>exact h
  |defer d=>exact h
  |enter f args=>exact⟨fun e=>(by cases e),db h⟩
  |row r args=>exact⟨fun e=>(by cases e),fK h⟩
  |_=>exact h.elim
 |halt x w'=>
  cases x with
  |panic v=>exact h
  |_=>exact h.elim
theorem ZO{ops:Array Oper}{Q:Exit->Act->World->Prop}(hq:¬LetsOut Q):∀(L:List Oper),L.all LG=true->∀{a:Act} {w:World},wpList P ops Q L a w->wpListIn (Fr l) n P ops Q L a w
 | [],_,_,_,h=>h
 |o::L,hd,a,w,h=>by
  simp only[qQ1,q66]at hd;have ih:=@ZO ops Q hq L hd.2;unfold wpList at h;unfold wpListIn
  by_cases hw:Region.wanted o (yielded ops a.tmps)=true
  . rw[qK0 hw]at h|-;rcases h with h|⟨_,h⟩
    . exact ZJ hd.1 (qX8 (fun a' w' hx=>ih hx) h)
    . exact absurd h hq
  . rw[qZ9 hw]at h|-;exact⟨fun _ _=>trivial,ih h⟩
def AGoR(P:Program)(l n:Nat)(c:Code)(s:Al)(Q:Exit->Al->Prop):Prop:=
  ∀H ι a w,Sim H ι s a w->c.wpIn (Fr l) n P (Post H ι s.h w Q) a w
variable {s s' : Al} {Q : Exit -> Al -> Prop}
theorem AGoR.skip(h:Q .normal s):AGoR P l n .skip s Q:=fun H ι a w hs=>wpIn_skip ⟨s,H,ι,h,hs,Step.refl _ _ _ _⟩
theorem AGoR.exit{id:Nat}(h:Q (.exit id) s):AGoR P l n (.exit id) s Q:=fun H ι a w hs=>wpIn_exit ⟨s,H,ι,h,hs,Step.refl _ _ _ _⟩
theorem AGoR.mono{c:Code}{Q':Exit->Al->Prop}(h:AGoR P l n c s Q)(hq:∀e s,Q e s->Q' e s):AGoR P l n c s Q':=fun H ι a w hs=>wpIn_mono (h H ι a w hs) fun e a' w' hp=>hp.mono (hq e)
theorem AGoR.seq{x y:Code}(h:AGoR P l n x s (Ce (fun s'=>AGoR P l n y s' Q) Q)):AGoR P l n (.seq x y) s Q:=by
 intro H ι a w hs;refine wpIn_seq (wpIn_mono (h H ι a w hs) fun e a' w' hp=>?_)
 cases e with
 |normal=>
  obtain⟨s',H',ι',q,r,t⟩:=hp;exact wpIn_mono (q H' ι' a' w' r) fun e a'' w'' hp'=>Post.step hs.heap r.heap t hp'
 |_=>exact hp
theorem AGoR.cond{t:Nat}{x y:Code}{b:Bool}(he:s.env t=some (.bool b))(h1:b=true->AGoR P l n x s Q)(h2:b=false->AGoR P l n y s Q):AGoR P l n (.cond (.tmp t) x y) s Q:=by
 intro H ι a w hs;obtain⟨v,hv,hr⟩:=hs.env t _ he
 cases hr
 have hev:a.eval (.tmp t)=.bool b:=by simp[Act.eval,hv]
 exact wpIn_cond_split hev (fun e=>h1 e H ι a w hs) (fun e=>h2 e H ι a w hs)
theorem AGoR.cond_true{t:Nat}{x y:Code}(b:Bool)(he:s.env t=some (.bool b))(hb:b=true)(h:AGoR P l n x s Q):AGoR P l n (.cond (.tmp t) x y) s Q:=
 AGoR.cond he (fun _=>h) YT
theorem AGoR.cond_false{t:Nat}{x y:Code}(b:Bool)(he:s.env t=some (.bool b))(hb:b=false)(h:AGoR P l n y s Q):AGoR P l n (.cond (.tmp t) x y) s Q:=
 AGoR.cond he YT (fun _=>h)
theorem AGoR.block{id:Nat}{c:Code}(h:AGoR P l n c s (T9 id Q)):AGoR P l n (.block id c) s Q:=by
 intro H ι a w hs;refine wpIn_block (wpIn_mono (h H ι a w hs) fun e a' w' hp=>?_);exact q7
variable {c : Code}
theorem AGoR.ghost(hg:Ghost s s')(h:AGoR P l n c s' Q):AGoR P l n c s Q:=fun H ι a w hs=>by
 obtain⟨H',ι',h1,h2⟩:=hg H ι a w hs;exact wpIn_mono (h H' ι' a w h1) fun e a' w' hp=>Post.step hs.heap h1.heap h2 hp
theorem AGoR.sub(hg:Sub s' s)(h:AGoR P l n c s' Q):AGoR P l n c s Q:=AGoR.ghost (.of_sub hg) h
theorem AGoR.split{m:Nat}(d:Nat){b:Bool}(he:e d=some (.bool b))(h1:b=true->AGoR P l n c ⟨m,Aa e d (.bool true),h⟩ Q)(h2:b=false->AGoR P l n c ⟨m,Aa e d (.bool false),h⟩ Q):AGoR P l n c ⟨m,e,h⟩ Q:=by
 exact jX
theorem AGoR.loop{γ:Type}{c:Code}(I:γ->Al->Prop)(μ:γ->Nat)(g0:γ)(h0:I g0 s)
 (round:∀g s,I g s->AGoR P l n c s (Ce (fun s'=>∃g',I g' s'/\μ g'<μ g) Q)):AGoR P l n (.loop c) s Q:=by
 intro H ι a w hs b k cs hro hb hr;have key:∀m g s1 H1 ι1 a1 w1,μ g=m->I g s1->Sim H1 ι1 s1 a1 w1->Step H ι s.h w H1 ι1 s1.h w1->
  ∃e a' w',Post H ι s.h w Q e a' w'/\ArrivesIn (Machine.fenced P (Fr l)) P (lone (b.atR a1 (.code c:: .inLoop c::k)) cs w1) b k cs e a' w':=by
  intro m
  induction m using Nat.strongRecOn with
  |_ m ih=>
   intro g s1 H1 ι1 a1 w1 hn hI hs1 hst;obtain⟨e,a₂,w₂,hq,harr⟩:=round g s1 hI H1 ι1 a1 w1 hs1 b (.inLoop c::k) cs hro hb hr;obtain⟨s2,H2,ι2,q,r,t⟩:=hq;have t':=hst.trans hs.heap hs1.heap t
   cases e with
   |normal=>
    obtain⟨g',hI',hlt⟩:=q;obtain⟨e₂,a₃,w₃,hq₂,harr₂⟩:=ih (μ g') (hn▸hlt) g' s2 H2 ι2 a₂ w₂ rfl hI' r t';exact⟨e₂,a₃,w₃,hq₂,.of_steps (StepsIn.trans harr (.one (fenced_calm hb hr rfl) stepR_inLoop)) harr₂⟩
   |exit id=>exact⟨.exit id,a₂,w₂,⟨s2,H2,ι2,q,r,t'⟩,.pass (x:=.inLoop c) rfl (fun _ _=>.inl z145q) harr⟩
   |goto t=>exact⟨.goto t,a₂,w₂,⟨s2,H2,ι2,q,r,t'⟩,.pass (x:=.inLoop c) rfl (fun _ _=>.inl z145q) harr⟩
   |ret=>exact⟨.ret,a₂,w₂,⟨s2,H2,ι2,q,r,t'⟩,.pass (x:=.inLoop c) rfl (fun _ _=>.inl z145q) harr⟩
   |panic ch=>exact⟨.panic ch,a₂,w₂,⟨s2,H2,ι2,q,r,t'⟩,.pass (x:=.inLoop c) rfl (fun _ _=>.inl z145q) harr⟩
   |outgrown=>exact⟨.outgrown,a₂,w₂,⟨s2,H2,ι2,q,r,t'⟩,.pass (x:=.inLoop c) rfl (fun _ _=>.inl z145q) harr⟩
 obtain⟨e,a',w',hq,harr⟩:=key (μ g0) g0 s H ι a w rfl h0 hs (Step.refl _ _ _ _);exact⟨e,a',w',hq,.of_steps (.one (fenced_calm hb hr rfl) stepR_loop) harr⟩
theorem AGoR.loopI{γ:Type}(inv:γ->Al)(F:γ->Prop)(μ:γ->Nat)(g0:γ)(h0:Sub (inv g0) s)(hF:F g0)
 (round:∀g,F g->AGoR P l n c (inv g) (Ce (fun s'=>∃g',Sub (inv g') s'/\F g'/\μ g'<μ g) Q)):AGoR P l n (.loop c) s Q:=
 AGoR.loop (fun g s'=>Sub (inv g) s'/\F g) μ g0 ⟨h0,hF⟩ fun g s' hs=>AGoR.sub hs.1 ((round g hs.2).mono fun e s'' hq=>by
  cases e with
  |normal=>obtain⟨g',h1,h2,h3⟩:=hq;exact⟨g',⟨h1,h2⟩,h3⟩
  |_=>exact hq)
theorem AGoR.region{id:Nat}{ops:Array Oper}(hd:ops.toList.all LG=true)(h:AOps P ops ops.toList s (fun s'=>Q .normal s')):AGoR P l n (.region id ops false) s Q:=fun H ι a w hs=>by
 have hpost:∀e a2 w2,Post H ι s.h w (Ce (fun s'=>Q .normal s') fun _ _=>False) e a2 w2->Post H ι s.h w Q e a2 w2:=fun e a2 w2 hp=>by
  exact mL
 have hlo:¬LetsOut (Post H ι s.h w (Ce (fun s'=>Q .normal s') fun _ _=>False)):=fun⟨a,w,s',H',ι',q,r⟩=>q
 exact wpIn_mono (wpIn_region_list (ZO hlo _ hd (h H ι a w hs))) hpost
end Go.Proofs.YtbbfelelocccmaaGreat.Sv
namespace Go.Proofs.YtbbfelelocccmaaGreat.Sv
open Go Go.RowKit
def AObj.noMap:AObj->Bool
  | .map _=>false
  | .iter0=>false
  |_=>true
def NoMap(h:Ad):Prop:=∀b o,h b=some o->o.noMap=true
theorem NoMap.new:NoMap hNew:=fun b o h=>by cases h;rfl
variable {h : Ad}
theorem NoMap.put(hh:NoMap h)(b:Nat){o:AObj}(ho:o.noMap=true):NoMap (hput h b o):=fun c q hq=>by
 by_cases hc:c=b
 . subst hc;rw[At]at hq;cases hq;exact ho
 . rw[AU _ _ hc]at hq;exact hh c q hq
theorem NoMap.none:NoMap hNone:=fun b o h=>by cases h
variable {row : Option Nat} {w w' : World} {H : AA} {ι : Bp}
theorem HeapRel.grownO(hr:HeapRel H ι h w)(hm:NoMap h)(hg:w.grownBy w' row)(hrow:∀r,row=some r->∃o:Obj,w.heap[r]?=some o/\o.isCells=false):HeapRel H ι h w':=by
 have key:∀(b:Nat) (c:Array Value) (T:TypeId) (fr:Nat×Nat),w.heap[b]?=some (Obj.cells c T fr)->w'.heap[b]?=some (Obj.cells c T fr):=fun b c T fr hb=>by
  refine(hg.block b (q03.1 hb).1 (fun e=>?_)).trans hb;obtain⟨o,ho,hc⟩:=hrow b e.symm;rw[hb]at ho;cases ho;cases hc
 refine⟨fun b c hb=>?_,hr.free,fun b o h1 h2=>?_,hr.inj,hr.glob⟩
 . obtain⟨T,fr,e⟩:=hr.know b c hb;exact⟨T,fr,key _ _ _ _ e⟩
 . obtain⟨r,e1,e2,e3⟩:=hr.obj b o h1 h2;refine⟨r,e1,?_,e3⟩
   cases o with
   |free=>trivial
   |map kvs=>have:=hm b _ h1;cases this
   |iter0=>have:=hm b _ h1;cases this
   |row p sz es=>
    obtain⟨r1,r2,r3,r4,r5,r6⟩:=e2;refine⟨r1,r2,r3,r4,r5,fun hsol=>?_⟩;obtain⟨c,T,⟨fr,q1,q2⟩,q3,q4⟩:=r6 hsol;exact⟨c,T,⟨fr,key _ _ _ _ q1,q2⟩,q3,q4⟩
variable {H' : AA} {ι' : Bp} {h' : Ad}
theorem Step.grown{w'':World}(st:Step H ι h w H' ι' h' w')(hg:w'.grownBy w'' row)(hrow:∀r,row=some r->w.heap.size<=r):Step H ι h w H' ι' h' w'' where
 size:=qX2 st.size hg.size
 os:=hg.os.trans st.os
 out:=hg.output.trans st.out
 keep:=fun rb hlt hno=>by
  refine(hg.block rb (q51 hlt st.size) (fun e=>?_)).trans (st.keep rb hlt hno);have:=hrow rb e.symm;omega
 kle:=st.kle
 knew:=st.knew
 lle:=st.lle
 lframe:=st.lframe
 newrb:=st.newrb
 dom:=st.dom
theorem Step.others(hr:HeapRel H ι h w)(hm:NoMap h)(st:Step H ι h w H' ι' h' w'):KeepsOthers w w':=
 ⟨st.size,fun k o hk ho=>by
  have hlt:=(q03.1 hk).1;refine(st.keep k hlt ?_).trans hk
  rintro⟨b,q,r,h1,h2,h3,h4,h5⟩
  obtain⟨r',e1,e2,_⟩:=hr.obj b q h1 h2;rw[h3]at e1;cases e1
  cases q with
  |free=>cases h2
  |map kvs=>have:=hm b _ h1;cases this
  |iter0=>have:=hm b _ h1;cases this
  |row p sz es=>
   obtain⟨_,_,_,_,_,r6⟩:=e2;obtain⟨c,T,⟨fr,q1,_⟩,_,_⟩:=r6 h4;rw[h5]at q1;rw[hk]at q1;cases q1;cases ho⟩
theorem Step.of_sub(hh:HSub h' h):Step H ι h w H ι h' w:=⟨qZ0 _,rfl,rfl,fun _ _ _=>rfl,KLe.refl _,fun _ h=>.inl h,LLe.refl _,fun _ _=>rfl,fun _ _ h _=>.inl h,fun b hb=>by
 cases e:h' b with
 |none=>rfl
 |some o=>rw[hh b o e]at hb;cases hb⟩
variable {P : Program}
variable {Q : Exit -> Act -> World -> Prop} {s : Al}
theorem eG{α:Type}{a:Act}(hs:Sim H ι s a w){g:Operand}{p d ida:Nat}{oa:Oper}{body:Code}{gf:Nat}{cs:List AV}
 (hoa:oa.op=.assign (.tmp p)) (hda:oa.dst=some d) (hga:oa.guard=none) (hp:p<s.n) (hd:d<s.n) (hpd:p≠d)
 (hg:An s.env g=some (.fn (.func gf) [] cs)) (eg:∀args w,(callFunc gf args).run P w=.ok (.enter gf args) w)
 {enc:α->Value} {av:α->AV} (hav:∀x H ι,Rel H ι (av x) (enc x)) {S:List α->Prop} {N:Nat}
 (hseq:∀lb:Array Value,lb.size=cs.length->(∀(j:Nat) (x:AV) (v:Value),cs[j]?=some x->lb[j]?=some v->Rel H ι x v)->SeqStopsK Fence.wide 3 P gf lb (fun x=> #[enc x]) (fun _ _=>True) S (fun _=>True) N w)
 (e0:Ax) (hI:List α->Ad) (he0:ESub e0 s.env) (hm0:NoMap s.h) (hm:∀pre,NoMap (hI pre)) (h0:HSub (hI []) s.h)
 (hbody:∀(l:Nat) (pre:List α) (x:α),pre.length<N->AGoR P l 2 body ⟨s.n,Aa (Aa e0 p (av x)) d (av x),hI pre⟩ (Ce (fun s'=>HSub (hI (pre++[x])) s'.h) (fun _ _=>False)))
 (hdone:∀(D:Nat) (xs:List α) (W:World) (H':AA) (ι':Bp),w.heap.size<=D->S xs->HeapRel H' ι' (hI xs) W->Step H ι s.h w H' ι' (hI xs) W->W.heap[D]?=some (.deferred (some []))->Q .normal {tmps:=a.tmps,defers:=[{target:=.collected D,args:= #[]}]} W):
 (Code.rangeFunc g #[p] (.region ida #[oa] false) body).wp P Q a w:=by
 obtain⟨us,lb,hge,hus,hlb,_,hrl⟩:∃us lb,a.eval g=.func (.func gf) us lb/\([]:List AV).length=us.size/\cs.length=lb.size/\True/\∀(j:Nat) (x:AV) (v:Value),cs[j]?=some x->lb[j]?=some v->Rel H ι x v:=by
  obtain⟨us,vs,e1,e2,e3,_,e5⟩:=(Ao hs hg).fn_inv;exact⟨us,vs,e1,e2,e3,trivial,e5⟩
 have hus':us= #[]:=by
  cases us with
  |mk l=>cases l with
   |nil=>rfl
   |cons y l=>simp at hus
 subst hus';refine wpIn_wide (n:=4).1 ?_;have hpn:p<a.tmps.size:=by rw[hs.n];exact hp
 have hdn:d<a.tmps.size:=by rw[hs.n];exact hd
 have hI0:∃H' ι',HeapRel H' ι' (hI []) w/\Step H ι s.h w H' ι' (hI []) w:=⟨H,ι,hs.heap.sub h0,Step.of_sub h0⟩
 refine wpIn_rangeFunc_ownF (F:=Fence.wide) (n:=4) (α:=α) (Q:=Q) (a:=a) (w:=w) (w0:=w) rfl Aj hge trivial eg (hseq lb hlb.symm hrl) (fun _ _=>trivial) (fun _ _ _ _ _ _ _ _=>trivial) (Below.refl _ _) (fun _=>rfl)
  (fun pre W=>∃H' ι',HeapRel H' ι' (hI pre) W/\Step H ι s.h w H' ι' (hI pre) W) (fun _ _ _=>False) ?_ (fun _ _ _ _ _ h _ _=>h) hI0
  (fun x=>{tmps:=(a.tmps.setIfInBounds p (enc x)).setIfInBounds d (enc x),defers:=[]}) ?_ ?_ ?_ (fun _ _ _ _ _ _ h _=>h.elim)
 . rintro pre W W' row ⟨H',ι',k1,k2⟩ hg' hr
   exact⟨H',ι',k1.grownO (hm pre) hg' (fun r e=>(hr r e).2),k2.grown hg' (fun r e=>(hr r e).1)⟩
 . intro l x W K hK;refine wpIn_region_list ?_;show wpListIn _ _ P _ _ [oa] _ W;unfold wpListIn;have hw:Region.wanted oa (yielded #[oa] (((#[p].zip #[enc x]).foldl (fun t (q:Nat×Value)=>t.setIfInBounds q.1 q.2) a.tmps)))=true:=by simp[Region.wanted,hga]
   rw[qK0 hw];refine ZJ (by unfold LG;rw[hoa]) ?_;unfold Oper.wp;simp only[execOp,hoa,qX1,Oper.upon];have e1:(#[p].zip #[enc x]).foldl (fun t (q:Nat×Value)=>t.setIfInBounds q.1 q.2) a.tmps=a.tmps.setIfInBounds p (enc x):=by simp
   have e2:({tmps:=a.tmps.setIfInBounds p (enc x),defers:=[]}:Act).eval (.tmp p)=enc x:=by
    simp[Act.eval,hpn]
   show K _ W;rw[hda];simpa[Act.put,Act.eval,hpn]using hK
 . rintro l pre x W ⟨H',ι',k1,k2⟩ hlt
   have hsim:Sim H' ι' ⟨s.n,Aa (Aa e0 p (av x)) d (av x),hI pre⟩ {tmps:=(a.tmps.setIfInBounds p (enc x)).setIfInBounds d (enc x),defers:=[]} W:=by
    refine⟨by simp[hs.n],rfl,fun t y hy=>?_,k1⟩
    by_cases htd:t=d
    . subst htd;have hy':Aa (Aa e0 p (av x)) t (av x) t=some y:=hy;rw[C0]at hy';cases hy';exact⟨enc x,by simp[hdn],hav x _ _⟩
    . have hy':Aa (Aa e0 p (av x)) d (av x) t=some y:=hy;rw[EQ _ _ htd]at hy'
      by_cases htp:t=p
      . subst htp;rw[C0]at hy';cases hy';refine⟨enc x,?_,hav x _ _⟩;show((a.tmps.setIfInBounds t (enc x)).setIfInBounds d (enc x))[t]?=_;rw[q00 (fun e=>htd e.symm)];simp[hpn]
      . rw[EQ _ _ htp]at hy';obtain⟨v,v1,v2⟩:=hs.env t y (he0 t y hy');refine⟨v,?_,v2.mono k2.kle k2.lle⟩;show((a.tmps.setIfInBounds p (enc x)).setIfInBounds d (enc x))[t]?=_;rw[q00 (fun e=>htd e.symm),q00 (fun e=>htp e.symm)];exact v1
   refine wpIn_mono (hbody l pre x hlt H' ι' _ W hsim) fun e a' W' hp=>?_
   obtain⟨s',H2,ι2,q,r,t⟩:=hp
   cases e with
   |normal=>
    have t2:Step H' ι' (hI pre) W H2 ι2 (hI (pre++[x])) W':=t.trans k1 r.heap (Step.of_sub q);exact⟨t.others k1 (hm pre),trivial,H2,ι2,r.heap.sub q,k2.trans hs.heap k1 t2⟩
   |_=>exact q.elim
 . rintro D xs W hD hS ⟨H',ι',k1,k2⟩ hK
   have:a.defers=[]:=hs.d;have ha:{a with defers:={target:=.collected D,args:= #[]}::a.defers}=({tmps:=a.tmps,defers:=[{target:=.collected D,args:= #[]}]}:Act):=by rw[this]
   rw[ha];exact hdone D xs W H' ι' hD hS k1 k2 hK
def QD(ds:List Deferred)(K:Act->World->Prop)(a:Act)(w:World):Prop:=∃tm,a={tmps:=tm,defers:=ds}/\K {tmps:=tm,defers:=[]} w
theorem gy(tm:Array Value)(ds:List Deferred)(d:Option Nat)(v:Value):∃tm',({tmps:=tm,defers:=ds}:Act).put d v={tmps:=tm',defers:=ds}/\({tmps:=tm,defers:=[]}:Act).put d v={tmps:=tm',defers:=[]}:=by
 cases d with
 |none=>exact⟨tm,rfl,rfl⟩
 |some d=>exact⟨tm.setIfInBounds d v,rfl,rfl⟩
def GD(o:Oper):Bool:=match o.op with
  | .load .. | .store .. =>true
  |_=>false
variable {o : Oper}
theorem Xg(hd:GD o=true){ρ:Operand->Value}{x:Next}(h:(execOp ρ o).run P w=.ok x w'):(∃v,x=.value v)\/x=.skip:=by
 unfold GD at hd;unfold execOp at h
 cases ho:o.op<;>rw[ho]at hd h<;>first|(cases hd;done)|skip
 . simp only[qQ9,qX1]at h;generalize(Instr.loadAt _ _).run P w=r at h
   cases r with
   |ok v w1=>simp only[q57]at h;cases h;exact .inl ⟨v,rfl⟩
   |halt y w1=>cases h
 . simp only[qQ9,qX1]at h;generalize(Instr.storeAt _ _ _).run P w=r at h
   cases r with
   |ok v w1=>simp only[q57]at h;cases h;exact .inr rfl
   |halt y w1=>cases h
variable {tm : Array Value}
theorem lv{ds:List Deferred}{K:Act->World->Prop}(hd:GD o=true)(h:o.wp P {tmps:=tm,defers:=[]} w K Q):o.wp P {tmps:=tm,defers:=ds} w (QD ds K) (fun e=>QD ds (Q e)):=by
 unfold Oper.wp at h|-;have e:(execOp ({tmps:=tm,defers:=ds}:Act).eval o)=execOp ({tmps:=tm,defers:=[]}:Act).eval o:=by
  congr 1
 rw[e];have hnd:∀x w',(execOp ({tmps:=tm,defers:=[]}:Act).eval o).run P w=.ok x w'->(∃v,x=.value v)\/x=.skip:=fun x w' hx=>Xg hd hx
 generalize(execOp ({tmps:=tm,defers:=[]}:Act).eval o).run P w=res at h hnd|-;have hput:∀v w',K (({tmps:=tm,defers:=[]}:Act).put o.dst v) w'->QD ds K (({tmps:=tm,defers:=ds}:Act).put o.dst v) w':=fun v w' hk=>by
  obtain⟨tm',e1,e2⟩:=gy tm ds o.dst v;rw[e2]at hk;exact⟨tm',e1,hk⟩
 cases res with
 |ok x w'=>
  rcases hnd x w' rfl with⟨v,rfl⟩|rfl
  . exact hput v w' h
  . exact hput _ w' h
 |halt x w'=>
  cases x with
  |panic v=>exact⟨tm,rfl,h⟩
  |_=>exact h.elim
theorem T4{ops:Array Oper}{ds:List Deferred}{Q:Exit->Act->World->Prop}(hq:¬LetsOut Q)(hd:∀(i:Nat) o,ops[i]?=some o->GD o=true):∀(fuel:Nat) (L:Array Bool) (tm:Array Value) (w:World),wpAny P .any ops Q fuel L {tmps:=tm,defers:=[]} w->wpAny P .any ops (fun e=>QD ds (Q e)) fuel L {tmps:=tm,defers:=ds} w
 |0,L,tm,w,h=>⟨h.1,tm,rfl,h.2⟩
 |fuel+1,L,tm,w,h=>by
  refine⟨fun h0=>⟨tm,rfl,h.1 h0⟩,fun i hi=>?_⟩;have h1:=h.2 i hi;unfold wpOp at h1|-;have go:∀a w',QD ds (wpAny P .any ops Q fuel (L.setIfInBounds i true)) a w'->wpAny P .any ops (fun e=>QD ds (Q e)) fuel (L.setIfInBounds i true) a w':=fun a w' ⟨tm',e,hx⟩=>by
   subst e;exact T4 hq hd fuel _ tm' w' hx
  cases ho:ops[i]? with
  |none=>rw[ho]at h1;exact T4 hq hd fuel _ tm w h1
  |some o=>
   rw[ho]at h1;simp only at h1|-
   by_cases hw:Region.wanted o (yielded ops tm)=true
   . rw[qK0 hw]at h1|-;rcases h1 with h1|⟨_,h1⟩
     . exact .inl (qX8 (fun a w' hx=>go a w' hx) (lv (hd i o ho) h1))
     . exact absurd h1 hq
   . rw[qZ9 hw]at h1|-;obtain⟨tm',e1,e2⟩:=gy tm ds o.dst undef;rw[e2]at h1;rw[e1];exact T4 hq hd fuel _ tm' w h1
theorem DOps.any{ops:Array Oper}{n:Nat}{e:Ax}{h:Ad}{K:Al->Prop}(hd:DOps P ops n ops.toList e h [] K){H:AA}{ι:Bp}{a:Act}{w:World}(hs:Sim H ι ⟨n,e,h⟩ a w):
 wpAny P .any ops (Post H ι h w (Ce K fun _ _=>False)) ops.size (Array.replicate ops.size false) a {w with drawn:=w.drawn+1}:=by
 obtain⟨cs,e',h',h1,h2,h3⟩:=hd;have hgrow:∀rb,rb<w.heap.size->({w with drawn:=w.drawn+1}:World).heap[rb]?=w.heap[rb]?:=fun _ _=>rfl
 have hr':HeapRel H ι h {w with drawn:=w.drawn+1}:=hs.heap.grow hgrow;have hst:Step H ι h w H ι h {w with drawn:=w.drawn+1}:=Step.grow hgrow (qZ0 _) rfl rfl;have hL0:∀i,(Array.replicate ops.size false).getD i false=false:=fun i=>by
  by_cases hi:i<ops.size
  . simp[hi]
  . simp[hi]
 have hm0:∀{V:Type} (l:List (WE V)) (g:Nat->V),Cg (fun i=>(Array.replicate ops.size false).getD i false) l 0 g=g:=fun l g=>funext fun x=>FE fun i u _ _=>hL0 _
 refine GK (fun e a' w' hp=>?_) _ _ _ _ (SG (I:=fun _=>True) (D:=[]) (K:=K) h1 trivial K7 h3 hs.heap ops.size (Array.replicate ops.size false) H ι a {w with drawn:=w.drawn+1}
  ⟨by simp,fun i hi=>by rw[hL0]at hi;cases hi⟩ (by unfold todo;simp) hs.d (by rw[hm0,hm0,hs.d0];exact⟨hs.n,hs.d,hs.env,hr'⟩) (by rw[hm0];exact hst))
 obtain⟨hD,s',H',ι',q,r,t⟩:=hp;have e2:{a' with defers:=[]}=a':=by cases a';simp only at hD;subst hD;rfl
 rw[e2]at r;exact⟨s',H',ι',q,r,t⟩
theorem kn{T:Nat->Option Av}(hT:CE P T)(hmx:P.follows .mixedOrders=true){fn:Func}{ops:Array Oper}{id D:Nat}{H0:AA}{ι0:Bp}{h0:Ad}{w0:World}{R:AV->Ad->Prop}
 (hld:∀(i:Nat) o,ops[i]?=some o->GD o=true) (hs:Sim H ι s {tmps:=tm,defers:=[]} w) (hnm:NoMap s.h) (hr0:HeapRel H0 ι0 h0 w0) (hst:Step H0 ι0 h0 w0 H ι s.h w) (hD:w0.heap.size<=D) (hK:w.heap[D]?=some (.deferred (some [])))
 (hd:DOps P ops s.n ops.toList s.env s.h [] (fun s'=>NoMap s'.h/\∃xs,Hy T s' fn.results.toList xs/\R (Gg xs) s'.h)):
 (Code.seq (.region id ops true) .ret).wp P (bodyPostM Fence.wide 3 P fn (fun e w'=>∃v r h' H' ι',e=.returned v/\R r h'/\Rel H' ι' r v/\HeapRel H' ι' h' w'/\Step H0 ι0 h0 w0 H' ι' h' w')) {tmps:=tm,defers:=[{target:=.collected D,args:= #[]}]} w:=by
 have hlo:¬LetsOut (Post H ι s.h w (Ce (fun s'=>NoMap s'.h/\∃xs,Hy T s' fn.results.toList xs/\R (Gg xs) s'.h) fun _ _=>False)):=fun⟨a,w,s',H',ι',q,r⟩=>q
 refine wp_seq (wp_mono (wp_region_any hmx (T4 (ds:=[{target:=.collected D,args:= #[]}]) hlo hld _ _ _ _ (DOps.any (K:=fun s'=>NoMap s'.h/\∃xs,Hy T s' fn.results.toList xs/\R (Gg xs) s'.h) hd hs))) fun e a' w' hp=>?_);obtain⟨tm',rfl,s',H',ι',q,r,t⟩:=hp
 cases e with
 |normal=>
  obtain⟨qn,xs,q1,q2⟩:=q;refine wp_ret ?_;have hoth:=t.others hs.heap hnm;have hK':=hoth.same D _ hK rfl;have hg:=grownBy_putObj' w' D (.deferred none);have hrow:∀r,some D=some r->∃o:Obj,w'.heap[r]?=some o/\o.isCells=false:=fun r e=>by cases e;exact⟨_,hK',rfl⟩
  have hr2:=r.heap.grownO qn hg hrow;have hst2:Step H0 ι0 h0 w0 H' ι' s'.h (w'.putObj D (.deferred none)):=(hst.trans hr0 hs.heap t).grown hg (fun r e=>by cases e;exact hD);refine⟨by simp,.inl ⟨D,_,rfl,run_takeDeferred hK',?_⟩⟩;obtain⟨v,e1,e2⟩:=Nq hT (s:=s') (a:={tmps:=tm',defers:=[]}) ⟨r.n,rfl,r.env,hr2⟩ q1;exact⟨v,e2,v,_,_,H',ι',rfl,q2,e1,hr2,hst2⟩
 |_=>exact q.elim
end Go.Proofs.YtbbfelelocccmaaGreat.Sv
namespace Go.Proofs.YtbbfelelocccmaaGreat.Sv
open Go Go.RowKit
variable {P : Program}
def AW(P:Program)(Q:Exit->Act->World->Prop)(H0:AA)(ι0:Bp)(h0:Ad)(w0:World)(c:Code)(s:Al):Prop:=
  ∀H ι a w,Sim H ι s a w->Step H0 ι0 h0 w0 H ι s.h w->c.wp P Q a w
def AD(K:Act->World->Prop)(H0:AA)(ι0:Bp)(h0:Ad)(w0:World)(s:Al):Prop:=
  ∀H ι tm w D,Sim H ι s {tmps:=tm,defers:=[]} w->Step H0 ι0 h0 w0 H ι s.h w->w0.heap.size<=D->w.heap[D]?=some (.deferred (some []))->K {tmps:=tm,defers:=[{target:=.collected D,args:= #[]}]} w
variable {Q : Exit -> Act -> World -> Prop} {H0 : AA} {ι0 : Bp} {h0 : Ad} {w0 : World} {s s' : Al} {K : Act -> World -> Prop}
theorem AW.seq(hr:HeapRel H0 ι0 h0 w0){x y:Code}(h:AGo P x s (Ce (fun s'=>AW P Q H0 ι0 h0 w0 y s') (fun _ _=>False))):AW P Q H0 ι0 h0 w0 (.seq x y) s:=fun H ι a w hs hst=>by
 refine wp_seq (wp_mono (h H ι a w hs) fun e a' w' hp=>?_);obtain⟨s',H',ι',q,r,t⟩:=hp
 cases e with
 |normal=>exact q H' ι' a' w' r (hst.trans hr hs.heap t)
 |_=>exact q.elim
theorem mE{x y:Code}(h:AW P (fun e a w=>match e with
 | .normal=>y.wp P Q a w
 |e=>Q e a w) H0 ι0 h0 w0 x s):AW P Q H0 ι0 h0 w0 (.seq x y) s:=fun H ι a w hs hst=>by
 refine wp_seq (wp_mono (h H ι a w hs hst) fun e a' w' hp=>?_)
 cases e<;>exact hp
theorem AD.ghost(hr:HeapRel H0 ι0 h0 w0)(hg:Ghost s s')(h:AD K H0 ι0 h0 w0 s'):AD K H0 ι0 h0 w0 s:=fun H ι tm w D hs hst hD hK=>by
 obtain⟨H',ι',g1,g2⟩:=hg H ι _ w hs;exact h H' ι' tm w D g1 (hst.trans hr hs.heap g2) hD hK
variable {cs : List AV}
theorem AW.range(hr:HeapRel H0 ι0 h0 w0){α:Type}{g:Operand}{p d ida b0:Nat}{oa:Oper}{body:Code}{gf:Nat}
 (hoa:oa.op=.assign (.tmp p)) (hda:oa.dst=some d) (hga:oa.guard=none) (hp:p<s.n) (hd:d<s.n) (hpd:p≠d)
 (hg:An s.env g=some (.fn (.func gf) [] cs)) (eg:∀args w,(callFunc gf args).run P w=.ok (.enter gf args) w)
 (enc:α->Value) (av:α->AV) (hav:∀x H ι,Rel H ι (av x) (enc x)) {S:List α->Prop} {N:Nat}
 (hseq:∀H ι w,HeapRel H ι s.h w->∀lb:Array Value,lb.size=cs.length->(∀(j:Nat) (x:AV) (v:Value),cs[j]?=some x->lb[j]?=some v->Rel H ι x v)->SeqStopsK Fence.wide 3 P gf lb (fun x=> #[enc x]) (fun _ _=>True) S (fun _=>True) N w)
 (e0:Ax) (hI:List α->Ad) (he0:ESub e0 s.env) (hm0:NoMap s.h) (hm:∀pre,NoMap (hI pre)) (h1:HSub (hI []) s.h)
 (hbody:∀(l:Nat) (pre:List α) (x:α),pre.length<N->AGoR P l 2 body ⟨s.n,Aa (Aa e0 p (av x)) d (av x),hI pre⟩ (Ce (fun s'=>HSub (hI (pre++[x])) s'.h) (fun _ _=>False)))
 (hdone:∀xs,S xs->AD (Q .normal) H0 ι0 h0 w0 ⟨s.n,s.env,hI xs⟩):
 AW P Q H0 ι0 h0 w0 (.block b0 (.rangeFunc g #[p] (.region ida #[oa] false) body)) s:=fun H ι a w hs hst=>by
 refine wp_block ?_;refine eG hs hoa hda hga hp hd hpd hg eg hav (hseq H ι w hs.heap) e0 hI he0 hm0 hm h1 hbody fun D xs W H' ι' hD hS hr' hst' hK=>?_
 show Q .normal _ W;refine hdone xs hS H' ι' _ W D ⟨hs.n,rfl,fun t x hx=>?_,hr'⟩ (hst.trans hr hs.heap hst') (qX2 hst.size hD) hK;obtain⟨v,e1,e2⟩:=hs.env t x hx;exact⟨v,e1,e2.mono hst'.kle hst'.lle⟩
variable {n : Nat} {c : Code}
theorem AGoR.join{l:Nat}{R:Exit->Al->Prop}{γ:Type}(inv:γ->Al)(F:γ->Prop)(h:AGoR P l n c s (Ce (fun s'=>∃g,Sub (inv g) s'/\F g) R))(k:∀g,F g->R .normal (inv g)):AGoR P l n c s R:=fun H ι a w hs=>
 wpIn_mono (h H ι a w hs) fun e a' w' hp=>by
  exact qX
variable {e : Ax} {h : Ad}
theorem Ghost.freezeP(t b:Nat){sz:Nat}(ht:e t=some (.ptr b 1 0 0))(hb:h b=some (.row true sz [cs])):Ghost ⟨n,e,h⟩ ⟨n,Aa e t (.loc cs),hrm h b⟩:=fun H ι a w hs=>by
 have hr:=hs.heap;obtain⟨r,hl,⟨r1,r2,r3,r4,r5,r6⟩,r7⟩:=hr.obj b _ hb rfl;have hsol:r.csz≠0:=by simp at r4;omega
 have hsubh:∀x o,hrm h b x=some o->h x=some o:=fun x o hx=>by
  exact dV
 have hdom:∀x,h x=none->hrm h b x=none:=fun x hx=>by
  cases e:hrm h b x with
  |none=>rfl
  |some o=>rw[hsubh x o e]at hx;cases hx
 obtain⟨c,TT,w1,w2,w3⟩:=r6 hsol;have hnone:H r.rb=none:=r7 hsol;have hkle:KLe H (KT H r.rb c):=fun x c' e=>by
  rw[Fg _ _ (fun hx=>by subst hx;rw[hnone]at e;cases e)];exact e
 have hsub:=hr.sub hsubh;have hheap:HeapRel (KT H r.rb c) ι (hrm h b) w:=by
  refine⟨fun x c' e=>?_,hsub.free,fun x o h1 h2=>?_,hsub.inj,hr.glob.mono hkle⟩
  . by_cases hx:x=r.rb
    . subst hx;rw[GE]at e;cases e;obtain⟨fr,w1',_⟩:=w1;exact⟨TT,fr,w1'⟩
    . rw[Fg _ _ hx]at e;exact hr.know x c' e
  . obtain⟨r',e1,e2,e3⟩:=hsub.obj x o h1 h2;exact oc
 have hstep:Step H ι h w (KT H r.rb c) ι (hrm h b) w:=by
  refine⟨qZ0 _,rfl,rfl,fun _ _ _=>rfl,hkle,fun x hx=>?_,LLe.refl _,fun _ _=>rfl,fun _ _ h _=>.inl h,hdom⟩
  by_cases hx':x=r.rb
  . subst hx';exact .inr (.inr ⟨b,_,r,hb,rfl,hl,hsol,rfl⟩)
  . rw[Fg _ _ hx']at hx;exact .inl hx
 refine⟨_,ι,⟨hs.n,hs.d,fun u y hy=>?_,hheap⟩,hstep⟩
 by_cases hu:u=t
 . subst hu;simp only[C0,q53]at hy;subst hy;obtain⟨v,h1,h2⟩:=hs.env u _ ht;have hv:=h2.ptr_live hl r3;subst hv;refine⟨_,h1,.loc _ _ _ _ c (fun k=>(c[0*r.sz+0+k]?).getD undef) (GE _ _ _) (fun j x hj=>?_) (fun j x hj=>?_) (fun j x hj=>?_)⟩
   . obtain⟨u,f1,_⟩:=w3.2 0 cs j x rfl hj;have f1':c[0*r.sz+0+j]?=some u:=by rw[<-f1];congr 1;rw[r1];omega
     show c[0*r.sz+0+j]?=some ((c[0*r.sz+0+j]?).getD undef);rw[f1'];rfl
   . obtain⟨u,f1,f2,_⟩:=w3.2 0 cs j x rfl hj;have f1':c[0*r.sz+0+j]?=some u:=by rw[<-f1];congr 1;rw[r1];omega
     show Rel _ _ _ ((c[0*r.sz+0+j]?).getD undef);rw[f1'];exact f2.mono hkle (LLe.refl _)
   . obtain⟨u,_,_,f3⟩:=w3.2 0 cs j x rfl hj;exact f3
 . simp only[EQ _ _ hu]at hy;obtain⟨v,h1,h2⟩:=hs.env u y hy;exact⟨v,h1,h2.mono hkle (LLe.refl _)⟩
theorem jG(hh:NoMap h)(b:Nat):NoMap (hrm h b):=fun c q hq=>by
 by_cases hc:c=b
 . subst hc;rw[G2]at hq;cases hq
 . rw[FJ _ hc]at hq;exact hh c q hq
abbrev oT(P:Program)(fn:Func)(R:AV->Ad->Prop)(H:AA)(ι:Bp)(h:Ad)(w:World):Exit->Act->World->Prop:=
  bodyPostM Fence.wide 3 P fn (fun e w'=>∃v r h' H' ι',e=.returned v/\R r h'/\Rel H' ι' r v/\HeapRel H' ι' h' w'/\Step H ι h w H' ι' h' w')
variable {fn : Func} {R : AV -> Ad -> Prop}
theorem Qv{f:FuncId}{args:List AV}(hf:P.funcs[f]?=some fn)(hb:fn.body=some c)(hn:args.length+(fn.ntmps-args.length)=n)
 (hg:∀H ι w,HeapRel H ι h w->AW P (oT P fn R H ι h w) H ι h w c ⟨n,HH args,h⟩):ACall P f args h R:=by
 intro H ι w vs ha hr;have hs:Sim H ι ⟨n,HH args,h⟩ {tmps:=vs++Array.replicate (fn.ntmps-vs.size) undef,defers:=[]} w:=by
  exact q9
 exact callsIn_wide.1 (callsIn_of_wp_marks (F:=Fence.wide) (n:=3) hf hb trivial (wpIn_wide.2 (hg H ι w hr H ι _ w hs (Step.refl _ _ _ _))))
variable {ops : Array Oper}
theorem mH{T:Nat->Option Av}(hT:CE P T)(hmx:P.follows .mixedOrders=true){id:Nat}(hr:HeapRel H0 ι0 h0 w0)
 (hld:∀(i:Nat) o,ops[i]?=some o->GD o=true) (hnm:NoMap s.h)
 (hd:DOps P ops s.n ops.toList s.env s.h [] (fun s'=>NoMap s'.h/\∃xs,Hy T s' fn.results.toList xs/\R (Gg xs) s'.h)):
 AD (fun a w=>(Code.seq (.region id ops true) .ret).wp P (oT P fn R H0 ι0 h0 w0) a w) H0 ι0 h0 w0 s:=fun H ι tm w D hs hst hD hK=>
 kn hT hmx hld hs hnm hr hst hD hK hd
theorem dF{o:Oper}{rest:List Oper}{K:Al->Prop}(d:Nat){v:Value}(hd:o.dst=some d)(ho:o.op=.assign (.const v))(hg:o.guard=none)(he:e d=none)(hr:AOps P ops rest ⟨n,e,h⟩ K):AOps P ops (o::rest) ⟨n,e,h⟩ K:=by
 intro H ι a w hs;unfold wpList;rw[qK0 (by simp[Region.wanted,hg])];refine .inl ?_;unfold Oper.wp;simp only[execOp,ho,qX1];refine hr H ι _ w ?_;rw[hd];refine⟨by simp[Act.put,hs.n],hs.d,fun t x hx=>?_,hs.heap⟩;have hne:d≠t:=fun e2=>by subst e2;rw[show e d=some x from hx]at he;cases he
 obtain⟨v',e1,e2⟩:=hs.env t x hx;exact⟨v',by simp only[Act.put];rw[q00 hne];exact e1,e2⟩
end Go.Proofs.YtbbfelelocccmaaGreat.Sv
namespace Go.Proofs.YtbbfelelocccmaaGreat.Sv
open Go Go.RowKit Go.Shelf
abbrev Ng(N:Nat):={k:Nat//k<N}
def leftOf:Value->Nat
  | .int _ i=>(i+1).toNat
  |_=>0
theorem fQ(k:Nat):(List.range (k+1)).reverse=k::(List.range k).reverse:=by
 rw[q79,List.reverse_append];rfl
theorem mg(l N b off:Nat)(hN:N<=1000000000)(J Jx:List (Ng N)->World->Prop)
 (hY:∀pre (x:Ng N) W,J pre W->pre.length<N->YieldAt Fence.wide 2 Tryz.prog l #[.int .i64 (x.1:Int)] W fun e W'=>
  (e=.returned (.bool true)/\J (pre++[x]) W'/\True)\/(e=.returned (.bool false)/\Jx (pre++[x]) W'))
 (W:World) (hB:W.cell? ⟨b,off,none⟩=some (.int .i64 (N:Int))) (h0:J [] W):
 CallsIn Fence.wide 3 Tryz.prog 110 #[.func (.yield l) #[] #[],.pointer (some ⟨b,off,none⟩)] W fun e W'=>(∃v,e=.returned v)/\
  ((∃xs:List (Ng N),xs.map (·.1)=(List.range N).reverse/\J xs W')\/(∃pre,True/\Jx pre W')):=by
 refine callsIn_of_wp Tryz.func110 rfl trivial ?_ rfl;simp only[Tryz.ntmps110,List.size_toArray,q70,q84,Nat.reduceAdd,Nat.reduceSub,Array.replicate_succ,Array.replicate_zero,List.push_toArray,List.append_toArray,List.nil_append,q73]
 gi_wp2
 gi_loopw [3] (fun p wr=>∃(m:Nat) (pre:List (Ng N)),p=.int .i64 ((m:Int)-1)/\pre.map (·.1)++(List.range m).reverse=(List.range N).reverse/\J pre wr)
  (fun p wr=>leftOf p)
 case atStart=>
  exact⟨N,[],rfl,rfl,h0⟩
 case round=>
  obtain⟨m,pre,rfl,hx,hJs⟩:=hrel;have hlen:=congrArg List.length hx;simp only[q48,q76,List.length_reverse,List.length_range]at hlen
  cases m with
  |zero=>
   gi_wp2
   exact⟨rfl,_,results_none rfl _ _ _,⟨_,rfl⟩,.inl ⟨pre,by simpa using hx,hJs⟩⟩
  |succ k=>
   have hk:k<N:=by omega
   obtain⟨fn,tmps,assign,body,hy,hR⟩:=hY pre ⟨k,hk⟩ wr hJs z144q;dsimp only at hy
   gi_wp2
   refine hR.mono ?_
   rintro e W3 (⟨rfl,hJ3,_⟩|⟨rfl,hJx3⟩)
   . gi_wp2
     refine⟨⟨k,pre++[⟨k,hk⟩],rfl,?_,hJ3⟩,?_⟩
     . rw[q77,<-hx,fQ];simp only[qQ0,qX9,q63,q73,List.nil_append]
     . show((k:Int)-1+1).toNat<(((k+1:Nat):Int)-1+1).toNat;omega
   . gi_wp2
     exact⟨rfl,_,results_none rfl _ _ _,⟨_,rfl⟩,.inr ⟨_,trivial,hJx3⟩⟩
theorem Yj{N:Nat}(hN:N<=1000000000){H:AA}{ι:Bp}{h:Ad}{w:World}(hr:HeapRel H ι h w)(lb:Array Value)(hl:lb.size=[AV.loc [.int .i64 (N:Int)]].length)
 (hlb:∀(j:Nat) (x:AV) (v:Value),[AV.loc [.int .i64 (N:Int)]][j]?=some x->lb[j]?=some v->Rel H ι x v):
 SeqStopsK Fence.wide 3 Tryz.prog 110 lb (fun x:Ng N=> #[.int .i64 (x.1:Int)]) (fun _ _=>True) (fun xs=>xs.map (·.1)=(List.range N).reverse) (fun _=>True) N w:=by
 intro l J Jx W hB hJ hJx hY h0;obtain⟨v,hv⟩:=(⟨lb[0]'(by rw[hl];exact Nat.zero_lt_one),q12 _⟩:∃v,lb[0]?=some v);have hlb2:lb= #[v]:=by
  cases lb with
  |mk L=>cases L with
   |nil=>simp at hv
   |cons y L=>cases L with
    |nil=>simp at hv;rw[hv]
    |cons z L=>simp at hl
 subst hlb2;obtain⟨b,off,c,vals,rfl,hb,hcv,hcr,_⟩:=(hlb 0 _ v rfl hv).loc_inv;have e1:=hcv 0 _ rfl;have e2:=hcr 0 _ rfl
 cases e2_:vals 0 with
 |int k i=>
  rw[e2_]at e2 e1
  cases e2
  obtain⟨T,fr,e3⟩:=hr.know b c hb;have e4:W.heap[b]?=some (.cells c T fr):=by
   have:=hB.block b (q03.1 e3).1;exact this.trans e3
  refine(mg l N b off hN J Jx hY W ?_ h0).mono ?_
  . unfold World.cell?;rw[e4];exact e1
  . intro e W' hp;exact hp
 |_=>rw[e2_]at e2;cases e2
theorem mf(n:Int):ACall Tryz.prog 107 [.int .i64 n] hNew (fun r h'=>r=.fn (.func 110) [] [.loc [.int .i64 n]]/\HSub hNone h'):=by
 refine ACall.of_body (n:=4) Ai Tryz.func107 rfl rfl ?_;refine HG ?_;refine ax 1 (D4 1 0) ?_;refine dF 2 rfl rfl rfl rfl ?_;refine wk 2 ?_;refine AGo.ghost (.plain 0 rfl (by intro cs hc;simp at hc;subst hc;rfl)) ?_;refine AGo.ghost (.freezeP 1 0 rfl rfl) ?_;refine dJ ?_;refine aq 3 (GO rfl rfl rfl) ?_;refine wk 3 ?_;exact⟨[_],⟨rfl,trivial⟩,rfl,HSub.none _⟩
theorem O6(z R:Nat)(i:Int)(p:Nat->Bool)(h0:0<=i)(hi:i<R)(hR:R<=100000):ACall Tryz.prog 106 [.ref z (nw R) 0 (nw R),.int .i64 i] (hput hNew z (E5 R p)) (fun r h'=>r=.tup []/\HSub (hput hNone z (E5 R (fun v=>p v||v==i.toNat))) h'):=by
 have:=lc z R i.toNat p z144q hR;rw[q41 h0]at this;exact this
theorem rrm_okI(z R:Nat)(i:Int)(p:Nat->Bool)(h0:0<=i)(hi:i<R)(hR:R<=100000):ACall Tryz.prog 108 [.ref z (nw R) 0 (nw R),.int .i64 i] (hput hNew z (E5 R p)) (fun r h'=>r=.tup []/\HSub (hput hNone z (E5 R (fun v=>p v&& !(v==i.toNat)))) h'):=by
 have:=p8 z R i.toNat p z144q hR;rw[q41 h0]at this;exact this
theorem tR_nil(x:Block):tR x []=Dy x:=rfl
theorem pZ(x:Block):tS x []=fun _=>false:=rfl
theorem Ri{R:Nat}{p:Nat->Bool}:((BE R p).drop 0).take (nw R)=BE R p:=by rw[q95,q20 (by rw[Bt];exact qZ0 _)]
attribute [local irreducible] BE Dy Zt NV Ht tR tS
theorem Uy(x:Block)(R:Nat)(hR:R<=100000)(hi:x.ins.length<=100000)(hT:∀t∈x.ins,t.inR (R:Int))(hv:x.fin=2->0<=x.v/\x.v<R):ACall Tryz.prog 97 [.agg x.cells,.int .i64 (R:Int)] hNew (fun r h'=>r=.tup [.lst false (BE R (Ks x)),.lst false (BE R (fun v=>C3 v x.ins))]/\HSub hNone h'):=by
 refine Qv (n:=57) Tryz.func97 rfl rfl ?_;intro H0 ι0 w0 hr;refine AW.seq hr ?_;refine dJ ?_;refine ax 2 (D4 5 0) ?_;refine ax 4 (Eg Ai 1) ?_;refine ax 5 (Eg Ai 2) ?_;refine an ?_;refine AW.seq hr ?_;refine wk 2 ?_;refine ax 11 (GU (Lm 3 R hR) [3] [(3,(E5 R (fun _=>false)))] rfl Tryz.func98 AF rfl rfl rfl ⟨⟨_,rfl,rfl⟩,trivial⟩ rfl (Ac rfl (AE _)) ⟨⟨_,rfl,rfl,rfl⟩,trivial⟩ rfl) ?_;refine wk 1 ?_;refine ax 13 (GU (Lm 4 R hR) [4] [(4,(E5 R (fun _=>false)))] rfl Tryz.func98 AF rfl rfl rfl ⟨⟨_,rfl,rfl⟩,trivial⟩ rfl (Ac rfl (AE _)) ⟨⟨_,rfl,rfl,rfl⟩,trivial⟩ rfl) ?_;refine wk 3 ?_;refine AW.seq hr ?_;refine AGo.join (γ:=Unit) (fun _u=>⟨57,(Aa (Aa (Aa AZ 2 (.ptr 0 1 0 0)) 4 (.ptr 1 1 0 0)) 5 (.ptr 2 1 0 0)),(hput (hput (hput (hput (hput hNone 0 (.row false 5 [x.cells])) 1 (.row false 1 [[.ref 3 (nw R) 0 (nw R)]])) 2 (.row false 1 [[.ref 4 (nw R) 0 (nw R)]])) 3 (E5 R (Dy x))) 4 (E5 R (fun _=>false)))⟩) (fun _u=>True) ?_ ?_
 .
  refine wk 6 ?_;refine asp 16 (fun hb1=>?_) fun hb1=>?_
  .
   refine act ?_;have hfin:x.fin=2:=by simpa using hb1
   have hv2:=hv hfin
   skip
   refine wk 4 ?_;refine ax 20 (GU (O6 3 R x.v (fun _=>false) hv2.1 hv2.2 hR) [3] [(3,(E5 R (fun v=>(fun _=>false) v||v==x.v.toNat)))] rfl Tryz.func106 AF rfl rfl rfl ⟨⟨_,rfl,rfl⟩,trivial⟩ rfl (Ac rfl (AE _)) ⟨⟨_,rfl,rfl,rfl⟩,trivial⟩ rfl) ?_;refine an ?_;exact rg
  refine acf ?_;have hfin:¬x.fin=2:=by simpa using hb1
  refine mx ?_;exact rg
 intro _ _;refine mE ?_;refine AW.seq hr ?_;refine wk 4 ?_;refine ax 24 (Jf (r:=(.fn (.func 110) [] [.loc [.int .i64 (x.ins.length:Int)]])) (hc:=hNew) (hw:=hNone) [] [] rfl Tryz.func107 AF rfl rfl rfl trivial rfl (AE _) trivial rfl (by rw[q76];exact mf _)) ?_;refine an ?_;refine AW.range hr (α:=Ng x.ins.length) (S:=fun xs=>xs.map (·.1)=(List.range x.ins.length).reverse) (N:=x.ins.length) rfl rfl rfl (by show 25<57;decide) (by show 6<57;decide) Aj rfl (fun _ _=>rfl) (fun q=>.int .i64 (q.1:Int)) (fun q=>.int .i64 (q.1:Int)) (fun _ _ _=>.int _ _ _) (fun H ι w hh lb h1 h2=>Yj z144q hh lb h1 h2) (Aa (Aa (Aa AZ 2 (.ptr 0 1 0 0)) 4 (.ptr 1 1 0 0)) 5 (.ptr 2 1 0 0)) (fun pre=>(hput (hput (hput (hput (hput hNone 0 (.row false 5 [x.cells])) 1 (.row false 1 [[.ref 3 (nw R) 0 (nw R)]])) 2 (.row false 1 [[.ref 4 (nw R) 0 (nw R)]])) 3 (E5 R ((tR x (pre.map (·.1)))))) 4 (E5 R ((tS x (pre.map (·.1))))))) B5 kh (fun _=>kh) (by repeat(first|exact HSub.refl _|exact HSub.none _|exact AQ _|exact AM D2|refine HSub.put ?_ (by first|rfl|exact congrArg (fun p=>some (E5 R p)) (tR_nil x).symm|exact congrArg (fun p=>some (E5 R p)) (pZ x).symm)|refine AP ?_ D2|refine BD ?_ Aj)) ?_ ?_
 .
  intro l pre q hlt;obtain⟨t,ht⟩:=Af q.2;have hin:=hT t (q33 ht);refine AGoR.block ?_;refine AGoR.seq ?_;refine AGoR.seq ?_;refine AGoR.region rfl ?_;refine wk 3 ?_;refine aq 29 (Hc Ai (Aw ht)) ?_;refine wk 1 ?_;refine ax 31 (CW Tryz.func77 (L9 _)) ?_;refine wk 2 ?_;refine AGoR.seq ?_;refine AGoR.region rfl ?_;refine wk 3 ?_;refine AGoR.join (γ:=Unit) (fun _u=>⟨57,(Aa (Aa (Aa (Aa (Aa AZ 2 (.ptr 0 1 0 0)) 4 (.ptr 1 1 0 0)) 5 (.ptr 2 1 0 0)) 25 (.int .i64 (q.1:Int))) 6 (.int .i64 (q.1:Int))),(hput (hput (hput (hput (hput hNone 0 (.row false 5 [x.cells])) 1 (.row false 1 [[.ref 3 (nw R) 0 (nw R)]])) 2 (.row false 1 [[.ref 4 (nw R) 0 (nw R)]])) 3 (E5 R (Zt t (tR x (pre.map (·.1)))))) 4 (E5 R (NV t (tS x (pre.map (·.1))))))⟩) (fun _u=>True) ?_ ?_
  .
   refine AGoR.split 33 rfl (fun hb2=>?_) (fun hb2=>?_)
   .
    refine AGoR.cond_true true rfl rfl ?_;have hsp:0<=t.sets:=by simpa using hb2
    have hs1:t.sets<R:=by have:=hin.1 (E8 (by simpa using hb2));rw[JN (E8 (by simpa using hb2))];omega
    refine AGoR.seq ?_;refine AGoR.region rfl ?_;refine wk 2 ?_;refine ax 36 (GU (rrm_okI 3 R t.sets (tR x (pre.map (·.1))) hsp hs1 hR) [3] [(3,(E5 R (fun v=>(tR x (pre.map (·.1))) v&& !(v==t.sets.toNat))))] rfl Tryz.func108 AF rfl rfl rfl ⟨⟨_,rfl,rfl⟩,trivial⟩ rfl (Ac rfl (AE _)) ⟨⟨_,rfl,rfl,rfl⟩,trivial⟩ rfl) ?_;refine an ?_;refine AGoR.region rfl ?_;refine wk 2 ?_;refine ax 39 (GU (O6 4 R t.sets (tS x (pre.map (·.1))) hsp hs1 hR) [4] [(4,(E5 R (fun v=>(tS x (pre.map (·.1))) v||v==t.sets.toNat)))] rfl Tryz.func106 AF rfl rfl rfl ⟨⟨_,rfl,rfl⟩,trivial⟩ rfl (Ac rfl (AE _)) ⟨⟨_,rfl,rfl,rfl⟩,trivial⟩ rfl) ?_;refine an ?_;exact rl
   refine AGoR.cond_false false rfl rfl ?_;have hsp:¬0<=t.sets:=by simpa using hb2
   refine AGoR.skip ?_;exact rl
  intro _ _;refine AGoR.seq ?_;refine AGoR.region rfl ?_;refine wk 3 ?_;refine aq 43 (Hc Ai (Aw ht)) ?_;refine wk 1 ?_;refine ax 45 (CW Tryz.func81 (Qg _)) ?_;refine wk 3 ?_;refine AGoR.block ?_;refine AGoR.loopI (γ:=Nat) (fun k=>⟨57,(Aa (Aa (Aa (Aa (Aa (Aa (Aa (Aa AZ 2 (.ptr 0 1 0 0)) 4 (.ptr 1 1 0 0)) 5 (.ptr 2 1 0 0)) 25 (.int .i64 (q.1:Int))) 6 (.int .i64 (q.1:Int))) 45 (AS t.uses)) 46 (.int .i64 (t.uses.length:Int))) 47 (.int .i64 (k:Int))),(hput (hput (hput (hput (hput hNone 0 (.row false 5 [x.cells])) 1 (.row false 1 [[.ref 3 (nw R) 0 (nw R)]])) 2 (.row false 1 [[.ref 4 (nw R) 0 (nw R)]])) 3 (E5 R (Ht (t.uses.take k) (Zt t (tR x (pre.map (·.1))))))) 4 (E5 R (NV t (tS x (pre.map (·.1))))))⟩) (fun k=>True) (fun k=>t.uses.length-k) 0 (Sub.mk' (by repeat(first|exact ESub.new _|refine ESub.put ?_ (by first|rfl|exact congrArg (fun(n:Nat)=>some (AV.int .i64 (n:Int))) z145q|exact congrArg (fun n:Nat=>some (AV.int .i64 (n:Int))) z145q))) (by repeat(first|exact HSub.refl _|exact HSub.none _|exact AQ _|exact AM D2|refine HSub.put ?_ (by first|rfl|exact Db (fun v=>by rw[List.take_zero];exact dB v))|refine AP ?_ D2|refine BD ?_ Aj))) trivial ?_
  intro k _;refine AGoR.seq ?_;refine AGoR.region rfl ?_;refine wk 2 ?_;refine AGoR.seq ?_;refine AGoR.split 48 rfl (fun hb3=>?_) (fun hb3=>?_)
  .
   refine AGoR.cond_true true rfl rfl ?_;have hkl:k<t.uses.length:=by have h:=hb3;simp[AS]at h;exact h
   obtain⟨u,hu⟩:=Af hkl;have hub:=hin.2 u (q33 hu);refine AGoR.skip ?_;refine AGoR.seq ?_;refine AGoR.block ?_;refine AGoR.seq ?_;refine AGoR.region rfl ?_;refine aq 49 (Hc Ai (Aw hu)) ?_;refine wk 3 ?_;refine AGoR.region rfl ?_;refine wk 2 ?_;refine ax 53 (GU (O6 3 R u (Ht (t.uses.take k) (Zt t (tR x (pre.map (·.1))))) hub.1 hub.2 hR) [3] [(3,(E5 R (fun v=>(Ht (t.uses.take k) (Zt t (tR x (pre.map (·.1))))) v||v==u.toNat)))] rfl Tryz.func106 AF rfl rfl rfl ⟨⟨_,rfl,rfl⟩,trivial⟩ rfl (Ac rfl (AE _)) ⟨⟨_,rfl,rfl,rfl⟩,trivial⟩ rfl) ?_;refine an ?_;refine AGoR.region rfl ?_;refine aq 54 (A2 rfl rfl hkl eF) ?_;refine wk 2 ?_;exact⟨k+1,Sub.mk' B5 (by repeat(first|exact HSub.refl _|exact HSub.none _|exact AQ _|exact AM D2|refine HSub.put ?_ (by first|rfl|exact Db (YB hu hub.1))|refine AP ?_ D2|refine BD ?_ Aj)),trivial,by omega⟩
  refine AGoR.cond_false false rfl rfl ?_;have hge:t.uses.length<=k:=by have h:=hb3;simp[AS]at h;omega
  refine AGoR.exit ?_;show HSub _ _;exact(by repeat(first|exact HSub.refl _|exact HSub.none _|exact AQ _|exact AM D2|refine HSub.put ?_ (by first|rfl|exact Db (fun v=>by rw[q77,q20 hge];exact(congrFun (kJ ht) v).symm)|exact Db (fun v=>by rw[q77];exact(congrFun (kI ht) v).symm))|refine AP ?_ D2|refine BD ?_ Aj))
 intro xs hS;dsimp only;rw[hS];refine AD.ghost hr (.freezeCell 1 0 0 3 rfl rfl rfl rfl (Bt _ _).symm Aj) ?_;refine AD.ghost hr (.freezeCell 2 0 0 4 rfl rfl rfl rfl (Bt _ _).symm Aj) ?_;rw[Ri,Ri];refine mH Ai mix hr (by intro i o ho;rcases i with _|_|_|_|i<;>first|(cases ho;rfl)|(simp at ho)) kh ?_;refine wk 5 ?_;refine⟨kh,[.lst false _,.lst false _],⟨⟨_,_,_,_,rfl,rfl,.ptr _ _ _ _ _ _ _ _ rfl rfl rfl,rfl⟩,⟨_,_,_,_,rfl,rfl,.ptr _ _ _ _ _ _ _ _ rfl rfl rfl,rfl⟩,trivial⟩,?_,HSub.none _⟩;rw[show BE R (Ks x)=_ from(Ec (p4 x)).symm,show BE R (fun v=>C3 v x.ins)=_ from(Ec (tS_all x)).symm];rfl
theorem Y4(f:BFunc)(R:Nat)(es:List (List AV))(len:Nat)(w:Nat->Bool)(F:Nat->AObj)(b:Nat)(hb:b<f.blocks.length)(hn:f.blocks.length<=100000)(hl:len<=es.length)(he:es.length<=f.blocks.length):ACall Tryz.prog 90 [.ptr 2 1 0 0,.int .i64 (b:Int)] (HS f R (es) (len) (w) F) (fun r h'=>r=.tup []/\HSub (HS f R (Dl w es len b) (D3 w len b) (CH w b true) F) h'):=by
 refine ACall.of_body (n:=28) Ai Tryz.func90 rfl rfl ?_;refine wk 7 ?_;refine aq 9 (Ae Ai rfl rfl rfl rfl rfl rfl rfl (Ap _ _).symm rfl (q46 _) z144q) ?_;refine aq 10 (Ar Ai rfl rfl rfl (.ptr _ _ _ _ _ _ _ [.bool (w b)] rfl (Ap _ _).symm Mj) rfl) ?_;refine wk 2 ?_;refine asp 11 (fun hb1=>?_) fun hb1=>?_
 .
  refine act ?_;have hwb:w b=false:=by have h:=hb1;simpa using h
  refine wk 7 ?_;refine aq 17 (Ae Ai rfl rfl rfl rfl rfl rfl rfl (Ap _ _).symm rfl (q46 _) z144q) ?_;refine AOps.w rfl rfl (o_store Ai rfl rfl rfl rfl rfl rfl (Ap _ _).symm Mj rfl Aj rfl E4) ?_;refine wk 8 ?_;refine ax 24 (BU Ai rfl rfl rfl rfl rfl rfl Aj rfl rfl rfl rfl rfl rfl) ?_;refine ax 25 (MN Ai (es:=es) rfl rfl rfl rfl rfl rfl rfl rfl rfl rfl hl rfl rfl (q68 _) (.lst _ _) rfl (fun _=>rfl) (by show _*8<=_;omega) Be) ?_;refine wk 4 ?_;have e1:Dl w es len b=Dg es len (BN b):=by unfold Dl;rw[hwb];rfl
  have e2:D3 w len b=len+1:=by unfold D3;rw[hwb];rfl
  rw[e1,e2];exact⟨[],trivial,rfl,(Ca (k0:=10) rfl (by repeat(first|exact trivial|refine⟨⟨by first|rfl|exact congrArg (fun es=>some (AObj.row true 1 es)) (Kg true),by first|rfl|exact Ah (fun _ _=>Do _ _ _ _)|exact Ah (fun _ _=>C1 _ _ _)⟩,?_⟩)) Gu K5)⟩
 refine acf ?_;have hwb:w b=true:=by have h:=hb1;simpa using h
 refine mx ?_;have e1:Dl w es len b=es:=by unfold Dl;rw[hwb];rfl
 have e2:D3 w len b=len:=by unfold D3;rw[hwb];rfl
 rw[e1,e2,HO hwb];exact⟨[],trivial,rfl,(Ca (k0:=10) rfl SN Gu K5)⟩
theorem lY(f:BFunc)(hs:f.sane)(R:Nat)(hR:R<=100000)(es:List (List AV))(len:Nat)(w:Nat->Bool)(I O:BB)(r2:Nat->AObj)(h2a:∀b,(r2 b).avoid (kf 10)=true)(b:Nat)(x:Block)(hx:f.blocks[b]?=some x)(hn:f.blocks.length<=100000):ACall Tryz.prog 89 [.ptr 2 1 0 0,.int .i64 (b:Int)] (HS f R (es) (len) (w) (F3 (rI f.blocks.length R I) (rI f.blocks.length R O) r2)) (fun r h'=>r=.bool (chg (inN x (Ef I (O b) x)) (I b) (nw R))/\HSub (HS f R (es) (len) (w) (F3 (rI f.blocks.length R (A9 I b ((inN x (Ef I (O b) x))))) (rI f.blocks.length R (A9 O b (Ef I (O b) x))) r2)) h'):=by
 have hb:b<f.blocks.length:=(q05.1 hx).1;have hxm:=q33 hx;have hnw:nw R<=100000:=by unfold nw;omega
 refine ACall.of_body (n:=109) Ai Tryz.func89 rfl rfl ?_;refine wk 11 ?_;refine aq 18 (Ae Ai rfl rfl rfl rfl rfl rfl rfl (Ap _ _).symm rfl (q46 _) z144q) ?_;refine aq 19 (Ar Ai rfl rfl rfl (.ptr _ _ _ _ _ _ _ [rG 1 (nw R) b] rfl (Ap _ _).symm Mj) rfl) ?_;refine wk 11 ?_;refine aq 25 (Ak Ai rfl rfl rfl rfl rfl rfl (q46 _) (Aw (CL hx)) rfl) ?_;refine wk 5 ?_;refine Bl (γ:=Nat) (kf 10) (fun j=>⟨109,(Aa (Aa (Aa (Aa (Aa (Aa (Aa AZ 0 (.ptr 2 1 0 0)) 1 (.int .i64 (b:Int))) 5 (rG 1 (nw R) b)) 6 (.bool false)) 26 (AS x.nexts)) 27 (.int .i64 (x.nexts.length:Int))) 28 (.int .i64 (j:Int))),(Ig (nb [.free,.free,(.row false 8 [jU f (es).length (len)]),(.row false 1 (Az (rG 0 (nw R)) f.blocks.length)),(.row false 1 (Az (rG 1 (nw R)) f.blocks.length)),(.row true 1 (bC f.blocks.length (w))),(.row true 1 (es)),(.row false 1 (Az (Qj (AB f)) f.blocks.length)),(.row true 1 (f.blocks.map (Wz R))),(.row true 1 (f.blocks.map (Wy R)))]) (F3 (rI f.blocks.length R I) (rI f.blocks.length R (A9 O b (ML I (O b) x j))) r2))⟩) (fun j=>True) (fun j=>x.nexts.length-j) 0 (Sub.mk' DB (Ca (k0:=10) rfl SN (fun x_=>by(try simp only[hputs]);exact(As _ _ _).trans (congrArg some (vP (outP_zero I (O b) x) _))) K5)) trivial (fun g b hb=>BP (k0:=10) rfl hb) ?_
 intro j _;refine wk 5 ?_;refine asp 29 (fun hb1=>?_) fun hb1=>?_
 .
  refine act ?_;have hjl:j<x.nexts.length:=by have h:=hb1;simp[AS]at h;exact h
  obtain⟨d,hd⟩:=Af hjl;have hd0:=hs.next x hxm d (q33 hd);have hdn:d.toNat<f.blocks.length:=by omega
  refine wk 5 ?_;refine aq 30 (Hc Ai (Aw hd)) ?_;refine wk 10 ?_;refine aq 37 (Ae Ai rfl rfl rfl rfl rfl rfl rfl (Ap _ _).symm rfl hd0.1 z144q) ?_;refine aq 38 (Ar Ai rfl rfl rfl (.ptr _ _ _ _ _ _ _ [rG 0 (nw R) d.toNat] rfl (Ap _ _).symm Um) rfl) ?_;refine wk 4 ?_;refine Bl (γ:=Nat) (kf 10) (fun k=>⟨109,(Aa (Aa (Aa (Aa (Aa (Aa (Aa (Aa (Aa (Aa (Aa AZ 0 (.ptr 2 1 0 0)) 1 (.int .i64 (b:Int))) 5 (rG 1 (nw R) b)) 6 (.bool false)) 26 (AS x.nexts)) 27 (.int .i64 (x.nexts.length:Int))) 28 (.int .i64 (j:Int))) 8 (.int .i64 d)) 38 (rG 0 (nw R) d.toNat)) 39 (.int .i64 (nw R:Int))) 40 (.int .i64 (k:Int))),(Ig (nb [.free,.free,(.row false 8 [jU f (es).length (len)]),(.row false 1 (Az (rG 0 (nw R)) f.blocks.length)),(.row false 1 (Az (rG 1 (nw R)) f.blocks.length)),(.row true 1 (bC f.blocks.length (w))),(.row true 1 (es)),(.row false 1 (Az (Qj (AB f)) f.blocks.length)),(.row true 1 (f.blocks.map (Wz R))),(.row true 1 (f.blocks.map (Wy R)))]) (F3 (rI f.blocks.length R I) (rI f.blocks.length R (A9 O b (bT (ML I (O b) x j) (I d.toNat) k))) r2))⟩) (fun k=>True) (fun k=>nw R-k) 0 (Sub.mk' DB (Ca (k0:=10) rfl SN (fun x_=>by(try simp only[hputs]);exact(As _ _ _).trans (congrArg some (fL (Ec (gG _ _)) _))) K5)) trivial (fun g b hb=>BP (k0:=10) rfl hb) ?_
  intro k _;refine wk 5 ?_;refine asp 41 (fun hb2=>?_) fun hb2=>?_
  .
   refine act ?_;have hkl:k<nw R:=by have h:=hb2;simp at h;exact h
   refine wk 6 ?_;refine aq 43 (Ae Ai rfl rfl rfl rfl rfl rfl ((As _ _ _).trans (congrArg some (lj hdn))) (Bt _ _).symm rfl (q46 _) z144q) ?_;refine aq 44 (Ar Ai rfl rfl rfl (.ptr _ _ _ _ _ _ _ (BK (I d.toNat) k) ((As _ _ _).trans (congrArg some (lj hdn))) (Bt _ _).symm sb) rfl) ?_;refine wk 6 ?_;refine aq 47 (Ae Ai rfl rfl rfl rfl rfl rfl ((As _ _ _).trans (congrArg some (Rq hb))) (Bt _ _).symm rfl (q46 _) z144q) ?_;refine aq 48 (Ar Ai rfl rfl rfl (.ptr _ _ _ _ _ _ _ (BK (ML I (O b) x j) k) ((As _ _ _).trans (congrArg some (Rq hb))) (Bt _ _).symm se) rfl) ?_;refine wk 1 ?_;refine aq 50 (A1 rfl rfl rfl (eI (fun v=>(ML I (O b) x j) (64*k+v)) (fun v=>I d.toNat (64*k+v)))) ?_;refine aq 51 (Ae Ai rfl rfl rfl rfl rfl rfl ((As _ _ _).trans (congrArg some (Rq hb))) (Bt _ _).symm rfl (q46 _) z144q) ?_;refine AOps.w rfl rfl (o_store Ai (es:=BE R (bT (ML I (O b) x j) (I d.toNat) k)) (cs:=BK (ML I (O b) x j) k) rfl rfl rfl rfl rfl ((As _ _ _).trans (congrArg some (Rq hb))) (Bt _ _).symm se rfl Aj rfl (fun _=>rfl)) ?_;refine wk 2 ?_;refine aq 52 (A2 rfl rfl hkl Be) ?_;refine wk 2 ?_;exact⟨k+1,DropK.mk' sl (Bw (k0:=10) rfl SN (fun x_=>by(try simp only[hputs]);(repeat(first|refine AC Cy ?_|refine hrm_skip z144q ?_));exact(D5 ev _ _ x_).trans (congrArg some (gj hb (gH _ _ _) x_).symm)) (Ch (fun _=>Ba _) (fun _=>Ba _) h2a)),trivial,by omega⟩
  refine acf ?_;have hkge:nw R<=k:=by have h:=hb2;simp at h;omega
  refine wk 2 ?_;refine aq 53 (A2 rfl rfl hjl j5) ?_;refine wk 2 ?_;exact⟨j+1,DropK.mk' sl (Bw (k0:=10) rfl SN (fun x_=>by(try simp only[hputs]);exact(As _ _ _).trans (congrArg some (fL ((lu _ _ hkge).trans (Ec (bQ hd))) _))) (Ch (fun _=>Ba _) (fun _=>Ba _) h2a)),trivial,by omega⟩
 refine acf ?_;have hjge:x.nexts.length<=j:=by have h:=hb1;simp[AS]at h;omega
 refine wk 9 ?_;refine Bl (γ:=Nat) (kf 10) (fun k=>⟨109,(Aa (Aa (Aa (Aa (Aa (Aa AZ 0 (.ptr 2 1 0 0)) 1 (.int .i64 (b:Int))) 5 (rG 1 (nw R) b)) 6 (.bool (chg (inN x (Ef I (O b) x)) (I b) k))) 55 (.int .i64 (nw R:Int))) 56 (.int .i64 (k:Int))),(Ig (nb [.free,.free,(.row false 8 [jU f (es).length (len)]),(.row false 1 (Az (rG 0 (nw R)) f.blocks.length)),(.row false 1 (Az (rG 1 (nw R)) f.blocks.length)),(.row true 1 (bC f.blocks.length (w))),(.row true 1 (es)),(.row false 1 (Az (Qj (AB f)) f.blocks.length)),(.row true 1 (f.blocks.map (Wz R))),(.row true 1 (f.blocks.map (Wy R)))]) (F3 (rI f.blocks.length R (A9 I b (Iv (inN x (Ef I (O b) x)) (I b) k))) (rI f.blocks.length R (A9 O b (Ef I (O b) x))) r2))⟩) (fun k=>k<=nw R) (fun k=>nw R-k) 0 (Sub.mk' DB (Ca (k0:=10) rfl SN (fun x_=>by(try simp only[hputs]);exact(As _ _ _).trans (congrArg some (by rw[outP_end hjge];exact vQ (ce _ _) _))) K5)) (qZ1 _) (fun g b hb=>BP (k0:=10) rfl hb) ?_
 intro k hkn;refine wk 5 ?_;refine asp 57 (fun hb3=>?_) fun hb3=>?_
 .
  refine act ?_;have hkl:k<nw R:=by have h:=hb3;simp at h;exact h
  refine wk 15 ?_;refine dq 64 (Ae Ai rfl rfl rfl rfl rfl rfl rfl (q76 _).symm rfl (q46 _) z144q) ?_;refine dq 65 (Ar Ai rfl rfl rfl (.ptr _ _ _ _ _ _ _ (Wz R x) rfl (q76 _).symm (by rw[qQ8,q55,q54,hx];rfl)) rfl) ?_;refine wk 1 ?_;refine dq 67 (Ak Ai rfl rfl rfl rfl rfl rfl (q46 _) (by rw[q55];exact EI hkl) rfl) ?_;refine wk 3 ?_;refine dq 71 (Ae Ai rfl rfl rfl rfl rfl rfl ((As _ _ _).trans (congrArg some (Rq hb))) (Bt _ _).symm rfl (q46 _) z144q) ?_;refine dq 72 (Ar Ai rfl rfl rfl (.ptr _ _ _ _ _ _ _ (BK (Ef I (O b) x) k) ((As _ _ _).trans (congrArg some (Rq hb))) (Bt _ _).symm sb) rfl) ?_;refine wk 5 ?_;refine dq 78 (Ae Ai rfl rfl rfl rfl rfl rfl rfl (q76 _).symm rfl (q46 _) z144q) ?_;refine dq 79 (Ar Ai rfl rfl rfl (.ptr _ _ _ _ _ _ _ (Wy R x) rfl (q76 _).symm (by rw[qQ8,q55,q54,hx];rfl)) rfl) ?_;refine wk 1 ?_;refine dq 81 (Ak Ai rfl rfl rfl rfl rfl rfl (q46 _) (by rw[q55];exact EI hkl) rfl) ?_;refine wk 1 ?_;refine dq 83 (A1 rfl rfl rfl (Q2 (fun v=>(Ef I (O b) x) (64*k+v)) (fun v=>C3 (64*k+v) x.ins))) ?_;refine dq 84 (A1 rfl rfl rfl (eI (fun v=>Ks x (64*k+v)) (fun v=>(Ef I (O b) x) (64*k+v)&& !C3 (64*k+v) x.ins))) ?_;refine wk 10 ?_;refine aq 91 (Ae Ai rfl rfl rfl rfl rfl rfl rfl (Ap _ _).symm rfl (q46 _) z144q) ?_;refine aq 92 (Ar Ai rfl rfl rfl (.ptr _ _ _ _ _ _ _ [rG 0 (nw R) b] rfl (Ap _ _).symm Mj) rfl) ?_;refine wk 1 ?_;refine aq 94 (Ae Ai rfl rfl rfl rfl rfl rfl ((As _ _ _).trans (congrArg some (ZA hb))) (Bt _ _).symm rfl (q46 _) z144q) ?_
  refine aq 95 (Ar Ai rfl rfl rfl (.ptr _ _ _ _ _ _ _ (BK (I b) k) ((As _ _ _).trans (congrArg some (ZA hb))) (Bt _ _).symm sf) rfl) ?_;refine wk 2 ?_;refine asp 96 (fun hb4=>?_) fun hb4=>?_
  .
   refine act ?_;have hne:(Qw (inN x (Ef I (O b) x)) k !=Qw (I b) k)=true:=g8 hb4;refine wk 7 ?_;refine aq 102 (Ae Ai rfl rfl rfl rfl rfl rfl rfl (Ap _ _).symm rfl (q46 _) z144q) ?_;refine aq 103 (Ar Ai rfl rfl rfl (.ptr _ _ _ _ _ _ _ [rG 0 (nw R) b] rfl (Ap _ _).symm Mj) rfl) ?_;refine wk 2 ?_;refine aq 106 (Ae Ai rfl rfl rfl rfl rfl rfl ((As _ _ _).trans (congrArg some (ZA hb))) (Bt _ _).symm rfl (q46 _) z144q) ?_;refine AOps.w rfl rfl (o_store Ai (es:=BE R (Iv (inN x (Ef I (O b) x)) (I b) k)) (cs:=BK (I b) k) rfl rfl rfl rfl rfl ((As _ _ _).trans (congrArg some (ZA hb))) (Bt _ _).symm sf rfl Aj rfl (fun _=>rfl)) ?_;refine wk 5 ?_;refine aq 107 (A2 rfl rfl hkl Be) ?_;refine wk 2 ?_;exact⟨k+1,DropK.mk' sG (Bw (k0:=10) rfl SN (fun x_=>by(try simp only[hputs]);(repeat(first|refine AC Cy ?_|refine hrm_skip z144q ?_));exact(D5 ev _ _ x_).trans (congrArg some (gk hb (ib _ _ _) x_).symm)) (Ch (fun _=>Ba _) (fun _=>Ba _) h2a)),hkl,by omega⟩
  refine acf ?_;have heq:Qw (inN x (Ef I (O b) x)) k=Qw (I b) k:=dv (g8 hb4);refine wk 2 ?_;refine aq 107 (A2 rfl rfl hkl Be) ?_;refine wk 2 ?_;exact⟨k+1,DropK.mk' sG (Bw (k0:=10) rfl SN (fun x_=>by(try simp only[hputs]);exact(As _ _ _).trans (congrArg some (fM (Ec (cf heq)) _))) (Ch (fun _=>Ba _) (fun _=>Ba _) h2a)),hkl,by omega⟩
 refine acf ?_;have hkge:nw R<=k:=by have h:=hb3;simp at h;omega
 refine wk 7 ?_;refine⟨[_],⟨rfl,trivial⟩,?_,(Ca (k0:=10) rfl SN (fun x_=>by(try simp only[hputs]);exact(As _ _ _).trans (congrArg some (fM (ie _ _ hkge) _))) K5)⟩;show AV.bool _=AV.bool _;congr 2;omega
theorem fO(f:BFunc)(hn:f.blocks.length<=100000):APure Tryz.prog 50 [.agg f.cells] (fun r=>r=AO f.nexts):=by
 refine APure.of_body (n:=43) Ai Tryz.func50 rfl rfl ?_;refine HG ?_;refine ax 1 (D4 2 0) ?_;refine wk 7 ?_;refine ax 9 (AJ Ai (n:=f.blocks.length) (m:=f.blocks.length) 1 true rfl rfl rfl z145q z145q rfl rfl rfl rfl rfl (q68 _) rfl (qZ0 _) QX Be) ?_;refine wk 4 ?_;refine AGo.ghost (KB 1 (es':=List.replicate f.blocks.length [.lst false []]) rfl z145q (Q1 _)) ?_;refine wk 4 ?_;refine AK (γ:=Nat) 2 (fun k=>⟨43,(Aa (Aa (Aa AZ 1 (.ptr 0 1 0 0)) 3 (.ref 1 f.blocks.length 0 f.blocks.length)) 4 (.int .i64 (k:Int))),(hput (hput (Bc 2) 0 (.row false 2 [f.cells])) 1 (.row true 1 (((f.nexts.take (k)).map F1)++List.replicate (f.blocks.length-(k)) [.lst false []])))⟩) (fun k=>k<=f.blocks.length) (fun k=>f.blocks.length-k) 0 (Sub.mk' DB sD) (qZ1 _) (fun _=>Ab (Ab (fun b hb=>Ay hb) rfl) rfl) ?_;intro k hk;refine wk 9 ?_;refine asp 14 (fun hb1=>?_) fun hb1=>?_
 . -- True
   refine act ?_;have hkl:k<f.blocks.length:=by simpa using hb1
   obtain⟨x,hx⟩:=Af hkl;have hnx:=CL hx;refine wk 8 ?_;refine aq 20 (Ak Ai rfl rfl rfl rfl rfl rfl (q46 _) (Aw Bm) rfl) ?_;refine wk 1 ?_;refine ax 5 (Eg Ai 2) ?_;refine wk 9 ?_;refine asp 24 (fun hb2=>?_) fun hb2=>?_
   . -- True
     refine act ?_;have hx1:x.fin=1:=by simpa using hb2
     refine wk 5 ?_;refine ax 29 (BU Ai rfl rfl rfl rfl rfl rfl Aj rfl rfl rfl rfl rfl rfl) ?_;refine aq 30 (Ae Ai rfl rfl rfl rfl rfl rfl rfl (AG (AL f) (qX0 hkl)) rfl (q46 _) z144q) ?_;refine AOps.w rfl rfl (o_store Ai rfl rfl rfl rfl rfl rfl (AG (AL f) (qX0 hkl)) (fill_get (AL f) hkl) rfl Aj rfl E4) ?_;refine wk 5 ?_;refine aq 33 (A1 (r:=.bool false) rfl rfl rfl (by show some (AV.bool (x.fin==2))=_;rw[hx1];rfl)) ?_;refine wk 5 ?_;exact d7
   . -- False
     refine acf ?_;have hx1:¬x.fin=1:=by simpa using hb2
     refine wk 7 ?_;refine asp 33 (fun hb3=>?_) fun hb3=>?_
     . -- True
       refine wk 8 ?_;refine ax 40 (BU Ai rfl rfl rfl rfl rfl rfl Aj rfl rfl rfl rfl rfl rfl) ?_;refine aq 41 (Ae Ai rfl rfl rfl rfl rfl rfl rfl (AG (AL f) (qX0 hkl)) rfl (q46 _) z144q) ?_;refine AOps.w rfl rfl (o_store Ai rfl rfl rfl rfl rfl rfl (AG (AL f) (qX0 hkl)) (fill_get (AL f) hkl) rfl Aj rfl E4) ?_;refine wk 3 ?_;exact d7
     . -- False
       refine wk 4 ?_;exact d7
 . -- False
   refine acf ?_;have hge:f.blocks.length<=k:=by simpa using hb1
   refine wk 2 ?_;refine AGo.ghost (.freezeA 3 1 rfl rfl (AG (AL f) hk)) ?_;refine wk 4 ?_;refine DY ⟨[_],⟨rfl,trivial⟩,?_,rfl⟩;have e1:=CU (f:=F1) (z:=[.lst false []]) (AL f) hge;rw[q95,q20 (Nat.le_of_eq (AG (AL f) hk).symm)]at e1;show AV.lst false _=AV.lst false _;rw[e1];rfl
theorem Tu(f:BFunc)(hn:f.blocks.length<=100000):APure Tryz.prog 80 [.agg f.cells] (fun r=>r=AO f.nexts):=by
 refine APure.of_body (n:=40) Ai Tryz.func80 rfl rfl ?_;refine HG ?_;refine ax 1 (D4 2 0) ?_;refine wk 7 ?_;refine ax 9 (AJ Ai (n:=f.blocks.length) (m:=f.blocks.length) 1 true rfl rfl rfl z145q z145q rfl rfl rfl rfl rfl (q68 _) rfl (qZ0 _) QX Be) ?_;refine wk 4 ?_;refine AGo.ghost (KB 1 (es':=List.replicate f.blocks.length [.lst false []]) rfl z145q (Q1 _)) ?_;refine wk 7 ?_;refine AK (γ:=Nat) 2 (fun k=>⟨40,(Aa (Aa (Aa (Aa AZ 3 (.ref 1 f.blocks.length 0 f.blocks.length)) 11 (BZ f.blocks)) 12 (.int .i64 (f.blocks.length:Int))) 13 (.int .i64 (k:Int))),(hput (hput (Bc 2) 0 (.row false 2 [f.cells])) 1 (.row true 1 (((f.nexts.take (k)).map F1)++List.replicate (f.blocks.length-(k)) [.lst false []])))⟩) (fun k=>k<=f.blocks.length) (fun k=>f.blocks.length-k) 0 (Sub.mk' DB SM) (qZ1 _) (fun _=>Ab (Ab (fun b hb=>Ay hb) rfl) rfl) ?_;intro k hk
 refine wk 5 ?_;refine asp 14 (fun hb1=>?_) fun hb1=>?_
 . -- True
   refine act ?_;have hkl:k<f.blocks.length:=by simpa using hb1
   obtain⟨x,hx⟩:=Af hkl;have hnx:=CL hx;refine wk 6 ?_;refine aq 16 (Ak Ai rfl rfl rfl rfl rfl rfl (q46 _) (Aw Bm) rfl) ?_;refine wk 1 ?_;refine ax 5 (Eg Ai 2) ?_;refine wk 14 ?_;refine asp 20 (fun hb2=>?_) fun hb2=>?_
   . -- True
     refine wk 6 ?_;refine ax 26 (BU Ai rfl rfl rfl rfl rfl rfl Aj rfl rfl rfl rfl rfl rfl) ?_;refine aq 27 (Ae Ai rfl rfl rfl rfl rfl rfl rfl (AG (AL f) (qX0 hkl)) rfl (q46 _) z144q) ?_;exact qY
   . -- False
     refine wk 6 ?_;refine asp 28 (fun hb3=>?_) fun hb3=>?_
     . -- True
       refine wk 8 ?_;refine ax 36 (BU Ai rfl rfl rfl rfl rfl rfl Aj rfl rfl rfl rfl rfl rfl) ?_;refine aq 37 (Ae Ai rfl rfl rfl rfl rfl rfl rfl (AG (AL f) (qX0 hkl)) rfl (q46 _) z144q) ?_;exact qY
     . -- False
       refine wk 3 ?_;refine aq 38 (A2 rfl rfl hkl (show f.blocks.length<=maxLen by simp only[maxLen];omega)) ?_;exact pm
 . -- False
   refine acf ?_;have hge:f.blocks.length<=k:=by simpa using hb1
   refine wk 2 ?_;refine AGo.ghost (.freeze 3 1 rfl rfl (AG (AL f) hk)) ?_;refine wk 4 ?_;refine DY ⟨[_],⟨rfl,trivial⟩,?_,rfl⟩;show AV.lst false _=AV.lst false _;rw[CU (AL f) hge];rfl
theorem UG(f:BFunc)(hs:f.sane)(R:Nat)(hRf:f.regs=(R:Int))(hR:R<=100000)(hn0:0<f.blocks.length)(hn:f.blocks.length<=100000)(hi:∀x∈f.blocks,x.ins.length<=100000):ACall Tryz.prog 88 [.agg f.cells] hNew (fun r h'=>r=.ptr 2 1 0 0/\HSub (Lv hNone (HS f R ((List.range f.blocks.length).map BN) f.blocks.length (fun b=>decide (b<f.blocks.length)) (F3 (rI f.blocks.length R B0) (rI f.blocks.length R B0) (rA f.blocks.length (AB f))))) h'):=by
 refine ACall.of_body (n:=121) Ai Tryz.func88 rfl rfl ?_;refine HG ?_;refine ax 1 (D4 2 0) ?_;refine wk 12 ?_;refine dx 16 (CW Tryz.func80 (Tu _ Bm)) ?_;refine wk 1 ?_;refine dx 18 (AJ Ai (n:=f.blocks.length) (m:=f.blocks.length) 7 false rfl rfl rfl z145q z145q rfl rfl rfl rfl rfl (q68 _) rfl (qZ0 _) QX Be) ?_;refine wk 1 ?_;refine dx 20 (AJ Ai (n:=f.blocks.length) (m:=f.blocks.length) 5 true rfl rfl rfl z145q z145q rfl rfl rfl rfl rfl (q68 _) rfl (qZ0 _) (by show 1*f.blocks.length<=_;omega) Be) ?_;refine wk 1 ?_;refine dx 22 (D4 8 2) ?_;refine wk 4 ?_;refine AGo.ghost (Ghost.weakRowF 2 (es':=[wu f R 0]) rfl rfl (Ow ⟨Wk.refl _,Wk.refl _,Wk.nil _,Wk.nil _,Wk.nil _,Wk.nil _,Wk.refl _,Wk.refl _,trivial⟩)) ?_;refine AGo.ghost (Ghost.weakRowF 7 (es':=Az (Qj (fun _=>[])) f.blocks.length) rfl (by rw[Ap,q30]) (weak_col fun b=>Wk.nil _)) ?_
 refine wk 9 ?_;refine Bl (γ:=Nat) (kf 10) (fun k=>⟨121,(Aa (Aa (Aa (Aa (Aa (Aa AZ 1 (.ptr 0 1 0 0)) 3 (.int .i64 (f.blocks.length:Int))) 4 (.ptr 2 1 0 0)) 26 (AO f.nexts)) 27 (.int .i64 (f.blocks.length:Int))) 28 (.int .i64 (k:Int))),(Ig (nb [(.row false 2 [f.cells]),.free,(.row false 8 [wu f R k]),(Qx 1 (Az (rG 0 (nw R)) k)),(Qx 1 (Az (rG 1 (nw R)) k)),(.row true 1 (bC f.blocks.length (fun _=>false))),.free,(.row false 1 (Az (Qj (aheadP f k 0)) f.blocks.length)),(By 1 ((f.blocks.take k).map (Wz R))),(By 1 ((f.blocks.take k).map (Wy R)))]) (F3 (rI k R B0) (rI k R B0) (rA f.blocks.length (aheadP f k 0))))⟩) (fun k=>k<=f.blocks.length) (fun k=>f.blocks.length-k) 0 (Sub.mk' sJ (Ca (k0:=10) rfl (by repeat(first|exact trivial|refine⟨⟨by first|rfl|exact congrArg (fun es=>some (AObj.row true 1 es)) (Ic _ _)|exact congrArg (fun A=>some (AObj.row false 1 (Az (Qj A) f.blocks.length))) (funext fun c=>(DA f 0 c).symm),by first|rfl|exact JO f R Aj|exact CJ _ _|exact JM (fun _ _=>Do _ _ _ _)|exact Ah (fun _ _=>C1 _ _ _)⟩,?_⟩)) (fun x_=>by rw[U1 (DA f 0)];(try simp only[hputs]);(repeat(first|refine AC Cy ?_|refine hrm_skip z144q ?_));exact congrArg some rI_start.symm) K5)) (qZ1 _) (fun g b hb=>BP (k0:=10) rfl hb) ?_
 intro k hk;refine wk 5 ?_;refine asp 29 (fun hb1=>?_) fun hb1=>?_
 .
  refine act ?_;have hkl:k<f.blocks.length:=by have h:=hb1;simp at h;exact h
  obtain⟨x,hx⟩:=Af hkl;have hxm:=q33 hx;refine wk 6 ?_;refine aq 31 (Ak Ai rfl rfl rfl rfl rfl rfl (q46 _) (Aw (CL hx)) rfl) ?_;refine wk 12 ?_;refine Bl (γ:=Nat) (kf 10) (fun j=>⟨121,(Aa (Aa (Aa (Aa (Aa (Aa (Aa (Aa (Aa (Aa AZ 1 (.ptr 0 1 0 0)) 3 (.int .i64 (f.blocks.length:Int))) 4 (.ptr 2 1 0 0)) 26 (AO f.nexts)) 27 (.int .i64 (f.blocks.length:Int))) 28 (.int .i64 (k:Int))) 5 (.int .i64 (k:Int))) 33 (AS x.nexts)) 34 (.int .i64 (x.nexts.length:Int))) 35 (.int .i64 (j:Int))),(Ig (nb [(.row false 2 [f.cells]),.free,(.row false 8 [wu f R k]),(Qx 1 (Az (rG 0 (nw R)) k)),(Qx 1 (Az (rG 1 (nw R)) k)),(.row true 1 (bC f.blocks.length (fun _=>false))),.free,(.row false 1 (Az (Qj (aheadP f k j)) f.blocks.length)),(By 1 ((f.blocks.take k).map (Wz R))),(By 1 ((f.blocks.take k).map (Wy R)))]) (F3 (rI k R B0) (rI k R B0) (rA f.blocks.length (aheadP f k j))))⟩) (fun j=>True) (fun j=>x.nexts.length-j) 0 (Sub.mk' DB (Ca (k0:=10) rfl (by repeat(first|exact trivial|refine⟨⟨by rfl,by first|rfl|exact JO f R Aj|exact CJ _ _|exact JM (fun _ _=>Do _ _ _ _)|exact Ah (fun _ _=>C1 _ _ _)⟩,?_⟩)) Gu K5)) trivial (fun g b hb=>BP (k0:=10) rfl hb) ?_
  intro j _;refine wk 5 ?_;refine asp 36 (fun hb2=>?_) fun hb2=>?_
  .
   refine act ?_;have hjl:j<x.nexts.length:=by have h:=hb2;simp[AS]at h;exact h
   obtain⟨d,hd⟩:=Af hjl;have hd0:=hs.next x hxm d (q33 hd);have hdn:d.toNat<f.blocks.length:=by omega
   refine wk 5 ?_;refine aq 37 (Hc Ai (Aw hd)) ?_;refine wk 14 ?_;refine dq 49 (Ae Ai rfl rfl rfl rfl rfl rfl rfl (Ap _ _).symm rfl hd0.1 z144q) ?_;refine dq 50 (Ar Ai rfl rfl rfl (.ptr _ _ _ _ _ _ _ [Qj (aheadP f k j) d.toNat] rfl (Ap _ _).symm Um) rfl) ?_;refine wk 1 ?_;refine dx 52 (BU Ai rfl rfl rfl rfl rfl rfl Aj rfl rfl rfl rfl rfl rfl) ?_;refine dx 53 (o_append1J Ai (b:=3*d.toNat+2+16) (es:=(aheadP f k j d.toNat).map BN) rfl rfl rfl rfl rfl rfl rfl rfl ((As _ _ _).trans (congrArg some (qe hdn))) rfl rfl (q68 _) (JZ fun _=>rfl) (GT fun _=>rfl) rfl rfl sa r8) ?_;refine dq 54 (Ae Ai rfl rfl rfl rfl rfl rfl rfl (Ap _ _).symm rfl hd0.1 z144q) ?_;refine DOps.w rfl rfl (CQ Ai (p:=false) (sz:=1) (es:=Az (Qj (aheadP f k j)) f.blocks.length) (cs:=[Qj (aheadP f k j) d.toNat]) rfl rfl rfl rfl rfl rfl BL (Ap _ _).symm Um (B1 _ _) Aj (Cj _ _) D9) ?_;refine FP DJ [([],[]),([],[]),([],[]),([2],[]),([],[]),([],[]),([],[]),([],[]),([2],[]),([],[]),([7],[]),([7],[]),([],[]),([],[]),([18],[18]),([7],[]),([7],[7])] sI AF ?_;refine dJ ?_;refine aq 55 (A2 rfl rfl hjl j5) ?_;refine wk 2 ?_;exact⟨j+1,DropK.mk' IS (Bw (k0:=10) rfl (by repeat(first|exact trivial|refine⟨⟨by first|rfl|exact congrArg (fun es=>some (AObj.row false 1 es)) (qK (Hr hx hd hd0.1)),by first|rfl|exact JO f R Aj|exact CJ _ _|exact JM (fun _ _=>Do _ _ _ _)|exact Ah (fun _ _=>C1 _ _ _)⟩,?_⟩)) (fun x_=>by(try simp only[hputs]);(repeat(first|refine AC Cy ?_|refine hrm_skip z144q ?_));exact(D5 ev _ _ x_).trans (congrArg some (qd hdn (Hr hx hd hd0.1) x_).symm)) (Ch (fun _=>Ba _) (fun _=>Ba _) (fun _=>CP _))),trivial,by omega⟩
  refine acf ?_;have hjge:x.nexts.length<=j:=by have h:=hb2;simp[AS]at h;omega
  refine wk 6 ?_;refine dq 60 (Hc Ai (Aw hx)) ?_;refine wk 3 ?_;refine dx 64 (Jf (r:=.tup [.lst false (BE R (Ks x)),.lst false (BE R (fun v=>C3 v x.ins))]) (hc:=hNew) (hw:=hNone) [] [] rfl Tryz.func97 AF rfl rfl rfl trivial rfl (AE _) trivial rfl (by rw[hRf];exact Uy x R hR (hi x hxm) (fun t ht=>by rw[<-hRf];exact hs.low x hxm t ht) (fun e=>by rw[<-hRf];exact hs.fin x hxm e))) ?_;refine wk 1 ?_;refine dq 65 (MG rfl rfl rfl) ?_;refine dq 66 (MG rfl rfl rfl) ?_;refine wk 11 ?_;refine ax 73 (BU Ai rfl rfl rfl rfl rfl rfl Aj rfl rfl rfl rfl rfl rfl) ?_;refine ax 74 (o_append1J Ai (b:=8) (es:=(f.blocks.take k).map (Wz R)) rfl rfl rfl rfl rfl rfl rfl rfl BL rfl rfl (q68 _) (JZ fun _=>rfl) (GT fun _=>rfl) rfl rfl kg ke) ?_;refine wk 2 ?_;refine AOps.w rfl rfl (CQ Ai rfl rfl rfl rfl rfl rfl rfl rfl rfl (B1 _ _) Aj (Cj _ _) D9) ?_;refine wk 9 ?_;refine ax 83 (BU Ai rfl rfl rfl rfl rfl rfl Aj rfl rfl rfl rfl rfl rfl) ?_;refine ax 84 (o_append1J Ai (b:=9) (es:=(f.blocks.take k).map (Wy R)) rfl rfl rfl rfl rfl rfl rfl rfl BL rfl rfl (q68 _) (JZ fun _=>rfl) (GT fun _=>rfl) rfl rfl kg ke) ?_;refine wk 2 ?_;refine AOps.w rfl rfl (CQ Ai rfl rfl rfl rfl rfl rfl rfl rfl rfl (B1 _ _) Aj (Cj _ _) D9) ?_
  refine wk 10 ?_;refine dx 94 (RB (q:=E5 R (fun _=>false)) (r:=.ref (3*k+0+16) (nw R) 0 (nw R)) (3*k+0+16) rfl Tryz.func98 AF rfl rfl rfl (by(try simp only[hputs]);(repeat(first|refine AC Cy ?_|refine hrm_skip z144q ?_));exact(As _ _ _).trans (congrArg some li)) rfl (by show mem _ _=true;exact N7 _) (by rw[hRf];exact Lm (3*k+0+16) R hR)) ?_;refine dx 95 (o_litRow Ai 10 false rfl rfl rfl rfl rfl rfl Aj BL rfl rfl rfl D9 rfl rfl) ?_;refine dx 96 (KQ Ai (b:=3) (es:=Az (rG 0 (nw R)) k) (x0:=[rG 0 (nw R) k]) rfl rfl rfl rfl rfl rfl rfl rfl BL rfl rfl (q68 _) (Zh (p:=false) (sz:=1) BL rfl) rfl (by rw[Ap];show _*24<=_;omega) (by rw[Ap];simp only[maxLen];omega)) ?_;refine wk 2 ?_;refine DOps.w rfl rfl (CQ Ai rfl rfl rfl rfl rfl rfl rfl rfl rfl (B1 _ _) Aj (Cj _ _) D9) ?_;refine FP DJ [([],[]),([],[]),([],[]),([],[]),([2],[]),([],[]),([0],[]),([16],[16]),([10],[10]),([3,10],[3]),([],[]),([],[]),([2],[2])] sI AF ?_;refine wk 8 ?_;refine dx 106 (RB (q:=E5 R (fun _=>false)) (r:=.ref (3*k+1+16) (nw R) 0 (nw R)) (3*k+1+16) rfl Tryz.func98 AF rfl rfl rfl (by(try simp only[hputs]);(repeat(first|refine AC Cy ?_|refine hrm_skip z144q ?_));exact(As _ _ _).trans (congrArg some lh)) rfl (by show mem _ _=true;exact N7 _) (by rw[hRf];exact Lm (3*k+1+16) R hR)) ?_;refine dx 107 (o_litRow Ai 11 false rfl rfl rfl rfl rfl rfl Aj BL rfl rfl rfl D9 rfl rfl) ?_;refine dx 108 (KQ Ai (b:=4) (es:=Az (rG 1 (nw R)) k) (x0:=[rG 1 (nw R) k]) rfl rfl rfl rfl rfl rfl rfl rfl BL rfl rfl (q68 _) (Zh (p:=false) (sz:=1) BL rfl) rfl (by rw[Ap];show _*24<=_;omega) (by rw[Ap];simp only[maxLen];omega)) ?_
  refine wk 2 ?_;refine DOps.w rfl rfl (CQ Ai rfl rfl rfl rfl rfl rfl rfl rfl rfl (B1 _ _) Aj (Cj _ _) D9) ?_;refine FP DJ [([],[]),([],[]),([],[]),([],[]),([2],[]),([],[]),([0],[]),([17],[17]),([11],[11]),([4,11],[4]),([],[]),([],[]),([2],[2])] sI AF ?_;refine dJ ?_;refine aq 111 (A2 rfl rfl hkl Be) ?_;refine wk 2 ?_;exact⟨k+1,DropK.mk' IS (Bw (k0:=10) rfl (by repeat(first|exact trivial|refine⟨⟨by first|rfl|exact congrArg (fun s=>some (AObj.row false 8 [s])) (fD hx)|exact congrArg some (Zi _ _ _).symm|exact congrArg (fun A=>some (AObj.row false 1 (Az (Qj A) f.blocks.length))) (funext (Hs hx hjge))|exact congrArg (fun es=>some (By 1 es)) (QL hx _),by first|rfl|exact JO f R Aj|exact CJ _ _|exact JM (fun _ _=>Do _ _ _ _)|exact Ah (fun _ _=>C1 _ _ _)⟩,?_⟩)) (fun x_=>by rw[<-U1 (Hs hx hjge)];(try simp only[hputs]);(repeat(first|refine AC Cy ?_|refine hrm_skip z144q ?_));refine(D5 (F:=F3 (rI (k+1) R B0) (rI k R B0) (rA f.blocks.length (aheadP f k j))) (fun y_=>?_) _ _ x_).trans (congrArg some (gn x_).symm);(repeat(first|refine AC Cy ?_|refine hrm_skip z144q ?_));exact(D5 (fun z_=>by(repeat(first|refine AC Cy ?_|refine hrm_skip z144q ?_));exact As _ _ _) _ _ y_).trans (congrArg some (gp y_).symm)) (Ch (fun _=>Ba _) (fun _=>Ba _) (fun _=>CP _))),hkl,by omega⟩
 refine acf ?_;have hge:f.blocks.length<=k:=by have h:=hb1;simp at h;omega
 refine wk 3 ?_;have hkn:k=f.blocks.length:=by omega
 subst hkn;rw[kV hn0,UH hn0,UH hn0,q71,Zj hn0,Zj hn0,show aheadP f f.blocks.length 0=AB f from funext fun c=>DA f _ c];refine AGo.ghost (.dryCell 2 0 6 6 1 true rfl rfl rfl rfl rfl Aj) ?_;refine wk 5 ?_;refine Bl (γ:=Nat) (kf 10) (fun k=>⟨121,(Aa (Aa (Aa (Aa (Aa AZ 1 (.ptr 0 1 0 0)) 3 (.int .i64 (f.blocks.length:Int))) 4 (.ptr 2 1 0 0)) 112 (.int .i64 (f.blocks.length:Int))) 113 (.int .i64 (k:Int))),(Ig (nb [(.row false 2 [f.cells]),.free,(.row false 8 [jU f ((List.range k).map BN).length (k)]),(.row false 1 (Az (rG 0 (nw R)) f.blocks.length)),(.row false 1 (Az (rG 1 (nw R)) f.blocks.length)),(.row true 1 (bC f.blocks.length (fun b=>decide (b<k)))),(.row true 1 ((List.range k).map BN)),(.row false 1 (Az (Qj (AB f)) f.blocks.length)),(.row true 1 (f.blocks.map (Wz R))),(.row true 1 (f.blocks.map (Wy R)))]) (F3 (rI f.blocks.length R B0) (rI f.blocks.length R B0) (rA f.blocks.length (AB f))))⟩) (fun k=>k<=f.blocks.length) (fun k=>f.blocks.length-k) 0 (Sub.mk' DB (Ca (k0:=10) rfl (by repeat(first|exact trivial|refine⟨⟨by first|rfl|exact congrArg (fun w=>some (AObj.row true 1 (bC _ w))) (funext fun b=>(q89 (Nat.not_lt_zero b)).symm),by first|rfl|exact Ah (fun _ _=>Do _ _ _ _)|exact Ah (fun _ _=>C1 _ _ _)⟩,?_⟩)) Gu K5)) (qZ1 _) (fun g b hb=>BP (k0:=10) rfl hb) ?_
 intro k hk;refine wk 5 ?_;refine asp 114 (fun hb3=>?_) fun hb3=>?_
 .
  refine act ?_;have hkl:k<f.blocks.length:=by have h:=hb3;simp at h;exact h
  refine wk 11 ?_;refine AOps.call 118 (hn:=Lv _ (HS f R ((List.range (k+1)).map BN) (k+1) (fun b=>decide (b<k+1)) (F3 (rI f.blocks.length R B0) (rI f.blocks.length R B0) (rA f.blocks.length (AB f))))) (r:=.tup []) rfl rfl rfl (Po (es:=(List.range k).map BN) (len:=k) (w:=fun b=>decide (b<k)) rfl Tryz.func90 AF rfl rfl rfl Uk (fun x_=>As _ _ _) (Ch (fun _=>Ba _) (fun _=>Ba _) (fun _=>CP _)) (Ch (fun _=>Ba _) (fun _=>Ba _) (fun _=>CP _)) rfl (by have h:=Y4 f R ((List.range k).map BN) k (fun b=>decide (b<k)) (F3 (rI f.blocks.length R B0) (rI f.blocks.length R B0) (rA f.blocks.length (AB f))) k hkl hn z145q Df;rw[Pb,RU,Mm]at h;exact h)) ?_;refine wk 2 ?_;refine aq 119 (A2 rfl rfl hkl Be) ?_;refine wk 2 ?_;exact⟨k+1,DropK.mk' IS (Bw (k0:=10) rfl ew (fun x_=>(Lu _ _ x_).trans (As _ _ _)) (Ch (fun _=>Ba _) (fun _=>Ba _) (fun _=>CP _))),hkl,by omega⟩
 refine acf ?_;have hge:f.blocks.length<=k:=by have h:=hb3;simp at h;omega
 refine wk 7 ?_;have hkn:k=f.blocks.length:=by omega
 subst hkn;exact⟨[_],⟨rfl,trivial⟩,rfl,qr Uk eC⟩
theorem lM(f:BFunc)(hs:f.sane)(hn0:0<f.blocks.length)(hn:f.blocks.length<=100000)(hr:f.regs<=100000)(hi:∀x∈f.blocks,x.ins.length<=100000):APure Tryz.prog 62 [.agg f.cells] (fun r=>r=.agg [OZ (EF f),OZ (Is f)]):=by
 have hr0:=hs.regs;obtain⟨R,hRf⟩:∃R:Nat,f.regs=(R:Int):=⟨f.regs.toNat,by omega⟩
 have hRt:R=f.regs.toNat:=by omega
 have hR:R<=100000:=by omega
 refine APure.of_body (n:=103) Ai Tryz.func62 rfl rfl ?_;refine HG ?_;refine ax 1 (D4 2 0) ?_;refine ax 2 (Eg Ai 1) ?_;refine wk 4 ?_;refine AOps.call 11 (hn:=Lv _ (HS f R ((List.range f.blocks.length).map BN) f.blocks.length (fun b=>decide (b<f.blocks.length)) (F3 (rI f.blocks.length R B0) (rI f.blocks.length R B0) (rA f.blocks.length (AB f))))) (r:=.ptr 2 1 0 0) rfl rfl rfl (LF (hc:=hNew) (hw:=Lv hNone (HS f R ((List.range f.blocks.length).map BN) f.blocks.length (fun b=>decide (b<f.blocks.length)) (F3 (rI f.blocks.length R B0) (rI f.blocks.length R B0) (rA f.blocks.length (AB f))))) kS rfl Tryz.func88 AF rfl rfl rfl (fun b hb=>⟨.free,by have:=Oc hb;(try simp only[hputs]);(repeat(first|refine AC Cy ?_|refine hrm_skip z144q ?_));rfl,rfl⟩) (funext fun b=>by unfold EL;cases e:kS b with
  |false=>rfl
  |true=>(have:=Oc e;(try simp only[hputs]);show _=some AObj.free;(repeat(first|refine AC Cy ?_|refine hrm_skip z144q ?_));rfl)) (fun b hb=>Tk hb) (fun b hb=>by obtain⟨q,q1,q2⟩:=Qp (f:=f) (R:=R) (es:=(List.range f.blocks.length).map BN) (len:=f.blocks.length) (w:=fun b=>decide (b<f.blocks.length)) (F:=(F3 (rI f.blocks.length R B0) (rI f.blocks.length R B0) (rA f.blocks.length (AB f)))) (Ch (fun _=>Ba _) (fun _=>Ba _) (fun _=>CP _)) hb;exact⟨q,(HW hb).trans q1,(HW hb).trans q1,q2⟩) rfl (UG f hs R hRf hR hn0 hn hi)) ?_
 refine wk 4 ?_;refine Bl (γ:=LQ) (kf 10) (fun q=>⟨103,(Aa (Aa (Aa AZ 1 (.ptr 0 1 0 0)) 2 (.ptr 1 1 0 0)) 3 (.ptr 2 1 0 0)),(Ig (nb [(.row false 2 [f.cells]),(.row false 2 [[.nil,.nil]]),(.row false 8 [jU f (q.es).length (q.ws.length)]),(.row false 1 (Az (rG 0 (nw R)) f.blocks.length)),(.row false 1 (Az (rG 1 (nw R)) f.blocks.length)),(.row true 1 (bC f.blocks.length (q.w))),(.row true 1 (q.es)),(.row false 1 (Az (Qj (AB f)) f.blocks.length)),(.row true 1 (f.blocks.map (Wz R))),(.row true 1 (f.blocks.map (Wy R)))]) (F3 (rI f.blocks.length R q.I) (rI f.blocks.length R q.O) (rA f.blocks.length (AB f))))⟩) (fun q=>LQI f R q) (fun q=>zf f R q) (y3 f.blocks.length) (Sub.mk' B5 (Ca (k0:=10) rfl (by repeat(first|exact trivial|refine⟨⟨by first|rfl|exact HW rfl|(show some (AObj.row false 8 [jU f ((List.range f.blocks.length).map BN).length f.blocks.length])=some (AObj.row false 8 [jU f ((List.range f.blocks.length).map BN).length (List.range f.blocks.length).length]);rw[List.length_range]),by first|rfl|exact Ah (fun _ _=>Do _ _ _ _)|exact Ah (fun _ _=>C1 _ _ _)⟩,?_⟩)) (fun x_=>(Lu _ _ x_).trans (As _ _ _)) K5)) (LQI.first f R) (fun g b hb=>BP (k0:=10) rfl hb) ?_
 intro q hQ;obtain⟨I,O,w,ws,es⟩:=q;dsimp only at hQ|-;refine wk 10 ?_;refine asp 17 (fun hb1=>?_) fun hb1=>?_
 .
  refine act ?_;obtain⟨ws',b,hws⟩:∃ws' b,ws=ws'++[b]:=by
   rcases Fz ws with h|h
   . have h2:=hb1;rw[h]at h2;simp at h2
   . exact h
  subst hws;have hpop:=hQ.wt.pop;have hb:=hpop.2.1;obtain⟨x,hx⟩:=Af hb;have hxm:=q33 hx;have hle:=hQ.wt.le;have hgr:=hQ.k.grow hs hx hRt;refine wk 9 ?_;refine aq 23 (A1 (r:=.int .i64 (ws'.length:Int)) rfl rfl rfl (LA (by have:=hQ.wt.le;simp at this;omega))) ?_;refine wk 9 ?_;refine aq 29 (Ae Ai rfl rfl rfl rfl rfl rfl rfl rfl rfl (q46 _) Df) ?_;refine aq 30 (Ar Ai rfl rfl rfl (.ptr _ _ _ _ _ _ _ (BN b) rfl rfl (by rw[qQ8,q55];exact hQ.st.get)) rfl) ?_;refine wk 10 ?_;refine aq 37 (FZ Ai (es:=es) (m:=ws'.length) rfl rfl rfl rfl rfl rfl rfl rfl rfl z145q) ?_;refine wk 11 ?_;refine aq 45 (Ae Ai rfl rfl rfl rfl rfl rfl rfl (Ap _ _).symm rfl (q46 _) z144q) ?_;refine AOps.w rfl rfl (o_store Ai rfl rfl rfl rfl rfl rfl (Ap _ _).symm Mj rfl Aj rfl E4) ?_;refine wk 5 ?_;refine AOps.call 48 (hn:=Lv _ (HS f R es ws'.length (CH w b false) (F3 (rI f.blocks.length R (A9 I b (inN x (Ef I (O b) x)))) (rI f.blocks.length R (A9 O b (Ef I (O b) x))) (rA f.blocks.length (AB f))))) (r:=.bool (chg (inN x (Ef I (O b) x)) (I b) (nw R))) rfl rfl rfl (Po (es:=es) (len:=ws'.length) (w:=CH w b false) rfl Tryz.func89 AF rfl rfl rfl sw km (Ch (fun _=>Ba _) (fun _=>Ba _) (fun _=>CP _)) (Ch (fun _=>Ba _) (fun _=>Ba _) (fun _=>CP _)) rfl (lY f hs R hR es ws'.length (CH w b false) I O (rA f.blocks.length (AB f)) (fun _=>CP _) b x hx hn)) ?_
  refine an ?_;refine asp 48 (fun hb2=>?_) fun hb2=>?_
  .
   refine act ?_;have hch:chg (inN x (Ef I (O b) x)) (I b) (nw R)=true:=hb2;refine wk 7 ?_;refine aq 54 (Ae Ai rfl rfl rfl rfl rfl rfl rfl (Ap _ _).symm rfl (q46 _) z144q) ?_;refine aq 55 (Ar Ai rfl rfl rfl (.ptr _ _ _ _ _ _ _ [Qj (AB f) b] rfl (Ap _ _).symm Mj) rfl) ?_;refine aq 56 (DD Ai rfl rfl rfl rfl) ?_;refine wk 3 ?_;refine Bl (γ:=LP) (kf 10) (fun p=>⟨103,(Aa (Aa (Aa (Aa (Aa (Aa (Aa AZ 1 (.ptr 0 1 0 0)) 2 (.ptr 1 1 0 0)) 3 (.ptr 2 1 0 0)) 5 (.int .i64 (b:Int))) 55 (Qj (AB f) b)) 56 (.int .i64 ((AB f b).length:Int))) 57 (.int .i64 (p.j:Int))),(Ig (nb [(.row false 2 [f.cells]),(.row false 2 [[.nil,.nil]]),(.row false 8 [jU f (p.es).length (p.ws.length)]),(.row false 1 (Az (rG 0 (nw R)) f.blocks.length)),(.row false 1 (Az (rG 1 (nw R)) f.blocks.length)),(.row true 1 (bC f.blocks.length (p.w))),(.row true 1 (p.es)),(.row false 1 (Az (Qj (AB f)) f.blocks.length)),(.row true 1 (f.blocks.map (Wz R))),(.row true 1 (f.blocks.map (Wy R)))]) (F3 (rI f.blocks.length R (A9 I b (inN x (Ef I (O b) x)))) (rI f.blocks.length R (A9 O b (Ef I (O b) x))) (rA f.blocks.length (AB f))))⟩) (fun p=>LPI f R (A9 I b (inN x (Ef I (O b) x))) (A9 O b (Ef I (O b) x)) b p) (fun p=>(AB f b).length-p.j) ⟨CH w b false,ws',es,0⟩ (Sub.mk' sx (Ca (k0:=10) rfl ew (fun x_=>(Lu _ _ x_).trans (As _ _ _)) K5)) ⟨by have h:=hgr.1;rw[hch]at h;exact h,hpop.1,hQ.st.pop⟩ (fun g b hb=>BP (k0:=10) rfl hb) ?_
   intro p hP;refine wk 5 ?_;refine asp 58 (fun hb3=>?_) fun hb3=>?_
   .
    refine act ?_;have hjl:p.j<(AB f b).length:=by have h:=hb3;simp at h;exact h
    obtain⟨a,ha⟩:=Af hjl;have ha2:=Kh (q33 ha);refine wk 5 ?_;refine aq 59 (AR Ai (b:=3*b+2+16) (es:=(AB f b).map BN) rfl rfl rfl rfl rfl rfl ((As _ _ _).trans (congrArg some (qe hb))) rfl (q46 _) K8) ?_;refine aq 60 (Ar Ai rfl rfl rfl (.ptr _ _ _ _ true 1 ((AB f b).map BN) (BN a) ((As _ _ _).trans (congrArg some ((qe hb).trans (I5 (k:=p.j) K8)))) rfl (by rw[q55,q54,ha];rfl)) rfl) ?_;refine wk 5 ?_;refine AOps.call 63 (hn:=Lv _ (HS f R (Dl p.w p.es p.ws.length a) (HL p.w p.ws a).length (Km p.w a) (F3 (rI f.blocks.length R (A9 I b (inN x (Ef I (O b) x)))) (rI f.blocks.length R (A9 O b (Ef I (O b) x))) (rA f.blocks.length (AB f))))) (r:=.tup []) rfl rfl rfl (Po (es:=p.es) (len:=p.ws.length) (w:=p.w) rfl Tryz.func90 AF rfl rfl rfl Uk km (Ch (fun _=>Ba _) (fun _=>Ba _) (fun _=>CP _)) (Ch (fun _=>Ba _) (fun _=>Ba _) (fun _=>CP _)) rfl (by have h:=Y4 f R p.es p.ws.length p.w (F3 (rI f.blocks.length R (A9 I b (inN x (Ef I (O b) x)))) (rI f.blocks.length R (A9 O b (Ef I (O b) x))) (rA f.blocks.length (AB f))) a ha2 hn hP.st.le hP.st.max;rw[Ox]at h;exact h)) ?_
    refine wk 2 ?_;refine aq 64 (A2 rfl rfl hjl pn) ?_;refine wk 2 ?_;exact⟨⟨Km p.w a,HL p.w p.ws a,Dl p.w p.es p.ws.length a,p.j+1⟩,DropK.mk' (by repeat(first|exact EDropK.new _ _|refine EDropK.put ?_ (by first|rfl) (by first|rfl|exact C1 _ _ _))) (Bw (k0:=10) rfl ew (fun x_=>(Lu _ _ x_).trans (As _ _ _)) (Ch (fun _=>Ba _) (fun _=>Ba _) (fun _=>CP _))),(hP.next ha),pw⟩
   refine acf ?_;have hjge:(AB f b).length<=p.j:=by have h:=hb3;simp at h;omega
   refine wk 1 ?_;exact⟨⟨(A9 I b (inN x (Ef I (O b) x))),(A9 O b (Ef I (O b) x)),p.w,p.ws,p.es⟩,DropK.mk' IS (Bw (k0:=10) rfl ew km (Ch (fun _=>Ba _) (fun _=>Ba _) (fun _=>CP _))),(hP.done hjge),(lI (hgr.2.1 hch) hP.wt.le)⟩
  refine acf ?_;have hch:chg (inN x (Ef I (O b) x)) (I b) (nw R)=false:=hb2;refine mx ?_;exact⟨⟨(A9 I b (inN x (Ef I (O b) x))),(A9 O b (Ef I (O b) x)),CH w b false,ws',es⟩,DropK.mk' IS (Bw (k0:=10) rfl ew km (Ch (fun _=>Ba _) (fun _=>Ba _) (fun _=>CP _))),⟨by have h:=hgr.1;rw[hch]at h;exact h,hpop.1,hQ.st.pop⟩,(lJ hgr.2.2 z145q)⟩
 refine acf ?_;have hws:ws=[]:=by
  rcases Fz ws with h|⟨L,b,h⟩
  . exact h
  . have h2:=hb1;rw[h]at h2;simp at h2
 subst hws;have hK:=hQ.k;have hW:=hQ.wt;refine wk 3 ?_;refine ax 8 (Eg Ai 10) ?_;refine wk 3 ?_;refine AGo.ghost (Ghost.weakRowF 10 (es':=[[A6 11 [],A6 12 []]]) rfl rfl (Ow ⟨Wk.nil _,Wk.nil _,trivial⟩)) ?_;refine wk 7 ?_;refine Bl (γ:=Nat) (kf 13) (fun k=>⟨103,(Aa (Aa (Aa (Aa (Aa (Aa AZ 1 (.ptr 0 1 0 0)) 2 (.ptr 1 1 0 0)) 3 (.ptr 2 1 0 0)) 8 (.ptr 10 1 0 0)) 67 (.int .i64 (f.blocks.length:Int))) 68 (.int .i64 (k:Int))),(Ig (nb [(.row false 2 [f.cells]),(.row false 2 [[.nil,.nil]]),(.row false 8 [jU f (es).length (0)]),(.row false 1 (Az (rG 0 (nw R)) f.blocks.length)),(.row false 1 (Az (rG 1 (nw R)) f.blocks.length)),(.row true 1 (bC f.blocks.length (w))),(.row true 1 (es)),(.row false 1 (Az (Qj (AB f)) f.blocks.length)),(.row true 1 (f.blocks.map (Wz R))),(.row true 1 (f.blocks.map (Wy R))),(.row false 2 [[A6 11 (((EF f).take k).map Dj),A6 12 (((Is f).take k).map Dj)]]),(By 1 (((EF f).take k).map Dj)),(By 1 (((Is f).take k).map Dj))]) (F3 (rI f.blocks.length R I) (rI f.blocks.length R O) (rA f.blocks.length (AB f))))⟩) (fun k=>k<=f.blocks.length) (fun k=>f.blocks.length-k) 0 (Sub.mk' DB (Ca (k0:=13) rfl (by repeat(first|exact trivial|refine⟨⟨by rfl,by first|rfl|exact Ns Aj|exact CJ _ _|exact Ah (fun _ _=>Do _ _ _ _)|exact Ah (fun _ _=>C1 _ _ _)⟩,?_⟩)) Gu sF)) (qZ1 _) (fun g b hb=>BP (k0:=13) rfl hb) ?_
 intro k hk;refine wk 5 ?_;refine asp 69 (fun hb4=>?_) fun hb4=>?_
 .
  refine act ?_;have hkl:k<f.blocks.length:=by have h:=hb4;simp at h;exact h
  obtain⟨x,hx⟩:=Af hkl;have hxm:=q33 hx;refine wk 17 ?_;refine dq 78 (Ae Ai rfl rfl rfl rfl rfl rfl rfl (Ap _ _).symm rfl (q46 _) z144q) ?_;refine dq 79 (Ar Ai rfl rfl rfl (.ptr _ _ _ _ _ _ _ [rG 0 (nw R) k] rfl (Ap _ _).symm pq) rfl) ?_;refine wk 2 ?_;refine dx 82 (RA (q:=AObj.row true 1 (BE R (I k))) (r:=Cf (Kt f k)) (3*k+0+16) rfl Tryz.func91 AF rfl rfl ss (by(try simp only[hputs]);(repeat(first|refine AC Cy ?_|refine hrm_skip z144q ?_));exact(As _ _ _).trans (congrArg some (lj hkl))) rfl rfl (by have h:=OX (3*k+0) R (I k) hR;rw[hK.inRow hs hRt hW hkl]at h;rw[hRf];exact h)) ?_;refine dx 83 (BU Ai rfl rfl rfl rfl rfl rfl Aj rfl rfl rfl rfl rfl rfl) ?_;refine dx 84 (o_append1J Ai (b:=11) (es:=((EF f).take k).map Dj) rfl rfl rfl rfl rfl rfl rfl rfl BL rfl rfl (q68 _) (JZ fun _=>rfl) (GT fun _=>rfl) rfl rfl kg ke) ?_
  refine wk 1 ?_;refine DOps.w rfl rfl (CQ Ai rfl rfl rfl rfl rfl rfl rfl rfl rfl (B1 _ _) Aj (Cj _ _) D9) ?_;refine FP DJ [([],[]),([10],[]),([],[]),([],[]),([],[]),([2],[]),([],[]),([3],[]),([3],[]),([],[]),([0],[]),([16],[]),([],[]),([11],[11]),([],[]),([10],[10])] sI AF ?_;refine wk 8 ?_;refine dq 93 (Ae Ai rfl rfl rfl rfl rfl rfl rfl (Ap _ _).symm rfl (q46 _) z144q) ?_;refine dq 94 (Ar Ai rfl rfl rfl (.ptr _ _ _ _ _ _ _ [rG 1 (nw R) k] rfl (Ap _ _).symm pq) rfl) ?_;refine wk 2 ?_;refine dx 97 (RA (q:=AObj.row true 1 (BE R (O k))) (r:=Cf (Tr f x)) (3*k+1+16) rfl Tryz.func91 AF rfl rfl ss (by(try simp only[hputs]);(repeat(first|refine AC Cy ?_|refine hrm_skip z144q ?_));exact(As _ _ _).trans (congrArg some (vT hkl))) rfl rfl (by have h:=OX (3*k+1) R (O k) hR;rw[hK.outRow hs hRt hW hx]at h;rw[hRf];exact h)) ?_;refine dx 98 (BU Ai rfl rfl rfl rfl rfl rfl Aj rfl rfl rfl rfl rfl rfl) ?_;refine dx 99 (o_append1J Ai (b:=12) (es:=((Is f).take k).map Dj) rfl rfl rfl rfl rfl rfl rfl rfl BL rfl rfl (q68 _) (JZ fun _=>rfl) (GT fun _=>rfl) rfl rfl kg ke) ?_;refine wk 1 ?_;refine DOps.w rfl rfl (CQ Ai rfl rfl rfl rfl rfl rfl rfl rfl rfl (B1 _ _) Aj (Cj _ _) D9) ?_;refine FP DJ [([],[]),([10],[]),([],[]),([],[]),([],[]),([2],[]),([],[]),([4],[]),([4],[]),([],[]),([0],[]),([17],[]),([],[]),([12],[12]),([],[]),([10],[10])] sI AF ?_;refine dJ ?_;refine aq 101 (A2 rfl rfl hkl Be) ?_;refine wk 2 ?_;exact⟨k+1,DropK.mk' IS (Bw (k0:=13) rfl (by repeat(first|exact trivial|refine⟨⟨by first|rfl|exact congrArg (fun es=>some (By 1 es)) (FSq (PM hkl))|exact congrArg (fun es=>some (By 1 es)) (FSq (Nx hx))|(rw[<-FSq (PM hkl),<-FSq (Nx hx)];rfl),by first|rfl|exact Ns Aj|exact CJ _ _|exact Ah (fun _ _=>Do _ _ _ _)|exact Ah (fun _ _=>C1 _ _ _)⟩,?_⟩)) Gu (Ch (fun _=>Ba _) (fun _=>Ba _) (fun _=>CP _))),hkl,by omega⟩
 refine acf ?_;have hge:f.blocks.length<=k:=by have h:=hb4;simp at h;omega
 refine wk 2 ?_;have hkn:k=f.blocks.length:=by omega
 subst hkn;refine AGo.ghost (.endCell 10 0 11 rfl rfl rfl Aj) ?_;refine AGo.ghost (.endCell 10 1 12 rfl rfl rfl Aj) ?_;refine wk 5 ?_;refine⟨[_],⟨⟨_,_,_,_,rfl,rfl,.ptr _ _ _ _ _ _ _ _ rfl rfl rfl,rfl⟩,trivial⟩,?_,rfl⟩;show AV.agg [AV.lst false _,AV.lst false _]=AV.agg [AV.lst false _,AV.lst false _];rw[q20 (by simp[EF]),q20 (by simp[Is])];rfl
theorem Wc(f:BFunc)(R:Nat)(S:Da)(G:GG)(es:List (List AV))(len:Nat)(w:Nat->Bool)(b:Nat)(hb:b<R)(hR:R<=100000)(hl:len<=es.length)(he:es.length<=R):ACall Tryz.prog 83 [.ptr 2 1 0 0,.int .i64 (b:Int)] (DH (IV f R S (es) (len) (w)) (DF f R S G)) (fun r h'=>r=.tup []/\HSub (Fs hNone (DH (IV f R S (Dl w es len b) (D3 w len b) (CH w b true)) (DF f R S G))) h'):=by
 refine ACall.of_body (n:=28) Ai Tryz.func83 rfl rfl ?_;refine wk 7 ?_;refine aq 9 (Ae Ai rfl rfl rfl rfl rfl rfl rfl (Ap _ _).symm rfl (q46 _) z144q) ?_;refine aq 10 (Ar Ai rfl rfl rfl (.ptr _ _ _ _ _ _ _ [.bool (w b)] rfl (Ap _ _).symm Mj) rfl) ?_;refine wk 2 ?_;refine asp 11 (fun hb1=>?_) fun hb1=>?_
 .
  refine act ?_;have hwb:w b=false:=by have h:=hb1;simpa using h
  refine wk 7 ?_;refine aq 17 (Ae Ai rfl rfl rfl rfl rfl rfl rfl (Ap _ _).symm rfl (q46 _) z144q) ?_;refine AOps.w rfl rfl (o_store Ai rfl rfl rfl rfl rfl rfl (Ap _ _).symm Mj rfl Aj rfl E4) ?_;refine wk 8 ?_;refine ax 24 (BU Ai rfl rfl rfl rfl rfl rfl Aj rfl rfl rfl rfl rfl rfl) ?_;refine ax 25 (MN Ai (es:=es) rfl rfl rfl rfl rfl rfl rfl rfl rfl rfl hl rfl rfl (q68 _) (.lst _ _) rfl (fun _=>rfl) (by show _*8<=_;omega) Be) ?_;refine wk 4 ?_;have e1:Dl w es len b=Dg es len (BN b):=by unfold Dl;rw[hwb];rfl
  have e2:D3 w len b=len+1:=by unfold D3;rw[hwb];rfl
  rw[e1,e2];exact⟨[],trivial,rfl,(M6 rfl (by repeat(first|exact trivial|refine⟨by first|rfl|exact congrArg (fun es=>some (AObj.row true 1 es)) (Kg true),?_⟩)) Hu)⟩
 refine acf ?_;have hwb:w b=true:=by have h:=hb1;simpa using h
 refine mx ?_;have e1:Dl w es len b=es:=by unfold Dl;rw[hwb];rfl
 have e2:D3 w len b=len:=by unfold D3;rw[hwb];rfl
 rw[e1,e2,HO hwb];exact jZ
theorem We(f:BFunc)(R:Nat)(S:Da)(G:GG)(es:List (List AV))(len:Nat)(w:Nat->Bool)(b:Nat)(x:Block)(hx:f.blocks[b]?=some x)(s:Site)(hat:s.at_<=x.ins.length):ACall Tryz.prog 85 [.ptr 2 1 0 0,.int .i64 (b:Int),.agg (Hx s)] (DH (IV f R S (es) (len) (w)) (DF f R S G)) (fun r h'=>r=.bool (leftS (G b) x.ins.length s)/\HSub (Fs hNone (DH (IV f R S (es) (len) (w)) (DF f R S G))) h'):=by
 have hb:b<f.blocks.length:=(q05.1 hx).1;refine ACall.of_body (n:=34) Ai Tryz.func85 rfl rfl ?_;refine HG ?_;refine ax 5 (D4 3 8) ?_;refine wk 12 ?_;refine dq 15 (Hc Ai (Aw hx)) ?_;refine wk 5 ?_;refine DOps.split 20 rfl (fun hb1=>?_) (fun hb1=>?_)
 .
  refine wk 12 ?_;refine dq 33 (F0 true rfl rfl rfl rfl) ?_;exact rB
 have hc0:=hb1;have hne:¬s.at_=x.ins.length:=by have h:=hc0;simp at h;omega
 refine wk 5 ?_;refine dq 26 (Ae Ai rfl rfl rfl rfl rfl rfl rfl (Ap _ _).symm rfl (q46 _) z144q) ?_;refine dq 27 (Ar Ai rfl rfl rfl (.ptr _ _ _ _ _ _ _ [gR f b] rfl (Ap _ _).symm Mj) rfl) ?_;refine wk 2 ?_;refine dq 30 (Ae Ai rfl rfl rfl rfl rfl rfl ki QW rfl (q46 _) (by rw[E1 hx];omega)) ?_;refine dq 31 (Ar Ai rfl rfl rfl (.ptr _ _ _ _ true 1 (bC x.ins.length (G b)) [.bool (G b s.at_)] ki QW (by rw[qQ8,q55];exact DN z144q)) rfl) ?_;refine dq 32 (Nu rfl rfl) ?_;refine dq 33 (Et false rfl rfl rfl rfl) ?_;exact rB
theorem cU(f:BFunc)(R:Nat)(S:Da)(G:GG)(es:List (List AV))(ws:List Nat)(w:Nat->Bool)(b p:Nat)(x:Block)(hx:f.blocks[b]?=some x)(hp:p<x.ins.length)(t:Tac)(ht:∀u∈t.uses,0<=u/\u<R)(hR:R<=100000)(hq:QId R ⟨G,w,ws,es⟩):ACall Tryz.prog 87 [.ptr 2 1 0 0,.int .i64 (b:Int),.int .i64 (p:Int),.agg t.cells] (DH (IV f R S (es) (ws.length) (w)) (DF f R S G)) (fun r h'=>r=.tup []/\HSub (Fs hNone (DH (IV f R S (B6 b p t.uses ⟨G,w,ws,es⟩).es (B6 b p t.uses ⟨G,w,ws,es⟩).ws.length (B6 b p t.uses ⟨G,w,ws,es⟩).w) (DF f R S (B6 b p t.uses ⟨G,w,ws,es⟩).G))) h'):=by
 have hb:b<f.blocks.length:=(q05.1 hx).1;refine ACall.of_body (n:=30) Ai Tryz.func87 rfl rfl ?_;refine HG ?_;refine ax 7 (D4 8 0) ?_;refine wk 8 ?_;refine aq 15 (Ae Ai rfl rfl rfl rfl rfl rfl rfl (Ap _ _).symm rfl (q46 _) z144q) ?_;refine aq 16 (Ar Ai rfl rfl rfl (.ptr _ _ _ _ _ _ _ [gR f b] rfl (Ap _ _).symm Mj) rfl) ?_;refine wk 1 ?_;refine aq 18 (Ae Ai rfl rfl rfl rfl rfl rfl ki QW rfl (q46 _) (by rw[E1 hx];omega)) ?_;refine AOps.w rfl rfl (o_store Ai (es:=bC x.ins.length (G b)) (cs:=[.bool (G b p)]) rfl rfl rfl rfl rfl ki QW (by rw[qQ8,q55];exact DN hp) rfl Aj rfl (fun _=>rfl)) ?_;refine wk 4 ?_;refine ax 20 (CW Tryz.func81 (Qg _)) ?_;refine wk 4 ?_;refine Bl (γ:=Nat) (kf 8) (fun k=>⟨30,(Aa (Aa (Aa (Aa AZ 0 (.ptr 2 1 0 0)) 20 (AS t.uses)) 21 (.int .i64 (t.uses.length:Int))) 22 (.int .i64 (k:Int))),(Ig (nb [(.row false 8 [t.cells]),.free,(.row false 8 [Ug f R (((t.uses.take k).foldl (fun st u=>GP st u.toNat) (⟨D8 G b p,w,ws,es⟩:RSd)).es).length (((t.uses.take k).foldl (fun st u=>GP st u.toNat) (⟨D8 G b p,w,ws,es⟩:RSd)).ws.length)]),(.row false 1 (Az (aR (AB f)) f.blocks.length)),(.row false 1 (Az (oR f.blocks.length R S) R)),(.row false 1 (Az (gR f) f.blocks.length)),(.row true 1 (((t.uses.take k).foldl (fun st u=>GP st u.toNat) (⟨D8 G b p,w,ws,es⟩:RSd)).es)),(.row true 1 (bC R (((t.uses.take k).foldl (fun st u=>GP st u.toNat) (⟨D8 G b p,w,ws,es⟩:RSd)).w)))]) (DF f R S (D8 G b p)))⟩) (fun k=>QId R ((t.uses.take k).foldl (fun st u=>GP st u.toNat) (⟨D8 G b p,w,ws,es⟩:RSd))/\k<=t.uses.length) (fun k=>t.uses.length-k) 0 (Sub.mk' DB (Ca (k0:=8) rfl pC (fun x_=>by(try simp only[hputs]);(repeat(first|refine AC Cy ?_|refine hrm_skip z144q ?_));exact(D5 ev _ _ x_).trans (congrArg some (qR hb hx x_).symm)) jQ)) ⟨⟨hq.wt,hq.st⟩,qZ1 _⟩ (fun g b hb=>BP (k0:=8) rfl hb) ?_
 intro k hQ;generalize hqe:((t.uses.take k).foldl (fun st u=>GP st u.toNat) (⟨D8 G b p,w,ws,es⟩:RSd))=q at hQ|-;refine wk 5 ?_;refine asp 23 (fun hb1=>?_) fun hb1=>?_
 .
  refine act ?_;have hkl:k<t.uses.length:=by have h:=hb1;simp[AS]at h;exact h
  obtain⟨u,hu⟩:=Af hkl;have hub:=ht u (q33 hu);refine wk 5 ?_;refine aq 24 (Hc Ai (Aw hu)) ?_;refine wk 6 ?_;refine AOps.call 28 (hn:=Fs _ (DH (IV f R S (Dl q.w q.es q.ws.length u.toNat) ((HL q.w q.ws u.toNat).length) (Km q.w u.toNat)) (DF f R S (D8 G b p)))) (r:=.tup []) rfl rfl rfl (EJ (IV f R S (q.es) (q.ws.length) (q.w)) (IV f R S (Dl q.w q.es q.ws.length u.toNat) ((HL q.w q.ws u.toNat).length) (Km q.w u.toNat)) (DF f R S (D8 G b p)) rfl Tryz.func83 AF rfl rfl rfl rfl rfl (Cm _ _ _ _ _ _) (Cm _ _ _ _ _ _) SL Hu (Bn CS f R _ _) (Bn CS f R _ _) rfl (by have h:=Wc f R S (D8 G b p) q.es q.ws.length q.w u.toNat z144q hR hQ.1.st.le hQ.1.st.max;rw[Ox,q41 hub.1]at h;exact h)) ?_;refine wk 2 ?_;refine aq 29 (A2 rfl rfl hkl eF) ?_;refine wk 2 ?_;exact⟨k+1,DropK.mk' IS (Bw (k0:=8) rfl (by repeat(first|exact trivial|refine⟨⟨by first|rfl|exact B3 rfl|(rw[Nv hu,hqe];first|rfl|exact B3 rfl),by first|rfl|exact Ah (fun _ _=>Bo (Au _) _ _)|exact Ah (fun _ _=>Bf (Au _) _ _ _ _)|exact Ah (fun _ _=>B9 (Au _) _ _)⟩,?_⟩)) Hu (Bn (Au _) f R _ _)),⟨by rw[Nv hu,hqe];exact hQ.1.push z144q,hkl⟩,by omega⟩
 refine acf ?_;have hge:t.uses.length<=k:=by have h:=hb1;simp[AS]at h;omega
 refine wk 1 ?_;have hk:k=t.uses.length:=by omega
 subst hk;rw[q71]at hqe;have e1:B6 b p t.uses ⟨G,w,ws,es⟩=q:=hqe;have e2:q.G=D8 G b p:=by rw[<-e1];exact N9 _ _ _ _
 rw[e1,e2];exact jZ
theorem Wd(f:BFunc)(hs:f.sane)(R:Nat)(G:GG)(es:List (List AV))(len:Nat)(w:Nat->Bool)(v:Nat)(hv:v<R)(hn:f.blocks.length<=100000)(hR:R<=100000)(hi:∀x∈f.blocks,x.ins.length<=100000):ACall Tryz.prog 84 [.ptr 2 1 0 0,.int .i64 (v:Int)] (DH (IV f R (SB f) (es) (len) (w)) (DF f R (SB f) G)) (fun r h'=>r=Cf (GW f.blocks.length (fun b=>WC (CB f G) v b))/\HSub (Fs hNone (DH (IV f R (SB f) (es) (len) (w)) (DF f R (SB f) G))) h'):=by
 refine ACall.of_body (n:=122) Ai Tryz.func84 rfl rfl ?_;refine wk 12 ?_;refine ax 21 (AJ Ai (n:=f.blocks.length) (m:=f.blocks.length) 0 true rfl rfl rfl (z145q) (z145q) rfl rfl rfl rfl rfl (q68 _) rfl (qZ0 _) YV Be) ?_;refine wk 10 ?_;refine ax 28 (AJ Ai (n:=f.blocks.length) (m:=f.blocks.length) 1 true rfl rfl rfl (z145q) (z145q) rfl rfl rfl rfl rfl (q68 _) rfl (qZ0 _) (by show 1*f.blocks.length<=_;omega) Be) ?_;refine wk 8 ?_;refine AGo.ghost (.dry 7 8 1 true rfl rfl rfl Aj) ?_;refine wk 6 ?_;refine aq 34 (Ae Ai rfl rfl rfl rfl rfl rfl BL (Ap _ _).symm rfl (q46 _) z144q) ?_;refine aq 35 (Ar Ai rfl rfl rfl (.ptr _ _ _ _ _ _ _ [oR f.blocks.length R (SB f) v] BL (Ap _ _).symm ay) rfl) ?_;refine aq 36 (DD Ai rfl rfl rfl rfl) ?_;refine wk 3 ?_;refine Bl (γ:=Nat×List (List AV)) (kf 9) (fun q=>⟨122,(Aa (Aa (Aa (Aa (Aa (Aa (Aa (Aa AZ 0 (.ptr 2 1 0 0)) 1 (.int .i64 (v:Int))) 5 (.ref 0 f.blocks.length 0 f.blocks.length)) 6 (.ref 1 f.blocks.length 0 f.blocks.length)) 7 (.ref 8 q.2.length 0 (todoK f G v q.1).length)) 35 (oR f.blocks.length R (SB f) v)) 36 (.int .i64 ((Kw f.blocks.length R (SB f) v).length:Int))) 37 (.int .i64 (q.1:Int))),(Ig (nb [(.row true 1 (iC f.blocks.length (Iy f G v q.1))),(.row true 1 (bC f.blocks.length (Uf f G v q.1))),(.row false 8 [Ug f R (es).length (len)]),(.row false 1 (Az (aR (AB f)) f.blocks.length)),(.row false 1 (Az (oR f.blocks.length R (SB f)) R)),(.row false 1 (Az (gR f) f.blocks.length)),(.row true 1 (es)),(.row true 1 (bC R (w))),(.row true 1 q.2)]) (DF f R (SB f) G))⟩) (fun q=>q.1<=(Gh f v).length/\StackI f.blocks.length q.2 (todoK f G v q.1)) (fun q=>(Gh f v).length-q.1) (0,[]) (Sub.mk' pt (Ca (k0:=9) rfl (by repeat(first|exact trivial|refine⟨⟨by first|rfl|exact congrArg (fun es=>some (AObj.row true 1 es)) ((Ic _ _).trans (by rw[Sk];rfl))|exact congrArg (fun es=>some (AObj.row true 1 es)) ((Ic _ _).trans (by unfold Uf;rw[Sk];rfl))|((try simp only[hputs]);repeat(first|rfl|exact At _ _ _|refine AC Cy ?_|refine hrm_skip z144q ?_|refine(CV _ QA).trans ?_)),by first|rfl|exact Ah (fun _ _=>Bo (Au _) _ _)|exact Ah (fun _ _=>Bf (Au _) _ _ _ _)|exact Ah (fun _ _=>B9 (Au _) _ _)|exact Fj _⟩,?_⟩)) Gu qT)) ⟨qZ1 _,by unfold todoK;exact StackI.none _⟩ (fun g b hb=>BP (k0:=9) rfl hb) ?_
 intro q hq;refine wk 5 ?_;refine asp 38 (fun hb1=>?_) fun hb1=>?_
 .
  refine act ?_;have hkl:q.1<(Gh f v).length:=by have h:=hb1;rw[Ev]at h;simp only[q56]at h;exact Int.ofNat_lt.1 h
  obtain⟨i,hgi⟩:=Af hkl;have hig:i<f.blocks.length/\0<(SB f i v).length:=TL (S:=SB f) hgi;obtain⟨x,hx⟩:=Af hig.1;refine wk 5 ?_;refine aq 39 (O9 Ai rfl rfl rfl rfl rfl rfl ((As _ _ _).trans (congrArg some (Ub hv))) rfl (q46 _) (by rw[Ev];exact Int.ofNat_lt.2 hkl)) ?_;refine aq 40 (Ar Ai rfl rfl rfl (.ptr _ _ _ _ false 2 (Kw f.blocks.length R (SB f) v) (WD R (SB f) v i) ((As _ _ _).trans (congrArg some ((Ub hv).trans (S5 (k:=q.1) (by rw[Ev];exact hkl))))) rfl sk) rfl) ?_;refine ax 9 (It Ai 9 rfl rfl BL rfl (q68 _) rfl) ?_;refine wk 10 ?_;refine Bl (γ:=Nat) (kf 10) (fun j=>⟨122,(Aa (Aa (Aa (Aa (Aa (Aa (Aa (Aa (Aa (Aa (Aa (Aa AZ 0 (.ptr 2 1 0 0)) 1 (.int .i64 (v:Int))) 5 (.ref 0 f.blocks.length 0 f.blocks.length)) 6 (.ref 1 f.blocks.length 0 f.blocks.length)) 7 (.ref 8 q.2.length 0 (todoK f G v q.1).length)) 35 (oR f.blocks.length R (SB f) v)) 36 (.int .i64 ((Kw f.blocks.length R (SB f) v).length:Int))) 37 (.int .i64 (q.1:Int))) 9 (.ptr 9 1 0 0)) 42 (.ref (4*(v+R*i)+3+16) (HR f v i).length 0 (HR f v i).length)) 43 (.int .i64 ((HR f v i).length:Int))) 44 (.int .i64 (j:Int))),(Ig (nb [(.row true 1 (iC f.blocks.length (Iy f G v q.1))),(.row true 1 (bC f.blocks.length (Uf f G v q.1))),(.row false 8 [Ug f R (es).length (len)]),(.row false 1 (Az (aR (AB f)) f.blocks.length)),(.row false 1 (Az (oR f.blocks.length R (SB f)) R)),(.row false 1 (Az (gR f) f.blocks.length)),(.row true 1 (es)),(.row true 1 (bC R (w))),(.row true 1 q.2),(.row false 2 [WD R (SB f) v i])]) (DF f R (SB f) G))⟩) (fun j=>Du (G i) x.ins.length ((HR f v i).drop j)=firstG f G v i/\j<=(HR f v i).length) (fun j=>(HR f v i).length-j) 0 (Sub.mk' DB (Ca (k0:=10) rfl wQ Gu K5)) ⟨by rw[q95,Gb hx,GH hx],qZ1 _⟩ (fun g b hb=>BP (k0:=10) rfl hb) ?_
  intro j hF;refine wk 5 ?_;refine asp 45 (fun hb2=>?_) fun hb2=>?_
  .
   refine act ?_;have hjl:j<(HR f v i).length:=by have h:=hb2;simp at h;exact h
   obtain⟨s,hsj⟩:=Af hjl;have hat:=Zl hx hsj;refine wk 5 ?_;refine aq 46 (Ae Ai rfl rfl rfl rfl rfl rfl ((As _ _ _).trans (congrArg some (Ot hv hig.2))) (q76 _).symm rfl (q46 _) z144q) ?_;refine aq 47 (Ar Ai rfl rfl rfl (.ptr _ _ _ _ true 3 ((HR f v i).map Hx) (Hx s) ((As _ _ _).trans (congrArg some (Ot hv hig.2))) (q76 _).symm (by rw[qQ8,q55,q54,hsj];rfl)) rfl) ?_;refine ax 11 (It Ai 10 rfl rfl BL rfl (q68 _) rfl) ?_;refine wk 9 ?_;refine AOps.call 52 (hn:=Fs _ (DH (IV f R (SB f) (es) (len) (w)) (DF f R (SB f) G))) (r:=.bool (leftS (G i) x.ins.length s)) rfl rfl rfl (EJ (IV f R (SB f) (es) (len) (w)) (IV f R (SB f) (es) (len) (w)) (DF f R (SB f) G) rfl Tryz.func85 AF rfl rfl rfl rfl rfl (Cm _ _ _ _ _ _) (Cm _ _ _ _ _ _) SL Hu (Bn CS f R _ _) (Bn CS f R _ _) rfl (We f R (SB f) G es len w i x hx s hat)) ?_
   refine wk 2 ?_;refine asp 53 (fun hb3=>?_) fun hb3=>?_
   .
    refine act ?_;have hlf:leftS (G i) x.ins.length s=false:=by have h:=hb3;simpa using h
    refine wk 2 ?_;refine aq 73 (A2 rfl rfl hjl (by have:=N3 hx (v:=v);have:=hi x (q33 hx);simp only[maxLen];omega)) ?_;refine wk 2 ?_;exact⟨j+1,DropK.mk' (by repeat(first|exact EDropK.new _ _|refine EDropK.put ?_ sc (by first|rfl|exact Bf (Au _) _ _ _ _|exact VB _ _))) (Bw (k0:=10) rfl yT Hu (Bn (Au _) f R _ _)),⟨by rw[<-first_skip hsj hlf];exact hF.1,hjl⟩,z144q⟩
   refine acf ?_;have hlf:leftS (G i) x.ins.length s=true:=by have h:=hb3;simpa using h
   refine wk 6 ?_;refine aq 57 (Ae Ai rfl rfl rfl rfl rfl rfl BL (Ap _ _).symm rfl (q46 _) z144q) ?_;refine AOps.w rfl rfl (o_store Ai rfl rfl rfl rfl rfl BL (Ap _ _).symm (by rw[qQ8,q55];exact DN hig.1) rfl Aj rfl (fun _=>rfl)) ?_;refine wk 7 ?_;refine asp 59 (fun hb4=>?_) fun hb4=>?_
   .
    refine act ?_;have hfg:firstG f G v i=1:=by rw[<-hF.1,PV hsj hlf,show s.r=true from hb4];rfl
    refine wk 5 ?_;refine aq 63 (Ae Ai rfl rfl rfl rfl rfl rfl BL (by rw[q83];exact(Ap _ _).symm) rfl (q46 _) z144q) ?_;refine AOps.w rfl rfl (o_store Ai rfl rfl rfl rfl rfl BL (by rw[q83];exact(Ap _ _).symm) (q21 (by rw[Ap];omega)) rfl Aj rfl (fun _=>rfl)) ?_;refine wk 6 ?_;refine aq 67 (Ae Ai rfl rfl rfl rfl rfl rfl BL (Ap _ _).symm rfl (q46 _) z144q) ?_;refine AOps.w rfl rfl (o_store Ai rfl rfl rfl rfl rfl BL (Ap _ _).symm (by rw[qQ8,q55];exact DN hig.1) rfl Aj rfl (fun _=>rfl)) ?_;refine wk 5 ?_;refine ax 71 (BU Ai rfl rfl rfl rfl rfl rfl Aj rfl rfl rfl rfl rfl rfl) ?_;refine ax 72 (MN Ai (es:=q.2) rfl rfl rfl rfl rfl rfl rfl rfl BL rfl hq.2.le rfl rfl (q68 _) (.lst _ _) rfl (fun _=>rfl) (by have:=hq.2.max;show _*8<=_;omega) (by have:=hq.2.max;simp only[maxLen];omega)) ?_
    refine wk 4 ?_;refine aq 74 (A2 rfl rfl hkl pz) ?_;refine wk 2 ?_;exact⟨(q.1+1,Dg q.2 (todoK f G v q.1).length (BN i)),DropK.mk' yS (Bw (k0:=9) rfl yW Hu (Bn (Au _) f R _ _)),⟨hkl,by rw[<-OC hgi hfg];exact hq.2.push (Nat.lt_of_le_of_lt (aU f G v q.1) (q51 hkl (TJ (SB f) f.blocks.length v)))⟩,(by show(Gh f v).length-(q.1+1)<(Gh f v).length-q.1;omega)⟩
   refine acf ?_;have hfg:firstG f G v i=2:=by rw[<-hF.1,PV hsj hlf,show s.r=false from hb4];rfl
   refine wk 3 ?_;exact rQ
  refine acf ?_;have hjge:(HR f v i).length<=j:=by have h:=hb2;simp at h;omega
  have hfg:firstG f G v i=0:=by rw[<-hF.1,List.drop_eq_nil_iff.2 hjge];rfl
  refine wk 2 ?_;exact rQ
 refine acf ?_;have hkge:(Gh f v).length<=q.1:=by have h:=hb1;rw[Ev]at h;simp only[q16]at h;exact Nat.le_of_not_lt fun e=>h (Int.ofNat_lt.2 e)
 refine wk 3 ?_;refine Bl (γ:=MQ) (kf 9) (fun m=>⟨122,(Aa (Aa (Aa (Aa (Aa AZ 0 (.ptr 2 1 0 0)) 1 (.int .i64 (v:Int))) 5 (.ref 0 f.blocks.length 0 f.blocks.length)) 6 (.ref 1 f.blocks.length 0 f.blocks.length)) 7 (.ref 8 m.es.length 0 m.todo.length)),(Ig (nb [(.row true 1 (iC f.blocks.length (firstG f G v))),(.row true 1 (bC f.blocks.length m.inn)),(.row false 8 [Ug f R (es).length (len)]),(.row false 1 (Az (aR (AB f)) f.blocks.length)),(.row false 1 (Az (oR f.blocks.length R (SB f)) R)),(.row false 1 (Az (gR f) f.blocks.length)),(.row true 1 (es)),(.row true 1 (bC R (w))),(.row true 1 m.es)]) (DF f R (SB f) G))⟩) (fun m=>BfI f G v m.inn m.todo 0 []/\StackI f.blocks.length m.es m.todo) (fun m=>2*M7 f.blocks.length m.inn+m.todo.length) ⟨Uf f G v q.1,todoK f G v q.1,q.2⟩ (Sub.mk' B5 (Ca (k0:=9) rfl (by repeat(first|exact trivial|refine⟨⟨by first|rfl|exact congrArg (fun w=>some (AObj.row true 1 (iC _ w))) (VZ hkge),by first|rfl|exact Ah (fun _ _=>Bo (Au _) _ _)|exact Ah (fun _ _=>Bf (Au _) _ _ _ _)|exact Ah (fun _ _=>B9 (Au _) _ _)|exact Fj _⟩,?_⟩)) Gu qT)) ⟨BfI.first hkge,hq.2⟩ (fun g b hb=>BP (k0:=9) rfl hb) ?_
 intro m hM;obtain⟨inn,todo,es'⟩:=m;dsimp only at hM|-;refine wk 7 ?_;refine asp 77 (fun hb5=>?_) fun hb5=>?_
 .
  refine act ?_;obtain⟨todo',b,htd⟩:∃todo' b,todo=todo'++[b]:=by
   rcases Fz todo with h|h
   . have h2:=hb5;rw[h]at h2;simp at h2
   . exact h
  subst htd;have hib:=hM.1.tod b (q78.2 (.inr (q47.2 rfl)));have hb:=(hM.1.sound b hib).1;refine wk 7 ?_;refine aq 81 (A1 (r:=.int .i64 (todo'.length:Int)) rfl rfl rfl (LA (by have:=hM.1.cnt;simp at this;omega))) ?_;refine aq 82 (Ae Ai rfl rfl rfl rfl rfl rfl BL rfl rfl (q46 _) Df) ?_;refine aq 83 (Ar Ai rfl rfl rfl (.ptr _ _ _ _ _ _ _ (BN b) BL rfl (by rw[qQ8,q55];exact hM.2.get)) rfl) ?_;refine wk 7 ?_;refine aq 87 (A1 (r:=.int .i64 (todo'.length:Int)) rfl rfl rfl (LA (by have:=hM.1.cnt;simp at this;omega))) ?_;refine aq 88 (FZ Ai (es:=es') (m:=todo'.length) rfl rfl rfl rfl rfl rfl BL rfl rfl z145q) ?_;refine wk 9 ?_;refine aq 94 (Ae Ai rfl rfl rfl rfl rfl rfl BL (Ap _ _).symm rfl (q46 _) z144q) ?_;refine aq 95 (Ar Ai rfl rfl rfl (.ptr _ _ _ _ _ _ _ [aR (AB f) b] BL (Ap _ _).symm Mj) rfl) ?_;refine aq 96 (DD Ai rfl rfl rfl rfl) ?_
  refine wk 3 ?_;refine Bl (γ:=MP) (kf 9) (fun p=>⟨122,(Aa (Aa (Aa (Aa (Aa (Aa (Aa (Aa (Aa AZ 0 (.ptr 2 1 0 0)) 1 (.int .i64 (v:Int))) 5 (.ref 0 f.blocks.length 0 f.blocks.length)) 6 (.ref 1 f.blocks.length 0 f.blocks.length)) 7 (.ref 8 p.es.length 0 p.todo.length)) 12 (.int .i64 (b:Int))) 95 (aR (AB f) b)) 96 (.int .i64 ((AB f b).length:Int))) 97 (.int .i64 (p.j:Int))),(Ig (nb [(.row true 1 (iC f.blocks.length (firstG f G v))),(.row true 1 (bC f.blocks.length p.inn)),(.row false 8 [Ug f R (es).length (len)]),(.row false 1 (Az (aR (AB f)) f.blocks.length)),(.row false 1 (Az (oR f.blocks.length R (SB f)) R)),(.row false 1 (Az (gR f) f.blocks.length)),(.row true 1 (es)),(.row true 1 (bC R (w))),(.row true 1 p.es)]) (DF f R (SB f) G))⟩) (fun p=>MPI f G v b (2*M7 f.blocks.length inn+todo'.length) p) (fun p=>(AB f b).length-p.j) ⟨inn,todo',es',0⟩ (Sub.mk' sx (Ca (k0:=9) rfl pE Gu qT)) ⟨hM.1.pop,hib,hM.2.pop,qZ0 _⟩ (fun g b hb=>BP (k0:=9) rfl hb) ?_
  intro p hP;refine wk 5 ?_;refine asp 98 (fun hb6=>?_) fun hb6=>?_
  .
   refine act ?_;have hjl:p.j<(AB f b).length:=by have h:=hb6;simp at h;exact h
   obtain⟨a,ha⟩:=Af hjl;have ha2:=Kh (q33 ha);refine wk 5 ?_;refine aq 99 (AR Ai (b:=4*b+0+16) (es:=(AB f b).map BN) rfl rfl rfl rfl rfl rfl ((As _ _ _).trans (congrArg some (oV hb))) rfl (q46 _) K8) ?_;refine aq 100 (Ar Ai rfl rfl rfl (.ptr _ _ _ _ true 1 ((AB f b).map BN) (BN a) ((As _ _ _).trans (congrArg some ((oV hb).trans (I5 (k:=p.j) K8)))) rfl (by rw[q55,q54,ha];rfl)) rfl) ?_;refine wk 6 ?_;refine aq 103 (Ae Ai rfl rfl rfl rfl rfl rfl BL (Ap _ _).symm rfl (q46 _) z144q) ?_;refine aq 104 (Ar Ai rfl rfl rfl (.ptr _ _ _ _ _ _ _ [.int .i64 (firstG f G v a:Int)] BL (Ap _ _).symm pp) rfl) ?_;refine wk 2 ?_;refine CM 106 (fun hb7=>?_) fun hb7=>?_
   .
    refine wk 1 ?_;have hz:=hb7;refine wk 1 ?_;refine aq 109 (Ae Ai rfl rfl rfl rfl rfl rfl BL (Ap _ _).symm rfl (q46 _) z144q) ?_;refine aq 110 (Ar Ai rfl rfl rfl (.ptr _ _ _ _ _ _ _ [.bool (p.inn a)] BL (Ap _ _).symm pp) rfl) ?_;refine wk 3 ?_;refine asp 112 (fun hb8=>?_) fun hb8=>?_
    .
     refine act ?_;have h0:firstG f G v a=0:=by have h:=hz;simp at h;omega
     have hni:p.inn a=false:=by have h:=hb8;simpa using h
     refine wk 4 ?_;refine aq 115 (Ae Ai rfl rfl rfl rfl rfl rfl BL (Ap _ _).symm rfl (q46 _) z144q) ?_;refine AOps.w rfl rfl (o_store Ai rfl rfl rfl rfl rfl BL (Ap _ _).symm pp rfl Aj rfl (fun _=>rfl)) ?_;refine wk 4 ?_;refine ax 118 (BU Ai rfl rfl rfl rfl rfl rfl Aj rfl rfl rfl rfl rfl rfl) ?_;refine ax 119 (MN Ai (es:=p.es) rfl rfl rfl rfl rfl rfl rfl rfl BL rfl hP.st.le rfl rfl (q68 _) (.lst _ _) rfl (fun _=>rfl) (by have:=hP.st.max;show _*8<=_;omega) (by have:=hP.st.max;simp only[maxLen];omega)) ?_;refine wk 3 ?_;refine aq 120 (A2 rfl rfl hjl pn) ?_;refine wk 2 ?_;exact⟨⟨CH p.inn a true,p.todo++[a],Dg p.es p.todo.length (BN a),p.j+1⟩,DropK.mk' sM (Bw (k0:=9) rfl yV Gu (Bn (Au _) f R _ _)),(hP.push ha h0 hni),pw⟩
    refine acf ?_;have hno:¬(firstG f G v a=0/\p.inn a=false):=fun e=>by
     have h:=hz;have h2:=hb8;simp[e.1,e.2]at h h2
    exact zt27
   refine wk 1 ?_;have hz:=hb7;refine wk 7 ?_;have hno:¬(firstG f G v a=0/\p.inn a=false):=fun e=>by
    have h:=hz;have h2:=hb7;simp[e.1,e.2]at h h2
   exact zt27
  refine acf ?_;have hjge:(AB f b).length<=p.j:=by have h:=hb6;simp at h;omega
  refine wk 1 ?_;exact⟨⟨p.inn,p.todo,p.es⟩,DropK.mk' IS (Bw (k0:=9) rfl pE Gu (Bn (Au _) f R _ _)),⟨(by have h:=hP.k;rw[List.drop_eq_nil_iff.2 hjge]at h;exact h.any),hP.st⟩,(Nat.lt_of_le_of_lt hP.mu (by show 2*M7 f.blocks.length inn+todo'.length<2*M7 f.blocks.length inn+(todo'++[b]).length;simp))⟩
 refine acf ?_;have htd:todo=[]:=by
  rcases Fz todo with h|⟨L,b,h⟩
  . exact h
  . have h2:=hb5;rw[h]at h2;simp at h2
 subst htd;refine wk 2 ?_;refine AGo.ghost (.freezeA 6 1 rfl rfl (Ap _ _).symm) ?_;refine wk 5 ?_;refine⟨[_],⟨rfl,trivial⟩,?_,(M6 rfl (by repeat(first|exact trivial|refine⟨by first|rfl|((try simp only[hputs]);repeat(first|rfl|exact At _ _ _|refine AC Cy ?_|refine hrm_skip z144q ?_|refine(CV _ QA).trans ?_)),?_⟩)) (fun x_=>by dsimp only;rw[FJ _ z144q];exact As _ _ _))⟩;show AV.lst false (bC f.blocks.length inn)=_;rw[jv];exact congrArg Cf (KR fun b hb=>hM.1.done hs hb)
theorem iY(t:Tac):APure Tryz.prog 86 [.agg t.cells] (fun r=>r=.bool t.pure):=by
 refine APure.of_body (n:=19) Ai Tryz.func86 rfl rfl ?_;refine HG ?_;refine ax 1 (D4 8 0) ?_;refine wk 15 ?_;refine asp 5 (fun hb1=>?_) fun hb1=>?_
 .
  refine wk 7 ?_;exact ai
 refine wk 6 ?_;refine asp 5 (fun hb2=>?_) fun hb2=>?_
 .
  refine wk 7 ?_;exact ai
 refine wk 5 ?_;refine asp 5 (fun hb3=>?_) fun hb3=>?_
 .
  refine wk 5 ?_;exact ai
 refine wk 6 ?_;refine asp 9 (fun hb4=>?_) fun hb4=>?_
 .
  refine wk 7 ?_;refine CM 14 (fun hb5=>?_) fun hb5=>?_
  .
   refine wk 6 ?_;exact ai
  refine wk 6 ?_;exact ai
 refine wk 6 ?_;exact ai
theorem TU(f:BFunc)(hs:f.sane)(R:Nat)(hRf:f.regs=(R:Int))(st:RSd)(hq:QId R st)(v:Nat)(hv:v<R)(hn:f.blocks.length<=100000)(hR:R<=100000)(hi:∀x∈f.blocks,x.ins.length<=100000):ACall Tryz.prog 59 [.ptr 2 1 0 0,.int .i64 (v:Int)] (DH (IV f R (SB f) (st.es) (st.ws.length) (st.w)) (DF f R (SB f) st.G)) (fun r h'=>r=.tup []/\HSub (Fs hNone (DH (IV f R (SB f) (Io f v st).es (Io f v st).ws.length (Io f v st).w) (DF f R (SB f) (Io f v st).G))) h'):=by
 obtain⟨inn,hinn⟩:∃inn:Nat->Bool,inn=fun b=>WC (CB f st.G) v b:=⟨_,rfl⟩
 refine ACall.of_body (n:=109) Ai Tryz.func59 rfl rfl ?_;refine wk 8 ?_;refine aq 18 (Ae Ai rfl rfl rfl rfl rfl rfl rfl (Ap _ _).symm rfl (q46 _) z144q) ?_;refine aq 19 (Ar Ai rfl rfl rfl (.ptr _ _ _ _ _ _ _ [oR f.blocks.length R (SB f) v] BL (Ap _ _).symm ay) rfl) ?_;refine aq 20 (DD Ai rfl rfl rfl rfl) ?_;refine wk 2 ?_;refine asp 21 (fun hb1=>?_) fun hb1=>?_
 .
  refine act ?_;have hz0:(Gh f v).length=0:=by have h:=hb1;rw[Ev]at h;simp only[qZ4]at h;exact Int.ofNat_inj.1 h
  refine DY ?_;rw[bE hz0];exact jZ
 refine acf ?_
 skip
 refine wk 5 ?_;refine AOps.call 24 (hn:=Fs _ (DH (IV f R (SB f) (st.es) (st.ws.length) (st.w)) (DF f R (SB f) st.G))) (r:=Cf (GW f.blocks.length inn)) rfl rfl rfl (EJ (IV f R (SB f) (st.es) (st.ws.length) (st.w)) (IV f R (SB f) (st.es) (st.ws.length) (st.w)) (DF f R (SB f) st.G) rfl Tryz.func84 AF rfl rfl rfl rfl rfl (Cm _ _ _ _ _ _) (Cm _ _ _ _ _ _) SL Hu (Bn CS f R _ _) (Bn CS f R _ _) rfl (by rw[hinn];exact Wd f hs R st.G st.es st.ws.length st.w v hv hn hR hi)) ?_;refine wk 9 ?_;refine aq 30 (Ae Ai rfl rfl rfl rfl rfl rfl BL (Ap _ _).symm rfl (q46 _) z144q) ?_;refine aq 31 (Ar Ai rfl rfl rfl (.ptr _ _ _ _ _ _ _ [oR f.blocks.length R (SB f) v] BL (Ap _ _).symm ay) rfl) ?_;refine aq 32 (DD Ai rfl rfl rfl rfl) ?_;refine wk 3 ?_;refine Bl (γ:=Nat) (kf 8) (fun k=>⟨109,(Aa (Aa (Aa (Aa (Aa (Aa AZ 0 (.ptr 2 1 0 0)) 1 (.int .i64 (v:Int))) 4 (Cf (GW f.blocks.length inn))) 31 (oR f.blocks.length R (SB f) v)) 32 (.int .i64 ((Kw f.blocks.length R (SB f) v).length:Int))) 33 (.int .i64 (k:Int))),(Ig (nb [.free,.free,(.row false 8 [Ug f R ((KO f inn v st k).es).length ((KO f inn v st k).ws.length)]),(.row false 1 (Az (aR (AB f)) f.blocks.length)),(.row false 1 (Az (oR f.blocks.length R (SB f)) R)),(.row false 1 (Az (gR f) f.blocks.length)),(.row true 1 ((KO f inn v st k).es)),(.row true 1 (bC R ((KO f inn v st k).w)))]) (DF f R (SB f) (KO f inn v st k).G))⟩) (fun k=>k<=(Gh f v).length/\QId R (KO f inn v st k)) (fun k=>(Gh f v).length-k) 0 (Sub.mk' pt (Ca (k0:=8) rfl yT Hu jQ)) ⟨qZ1 _,hq⟩ (fun g b hb=>BP (k0:=8) rfl hb) ?_
 intro k hQ;generalize hK:(KO f inn v st k)=q at hQ|-;refine wk 5 ?_;refine asp 34 (fun hb2=>?_) fun hb2=>?_
 .
  refine act ?_;have hkl:k<(Gh f v).length:=by have h:=hb2;rw[Ev]at h;simp only[q56]at h;exact Int.ofNat_lt.1 h
  obtain⟨i,hgi⟩:=Af hkl;have hig:i<f.blocks.length/\0<(SB f i v).length:=TL (S:=SB f) hgi;obtain⟨x,hx⟩:=Af hig.1;have hxm:=q33 hx;refine wk 5 ?_;refine aq 35 (O9 Ai rfl rfl rfl rfl rfl rfl ((As _ _ _).trans (congrArg some (Ub hv))) rfl (q46 _) (by rw[Ev];exact Int.ofNat_lt.2 hkl)) ?_;refine aq 36 (Ar Ai rfl rfl rfl (.ptr _ _ _ _ false 2 (Kw f.blocks.length R (SB f) v) (WD R (SB f) v i) ((As _ _ _).trans (congrArg some ((Ub hv).trans (S5 (k:=k) (by rw[Ev];exact hkl))))) rfl sk) rfl) ?_;refine ax 6 (It Ai 8 rfl rfl BL rfl (q68 _) rfl) ?_;refine wk 15 ?_;refine dq 43 (Ak Ai rfl rfl rfl rfl rfl rfl (q46 _) (Aw (CL hx)) rfl) ?_;refine wk 5 ?_;refine Bl (γ:=Nat) (kf 9) (fun j=>⟨109,(Aa (Aa (Aa (Aa (Aa (Aa (Aa (Aa (Aa (Aa (Aa AZ 0 (.ptr 2 1 0 0)) 1 (.int .i64 (v:Int))) 4 (Cf (GW f.blocks.length inn))) 31 (oR f.blocks.length R (SB f) v)) 32 (.int .i64 ((Kw f.blocks.length R (SB f) v).length:Int))) 33 (.int .i64 (k:Int))) 6 (.ptr 8 1 0 0)) 7 (.bool (Wm inn x j))) 44 (AS x.nexts)) 45 (.int .i64 (x.nexts.length:Int))) 46 (.int .i64 (j:Int))),(Ig (nb [.free,.free,(.row false 8 [Ug f R (q.es).length (q.ws.length)]),(.row false 1 (Az (aR (AB f)) f.blocks.length)),(.row false 1 (Az (oR f.blocks.length R (SB f)) R)),(.row false 1 (Az (gR f) f.blocks.length)),(.row true 1 (q.es)),(.row true 1 (bC R (q.w))),(.row false 2 [WD R (SB f) v i])]) (DF f R (SB f) q.G))⟩) (fun j=>True) (fun j=>x.nexts.length-j) 0 (Sub.mk' DB (Ca (k0:=9) rfl wQ Gu qT)) trivial (fun g b hb=>BP (k0:=9) rfl hb) ?_
  intro j _;refine wk 5 ?_;refine asp 47 (fun hb3=>?_) fun hb3=>?_
  .
   refine act ?_;have hjl:j<x.nexts.length:=by have h:=hb3;simp[AS]at h;exact h
   obtain⟨d,hd⟩:=Af hjl;have hd0:=hs.next x hxm d (q33 hd);have hdn:d.toNat<f.blocks.length:=by omega
   refine wk 5 ?_;refine aq 48 (Hc Ai (Aw hd)) ?_;refine wk 6 ?_;refine CM 51 (fun hb4=>?_) fun hb4=>?_
   .
    refine wk 8 ?_;exact rJ
   refine wk 2 ?_;have hz9:=hb4;refine aq 54 (Ak Ai rfl rfl rfl rfl rfl rfl hd0.1 (Aw (Vr hdn)) rfl) ?_;refine wk 5 ?_;exact rJ
  refine acf ?_;have hjge:x.nexts.length<=j:=by have h:=hb3;simp[AS]at h;omega
  refine wk 6 ?_;refine aq 61 (A1 (r:=.int .i64 ((((HR f v i).length-0:Nat):Int)-1)) rfl rfl rfl (bB (by have h1:(SB f i v).length<=x.ins.length+1:=N3 hx;have:=hi x hxm;omega))) ?_;refine wk 3 ?_;refine Bl (γ:=Nat) (kf 9) (fun m=>⟨109,(Aa (Aa (Aa (Aa (Aa (Aa (Aa (Aa (Aa AZ 0 (.ptr 2 1 0 0)) 1 (.int .i64 (v:Int))) 4 (Cf (GW f.blocks.length inn))) 31 (oR f.blocks.length R (SB f) v)) 32 (.int .i64 ((Kw f.blocks.length R (SB f) v).length:Int))) 33 (.int .i64 (k:Int))) 6 (.ptr 8 1 0 0)) 7 (.bool (CY inn v x i q m).2)) 10 (.int .i64 ((((HR f v i).length-m:Nat):Int)-1))),(Ig (nb [.free,.free,(.row false 8 [Ug f R ((CY inn v x i q m).1.es).length ((CY inn v x i q m).1.ws.length)]),(.row false 1 (Az (aR (AB f)) f.blocks.length)),(.row false 1 (Az (oR f.blocks.length R (SB f)) R)),(.row false 1 (Az (gR f) f.blocks.length)),(.row true 1 ((CY inn v x i q m).1.es)),(.row true 1 (bC R ((CY inn v x i q m).1.w))),(.row false 2 [WD R (SB f) v i])]) (DF f R (SB f) (CY inn v x i q m).1.G))⟩) (fun m=>m<=(HR f v i).length/\QId R (CY inn v x i q m).1) (fun m=>(HR f v i).length-m) 0 (Sub.mk' (by repeat(first|exact ESub.new _|refine ESub.put ?_ (by first|rfl|exact congrArg (fun z=>some (AV.bool z)) (jz hjge)|exact congrArg (fun(n:Nat)=>some (AV.int .i64 (n:Int))) z145q))) (Ca (k0:=9) rfl wQ Gu qT)) ⟨qZ1 _,hQ.2⟩ (fun g b hb=>BP (k0:=9) rfl hb) ?_
  intro m hF;generalize hS2:(CY inn v x i q m)=S2 at hF|-;refine wk 6 ?_;refine asp 63 (fun hb5=>?_) fun hb5=>?_
  .
   refine act ?_;obtain⟨kk,hkk⟩:∃kk,m+kk+1=(HR f v i).length:=⟨(HR f v i).length-m-1,by have h:=hb5;simp at h;omega⟩
   obtain⟨s,hsk⟩:=Af (l:=HR f v i) (k:=kk) z144q;have hat:=Zl hx hsk;rw[show(((HR f v i).length-m:Nat):Int)-1=(kk:Int) by omega];refine wk 8 ?_;refine aq 69 (Ae Ai rfl rfl rfl rfl rfl rfl ((As _ _ _).trans (congrArg some (Ot hv hig.2))) (q76 _).symm rfl (q46 _) (by show((kk:Nat):Int)<((HR f v i).length:Int);omega)) ?_;refine aq 70 (Ar Ai rfl rfl rfl (.ptr _ _ _ _ true 3 ((HR f v i).map Hx) (Hx s) ((As _ _ _).trans (congrArg some (Ot hv hig.2))) (q76 _).symm (by rw[qQ8,q55,q54,hsk];rfl)) rfl) ?_;refine ax 11 (It Ai 9 rfl rfl BL rfl (q68 _) rfl) ?_;refine wk 9 ?_;refine AOps.call 75 (hn:=Fs _ (DH (IV f R (SB f) (S2.1.es) (S2.1.ws.length) (S2.1.w)) (DF f R (SB f) S2.1.G))) (r:=.bool (leftS (S2.1.G i) x.ins.length s)) rfl rfl rfl (EJ (IV f R (SB f) (S2.1.es) (S2.1.ws.length) (S2.1.w)) (IV f R (SB f) (S2.1.es) (S2.1.ws.length) (S2.1.w)) (DF f R (SB f) S2.1.G) rfl Tryz.func85 AF rfl rfl rfl rfl rfl (Cm _ _ _ _ _ _) (Cm _ _ _ _ _ _) SL Hu (Bn CS f R _ _) (Bn CS f R _ _) rfl (We f R (SB f) S2.1.G S2.1.es S2.1.ws.length S2.1.w i x hx s hat)) ?_
   refine wk 2 ?_;refine asp 76 (fun hb6=>?_) fun hb6=>?_
   .
    refine act ?_;have hlf:leftS (S2.1.G i) x.ins.length s=false:=by have h:=hb6;simpa using h
    have hnx2:CY inn v x i q (m+1)=S2:=by rw[FX YS YR,hS2];exact Xf hlf
    refine wk 3 ?_;exact wP
   refine acf ?_;have hlf:leftS (S2.1.G i) x.ins.length s=true:=by have h:=hb6;simpa using h
   refine wk 7 ?_;refine asp 78 (fun hb7=>?_) fun hb7=>?_
   .
    refine act ?_;have hss:s.s=true:=hb7;obtain⟨t,ht⟩:=fw hx hsk hss;have htu:∀u∈t.uses,0<=u/\u<R:=fun u hu=>by have:=(hs.low x hxm t (q33 ht)).2 u hu;rw[hRf]at this;exact this
    refine wk 10 ?_;refine dq 86 (Hc Ai (Aw hx)) ?_;refine wk 4 ?_;refine dq 91 (Hc Ai (Aw ht)) ?_;refine wk 1 ?_;refine dx 12 (It Ai 10 rfl rfl BL rfl (q68 _) rfl) ?_;refine wk 7 ?_;refine CM 95 (fun hb8=>?_) fun hb8=>?_
    .
     refine wk 1 ?_;have hz:=hb8;refine ax 97 (CW Tryz.func86 (iY _)) ?_;refine wk 2 ?_;refine asp 98 (fun hb9=>?_) fun hb9=>?_
     .
      refine act ?_;have hnx2:CY inn v x i q (m+1)=(B6 i s.at_ t.uses S2.1,S2.2):=by rw[FX YS YR,hS2];exact UJ hlf ht hss (by have h:=hz;simpa using h) hb9
      refine wk 8 ?_;refine AOps.call 105 (hn:=Fs _ (DH (IV f R (SB f) ((B6 i s.at_ t.uses S2.1).es) ((B6 i s.at_ t.uses S2.1).ws.length) ((B6 i s.at_ t.uses S2.1).w)) (DF f R (SB f) (B6 i s.at_ t.uses S2.1).G))) (r:=.tup []) rfl rfl rfl (EJ (IV f R (SB f) (S2.1.es) (S2.1.ws.length) (S2.1.w)) (IV f R (SB f) ((B6 i s.at_ t.uses S2.1).es) ((B6 i s.at_ t.uses S2.1).ws.length) ((B6 i s.at_ t.uses S2.1).w)) (DF f R (SB f) (B6 i s.at_ t.uses S2.1).G) rfl Tryz.func87 AF rfl rfl rfl rfl rfl (Cm _ _ _ _ _ _) (Cm _ _ _ _ _ _) SL Hu (Bn CS f R _ _) (Bn CS f R _ _) rfl (cU f R (SB f) S2.1.G S2.1.es S2.1.ws S2.1.w i s.at_ x hx (q05.1 ht).1 t htu hR hF.2)) ?_;refine wk 4 ?_;refine aq 65 (A1 (r:=.int .i64 ((((HR f v i).length-(m+1):Nat):Int)-1)) rfl rfl rfl (oo hkk (by have:=N3 hx (v:=v);have:=hi x hxm;omega))) ?_;refine wk 2 ?_;exact⟨m+1,DropK.mk' sH (Bw (k0:=9) rfl yU sN (Bn (Au _) f R _ _)),⟨by omega,by rw[hnx2];exact hF.2.leaveR htu⟩,z144q⟩
     refine acf ?_;have hk2:s.s=true->∀t,x.ins[s.at_]?=some t->(!S2.2&&t.pure)=false:=fun _ t' e=>by
      rw[ht]at e;cases e;first|(rw[show t.pure=false from hb9];exact q97 _)|(rw[hz];rfl)
     refine wk 9 ?_;refine asp 107 (fun hb10=>?_) fun hb10=>?_
     .
      refine act ?_;have hr:s.r=true:=hb10;exact pb
     refine acf ?_;have hr:s.r=false:=hb10;exact o9
    refine wk 1 ?_;have hz:=hb8;refine wk 4 ?_;have hk2:s.s=true->∀t,x.ins[s.at_]?=some t->(!S2.2&&t.pure)=false:=fun _ t' e=>by
     rw[ht]at e;cases e;first|(rw[show t.pure=false from hb8];exact q97 _)|(rw[hz];rfl)
    refine wk 9 ?_;refine asp 107 (fun hb11=>?_) fun hb11=>?_
    .
     refine act ?_;have hr:s.r=true:=hb11;exact pb
    refine acf ?_;have hr:s.r=false:=hb11;exact o9
   refine acf ?_;have hss:s.s=false:=hb7;have hk2:s.s=true->∀t,x.ins[s.at_]?=some t->(!S2.2&&t.pure)=false:=fun e=>by rw[hss]at e;cases e
   refine wk 6 ?_;refine asp 107 (fun hb12=>?_) fun hb12=>?_
   .
    refine act ?_;have hr:s.r=true:=hb12;exact pb
   refine acf ?_;have hr:s.r=false:=hb12;exact o9
  refine acf ?_;have hmge:(HR f v i).length<=m:=by have h:=hb5;simp at h;omega
  have hnx:KO f inn v st (k+1)=S2.1:=by rw[<-bF hgi hx hmge,hK,hS2]
  refine wk 2 ?_;refine aq 108 (A2 rfl rfl hkl pz) ?_;refine wk 2 ?_;exact⟨k+1,DropK.mk' (by repeat(first|exact EDropK.new _ _|refine EDropK.put ?_ sc (by first|rfl|exact Bf (Au _) _ _ _ _))) (Bw (k0:=8) rfl (by repeat(first|exact trivial|refine⟨⟨by first|rfl|exact B3 rfl|(rw[hnx];first|rfl|exact B3 rfl),by first|rfl|exact Ah (fun _ _=>Bo (Au _) _ _)|exact Ah (fun _ _=>Bf (Au _) _ _ _ _)|exact Ah (fun _ _=>B9 (Au _) _ _)|exact Fj _⟩,?_⟩)) (fun x_=>by rw[hnx];(try simp only[hputs]);(try dsimp only);first|exact As _ _ _|exact(Fd _ _ x_).trans (As _ _ _)) (Bn (Au _) f R _ _)),⟨hkl,by rw[hnx];exact hF.2⟩,z144q⟩
 refine acf ?_;have hkge:(Gh f v).length<=k:=by have h:=hb2;rw[Ev]at h;simp only[q16]at h;exact Nat.le_of_not_lt fun e=>h (Int.ofNat_lt.2 e)
 refine wk 1 ?_;have hkk0:k=(Gh f v).length:=by omega
 have hreg:Io f v st=q:=by rw[<-hK,hkk0,hinn];rfl
 rw[hreg];exact jZ
theorem P5(n R:Nat)(S:Da)(v i p:Nat)(hv:v<R)(hi0:i<n)(hlast:∀j,i<j->S j v=[])(hlen:(S i v).length<=1000000)(hn:n<=100000)(c0 c1 c2 c3 c5 c6 c7:AV)(r3 r5 r6 r7:AObj)(r0 r1:Nat->AObj):ACall Tryz.prog 82 [.ptr 2 1 0 0,.int .i64 (v:Int),.int .i64 (i:Int),.int .i64 (p:Int)] (DH [(.row false 8 [[c0,c1,c2,c3,.ref 4 R 0 R,c5,c6,c7]]),r3,(.row false 1 (Az (oR n R S) R)),r5,r6,r7] (F4 r0 r1 (O7 n R S) (NW R S))) (fun r h'=>r=.ptr (4*(v+R*i)+3+16) (Bi (S i v) p).length ((Bi (S i v) p).length-1) 0/\HSub (Fs hNone (DH [(.row false 8 [[c0,c1,c2,c3,.ref 4 R 0 R,c5,c6,c7]]),r3,(.row false 1 (Az (oR n R (Cw S i v (Bi (S i v) p))) R)),r5,r6,r7] (F4 r0 r1 (O7 n R (Cw S i v (Bi (S i v) p))) (NW R (Cw S i v (Bi (S i v) p)))))) h'):=by
 have hpl:=bO S i v;have hgl:=TJ S n v;refine ACall.of_body (n:=94) Ai Tryz.func82 rfl rfl ?_;refine wk 11 ?_;refine aq 16 (Ae Ai rfl rfl rfl rfl rfl rfl rfl (Ap _ _).symm rfl (q46 _) z144q) ?_;refine aq 17 (Ar Ai rfl rfl rfl (.ptr _ _ _ _ _ _ _ [oR n R S v] rfl (Ap _ _).symm ay) rfl) ?_;refine wk 6 ?_;refine aq 19 (DD Ai rfl rfl rfl rfl) ?_;refine wk 2 ?_;refine CM 21 (fun hb1=>?_) fun hb1=>?_
 .
  refine wk 11 ?_;refine AGo.join (γ:=Unit) (fun _u=>⟨94,(Aa (Aa (Aa (Aa (Aa AZ 0 (.ptr 2 1 0 0)) 1 (.int .i64 (v:Int))) 2 (.int .i64 (i:Int))) 3 (.int .i64 (p:Int))) 9 (.ref (4*v+2+16) ((Cn S i v).length+1) 0 ((Cn S i v).length+1))),(DH [(.row false 8 [[c0,c1,c2,c3,.ref 4 R 0 R,c5,c6,c7]]),r3,(.row false 1 (Az (oX n R S v i) R)),r5,r6,r7] (F4 r0 r1 (Rp n R S v i (S i v)) (NW R S)))⟩) (fun _u=>True) ?_ ?_
  .
   refine act ?_;have hS0:S i v=[]:=by
    first
    |exact note_new2 hi0 hlast hj0 z144q (by have h:=hb1;simp at h;omega)
    |exact RF hi0 hlast (EN hb1)
   exact rV
  intro _ _;refine wk 5 ?_;refine aq 47 (A1 (r:=.int .i64 (((Cn S i v).length:Nat):Int)) rfl rfl rfl (Rc (L:=(Cn S i v).length+1) (Nat.succ_pos _) z144q)) ?_;refine aq 48 (Ae Ai rfl rfl rfl rfl rfl rfl ((As _ _ _).trans (congrArg some (Gd))) II rfl (q46 _) z144q) ?_;refine wk 8 ?_;refine dq 52 (Ar Ai rfl rfl rfl (.ptr _ _ _ _ false 2 (CA R S v i++[Kb R v i (S i v)]) (Kb R v i (S i v)) ((As _ _ _).trans (congrArg some (Gd))) II QB) rfl) ?_;refine dq 53 (DD Ai rfl rfl rfl rfl) ?_;refine wk 2 ?_;refine DOps.split 55 rfl (fun hb2=>?_) (fun hb2=>?_)
  .
   refine wk 15 ?_;refine dq 71 (F0 true rfl rfl rfl rfl) ?_;refine wk 1 ?_;refine AGo.join (γ:=Unit) (fun _u=>⟨94,(Aa AZ 10 (.ptr (4*v+2+16) ((Cn S i v).length+1) (0+(((Cn S i v).length:Nat):Int).toNat) 0)),(DH [(.row false 8 [[c0,c1,c2,c3,.ref 4 R 0 R,c5,c6,c7]]),r3,(.row false 1 (Az (oX n R S v i) R)),r5,r6,r7] (F4 r0 r1 (Rp n R S v i (Bi (S i v) p)) (bJ R S v i (Bi (S i v) p))))⟩) (fun _u=>True) ?_ ?_
   .
    refine act ?_;have hnl:Bi (S i v) p=S i v++[⟨p,false,false⟩]:=by
     first
     |exact J2 hs0 z144q (by have h:=hb2;simp at h;omega)
     |(have h0:(S i v).length=0:=(by have h:=hb2;first|exact EN h|(rw[q76]at h;exact EN h));rw[N8 h0];rfl)
    exact wL
   intro _ _;exact zt7
  have hs1:0<(S i v).length:=by have h:=hb2;rw[q76]at h;exact TQ h
  obtain⟨s0,hs0⟩:=Af (l:=S i v) (k:=(S i v).length-1) z144q;refine wk 3 ?_;refine dq 59 (Ar Ai rfl rfl rfl (.ptr _ _ _ _ false 2 (CA R S v i++[Kb R v i (S i v)]) (Kb R v i (S i v)) ((As _ _ _).trans (congrArg some (Gd))) II QB) rfl) ?_;refine wk 3 ?_;refine dq 63 (Ar Ai rfl rfl rfl (.ptr _ _ _ _ false 2 (CA R S v i++[Kb R v i (S i v)]) (Kb R v i (S i v)) ((As _ _ _).trans (congrArg some (Gd))) II QB) rfl) ?_;refine dq 64 (DD Ai rfl rfl rfl rfl) ?_;refine dq 65 (A1 (r:=.int .i64 (((S i v).length-1:Nat):Int)) rfl rfl rfl (by rw[q76];exact Rc hs1 z144q)) ?_;refine dq 66 (AR Ai (b:=(4*(v+R*i)+3+16)) (es:=(S i v).map Hx) rfl rfl rfl rfl rfl rfl ((As _ _ _).trans (congrArg some (Ro hv))) rfl (q46 _) K8) ?_;refine wk 1 ?_;refine dq 68 (Ar Ai rfl rfl rfl (.ptr _ _ _ _ true 3 ((S i v).map Hx) (Hx s0) ((As _ _ _).trans (congrArg some ((Ro hv).trans (N4 hs1)))) rfl (by rw[q55,q54,hs0];rfl)) rfl) ?_
  refine wk 2 ?_;refine dq 71 (Et false rfl rfl rfl rfl) ?_;refine wk 1 ?_;refine AGo.join (γ:=Unit) (fun _u=>⟨94,(Aa AZ 10 (.ptr (4*v+2+16) ((Cn S i v).length+1) (0+(((Cn S i v).length:Nat):Int).toNat) 0)),(DH [(.row false 8 [[c0,c1,c2,c3,.ref 4 R 0 R,c5,c6,c7]]),r3,(.row false 1 (Az (oX n R S v i) R)),r5,r6,r7] (F4 r0 r1 (Rp n R S v i (Bi (S i v) p)) (bJ R S v i (Bi (S i v) p))))⟩) (fun _u=>True) ?_ ?_
  .
   refine asp 71 (fun hb3=>?_) fun hb3=>?_
   .
    refine act ?_;have hnl:Bi (S i v) p=S i v++[⟨p,false,false⟩]:=by
     first
     |exact J2 hs0 z144q (by have h:=hb3;simp at h;omega)
     |(have h0:(S i v).length=0:=(by have h:=hb3;first|exact EN h|(rw[q76]at h;exact EN h));rw[N8 h0];rfl)
    exact wL
   refine acf ?_;have hnl:Bi (S i v) p=S i v:=RG hs0 z144q (by have h:=hb3;simp at h;omega);exact rq
  intro _ _;exact zt7
 have hg0:0<(Oe S n v).length:=by have h:=hb1;rw[Ev]at h;exact TQ h
 obtain⟨j0,hj0⟩:=Af (l:=Oe S n v) (k:=(Oe S n v).length-1) z144q;refine wk 2 ?_;refine aq 24 (DD Ai rfl rfl rfl rfl) ?_;refine aq 25 (A1 (r:=.int .i64 (((Oe S n v).length-1:Nat):Int)) rfl rfl rfl (by rw[Ev];exact Rc hg0 z144q)) ?_;refine aq 26 (O9 Ai rfl rfl rfl rfl rfl rfl ((As _ _ _).trans (congrArg some (XE hv))) rfl (q46 _) (by rw[Ev];omega)) ?_;refine wk 1 ?_;refine aq 28 (Ar Ai rfl rfl rfl (.ptr _ _ _ _ false 2 (Kw n R S v) (WD R S v j0) ((As _ _ _).trans (congrArg some ((XE hv).trans (S5 (k:=(Oe S n v).length-1) (by rw[Ev];omega))))) rfl (by rw[q55];show((Oe S n v).map (WD R S v))[_]?=_;rw[q54,hj0];rfl)) rfl) ?_;refine wk 4 ?_;refine AGo.join (γ:=Unit) (fun _u=>⟨94,(Aa (Aa (Aa (Aa (Aa AZ 0 (.ptr 2 1 0 0)) 1 (.int .i64 (v:Int))) 2 (.int .i64 (i:Int))) 3 (.int .i64 (p:Int))) 9 (.ref (4*v+2+16) ((Cn S i v).length+1) 0 ((Cn S i v).length+1))),(DH [(.row false 8 [[c0,c1,c2,c3,.ref 4 R 0 R,c5,c6,c7]]),r3,(.row false 1 (Az (oX n R S v i) R)),r5,r6,r7] (F4 r0 r1 (Rp n R S v i (S i v)) (NW R S)))⟩) (fun _u=>True) ?_ ?_
 .
  refine asp 31 (fun hb4=>?_) fun hb4=>?_
  .
   refine act ?_;have hS0:S i v=[]:=by
    first
    |exact note_new2 hi0 hlast hj0 z144q (by have h:=hb4;simp at h;omega)
    |exact RF hi0 hlast (EN hb4)
   exact rV
  refine acf ?_;have hji:j0=i:=by have h:=hb4;simp at h;omega
  rw[hji]at hj0;have hS1:0<(S i v).length:=gY hi0 hlast hj0;refine mx ?_;exact⟨(),Sub.mk' sA (Oj rfl rfl rfl (by repeat(first|exact trivial|refine⟨by first|rfl|exact congrArg (fun es=>some (AObj.row false 1 es)) ((lC hi0 hlast hS1).symm),?_⟩)) (fun x_=>(As _ _ _).trans (congrArg some (by rw[gd hv hi0 hlast hS1]))) jQ),trivial⟩
 intro _ _;refine wk 5 ?_;refine aq 47 (A1 (r:=.int .i64 (((Cn S i v).length:Nat):Int)) rfl rfl rfl (Rc (L:=(Cn S i v).length+1) (Nat.succ_pos _) z144q)) ?_;refine aq 48 (Ae Ai rfl rfl rfl rfl rfl rfl ((As _ _ _).trans (congrArg some (Gd))) II rfl (q46 _) z144q) ?_;refine wk 8 ?_;refine dq 52 (Ar Ai rfl rfl rfl (.ptr _ _ _ _ false 2 (CA R S v i++[Kb R v i (S i v)]) (Kb R v i (S i v)) ((As _ _ _).trans (congrArg some (Gd))) II QB) rfl) ?_;refine dq 53 (DD Ai rfl rfl rfl rfl) ?_;refine wk 2 ?_;refine DOps.split 55 rfl (fun hb5=>?_) (fun hb5=>?_)
 .
  refine wk 15 ?_;refine dq 71 (F0 true rfl rfl rfl rfl) ?_;refine wk 1 ?_;refine AGo.join (γ:=Unit) (fun _u=>⟨94,(Aa AZ 10 (.ptr (4*v+2+16) ((Cn S i v).length+1) (0+(((Cn S i v).length:Nat):Int).toNat) 0)),(DH [(.row false 8 [[c0,c1,c2,c3,.ref 4 R 0 R,c5,c6,c7]]),r3,(.row false 1 (Az (oX n R S v i) R)),r5,r6,r7] (F4 r0 r1 (Rp n R S v i (Bi (S i v) p)) (bJ R S v i (Bi (S i v) p))))⟩) (fun _u=>True) ?_ ?_
  .
   refine act ?_;have hnl:Bi (S i v) p=S i v++[⟨p,false,false⟩]:=by
    first
    |exact J2 hs0 z144q (by have h:=hb5;simp at h;omega)
    |(have h0:(S i v).length=0:=(by have h:=hb5;first|exact EN h|(rw[q76]at h;exact EN h));rw[N8 h0];rfl)
   exact wL
  intro _ _;exact zt7
 have hs1:0<(S i v).length:=by have h:=hb5;rw[q76]at h;exact TQ h
 obtain⟨s0,hs0⟩:=Af (l:=S i v) (k:=(S i v).length-1) z144q;refine wk 3 ?_;refine dq 59 (Ar Ai rfl rfl rfl (.ptr _ _ _ _ false 2 (CA R S v i++[Kb R v i (S i v)]) (Kb R v i (S i v)) ((As _ _ _).trans (congrArg some (Gd))) II QB) rfl) ?_;refine wk 3 ?_;refine dq 63 (Ar Ai rfl rfl rfl (.ptr _ _ _ _ false 2 (CA R S v i++[Kb R v i (S i v)]) (Kb R v i (S i v)) ((As _ _ _).trans (congrArg some (Gd))) II QB) rfl) ?_;refine dq 64 (DD Ai rfl rfl rfl rfl) ?_;refine dq 65 (A1 (r:=.int .i64 (((S i v).length-1:Nat):Int)) rfl rfl rfl (by rw[q76];exact Rc hs1 z144q)) ?_;refine dq 66 (AR Ai (b:=(4*(v+R*i)+3+16)) (es:=(S i v).map Hx) rfl rfl rfl rfl rfl rfl ((As _ _ _).trans (congrArg some (Ro hv))) rfl (q46 _) K8) ?_;refine wk 1 ?_;refine dq 68 (Ar Ai rfl rfl rfl (.ptr _ _ _ _ true 3 ((S i v).map Hx) (Hx s0) ((As _ _ _).trans (congrArg some ((Ro hv).trans (N4 hs1)))) rfl (by rw[q55,q54,hs0];rfl)) rfl) ?_
 refine wk 2 ?_;refine dq 71 (Et false rfl rfl rfl rfl) ?_;refine wk 1 ?_;refine AGo.join (γ:=Unit) (fun _u=>⟨94,(Aa AZ 10 (.ptr (4*v+2+16) ((Cn S i v).length+1) (0+(((Cn S i v).length:Nat):Int).toNat) 0)),(DH [(.row false 8 [[c0,c1,c2,c3,.ref 4 R 0 R,c5,c6,c7]]),r3,(.row false 1 (Az (oX n R S v i) R)),r5,r6,r7] (F4 r0 r1 (Rp n R S v i (Bi (S i v) p)) (bJ R S v i (Bi (S i v) p))))⟩) (fun _u=>True) ?_ ?_
 .
  refine asp 71 (fun hb6=>?_) fun hb6=>?_
  .
   refine act ?_;have hnl:Bi (S i v) p=S i v++[⟨p,false,false⟩]:=by
    first
    |exact J2 hs0 z144q (by have h:=hb6;simp at h;omega)
    |(have h0:(S i v).length=0:=(by have h:=hb6;first|exact EN h|(rw[q76]at h;exact EN h));rw[N8 h0];rfl)
   exact wL
  refine acf ?_;have hnl:Bi (S i v) p=S i v:=RG hs0 z144q (by have h:=hb6;simp at h;omega);exact rq
 intro _ _;exact zt7
theorem newSearch_ok(f:BFunc)(hs:f.sane)(R:Nat)(hRf:f.regs=(R:Int))(hR:R<=100000)(hn:f.blocks.length<=100000)(hi:∀x∈f.blocks,x.ins.length<=100000):ACall Tryz.prog 58 [.agg f.cells] hNew (fun r h'=>r=.ptr 2 1 0 0/\HSub (Fs hNone (DH (IV f R (SB f) ((List.range R).map BN) (R) (fun b=>decide (b<R))) (DF f R (SB f) G0))) h'):=by
 refine ACall.of_body (n:=152) Ai Tryz.func58 rfl rfl ?_;refine HG ?_;refine ax 1 (D4 2 0) ?_;refine wk 6 ?_;refine dx 18 (CW Tryz.func80 (Tu _ Bm)) ?_;refine wk 3 ?_;refine dx 22 (AJ Ai (n:=f.blocks.length) (m:=f.blocks.length) 3 false rfl rfl rfl z145q z145q rfl rfl rfl rfl rfl (q68 _) rfl (qZ0 _) QX Be) ?_;refine wk 2 ?_;refine dx 25 (AJ Ai (n:=R) (m:=R) 4 false rfl rfl rfl hRf hRf rfl rfl rfl rfl rfl (q68 _) rfl (qZ0 _) (by show 24*R<=_;omega) Be) ?_;refine wk 3 ?_;refine dx 29 (AJ Ai (n:=f.blocks.length) (m:=f.blocks.length) 5 false rfl rfl rfl z145q z145q rfl rfl rfl rfl rfl (q68 _) rfl (qZ0 _) QX Be) ?_;refine wk 1 ?_;refine dx 31 (D4 8 2) ?_;refine wk 4 ?_;refine AGo.ghost (Ghost.weakRowF 3 (es':=Az (aR (fun _=>[])) f.blocks.length) rfl (by rw[Ap,q30]) (weak_col fun b=>Wk.nil _)) ?_
 refine AGo.ghost (Ghost.weakRowF 4 (es':=Az (oR f.blocks.length R S0) R) rfl (by rw[Ap,q30]) (weak_col fun b=>by rw[lD];exact Wk.nil _)) ?_;refine wk 9 ?_;refine Bl (γ:=Nat) (kf 8) (fun k=>⟨152,(Aa (Aa (Aa (Aa (Aa AZ 1 (.ptr 0 1 0 0)) 3 (.ptr 2 1 0 0)) 35 (AO f.nexts)) 36 (.int .i64 (f.blocks.length:Int))) 37 (.int .i64 (k:Int))),(Ig (nb [(.row false 2 [f.cells]),.free,(.row false 8 [qW f R]),(.row false 1 (Az (aR (aheadP f k 0)) f.blocks.length)),(.row false 1 (Az (oR f.blocks.length R S0) R)),(.row false 1 (Az (gK f 0) f.blocks.length)),.free,.free]) (F4 (Tj f.blocks.length (aheadP f k 0)) (Qy f 0 G0) (O7 f.blocks.length R S0) (NW R S0)))⟩) (fun k=>k<=f.blocks.length) (fun k=>f.blocks.length-k) 0 (Sub.mk' sJ (Ca (k0:=8) rfl (by repeat(first|exact trivial|refine⟨⟨by first|rfl|exact congrArg (fun A=>some (AObj.row false 1 (Az (aR A) f.blocks.length))) (funext fun c=>(DA f 0 c).symm)|exact congrArg (fun es=>some (AObj.row false 1 es)) (l0 f f.blocks.length),by first|rfl|exact Ah (fun _ _=>Bo (Au _) _ _)|exact Ah (fun _ _=>Bf (Au _) _ _ _ _)|exact Ah (fun _ _=>Eh (Au _) _ _ _)⟩,?_⟩)) (fun x_=>by rw[Rr (DA f 0)];(try simp only[hputs]);(repeat(first|refine AC Cy ?_|refine hrm_skip z144q ?_));exact congrArg some F4_start.symm) jQ)) (qZ1 _) (fun g b hb=>BP (k0:=8) rfl hb) ?_
 intro k hk;refine wk 5 ?_;refine asp 38 (fun hb1=>?_) fun hb1=>?_
 .
  refine act ?_;have hkl:k<f.blocks.length:=by have h:=hb1;simp at h;exact h
  obtain⟨x,hx⟩:=Af hkl;have hxm:=q33 hx;refine wk 6 ?_;refine aq 40 (Ak Ai rfl rfl rfl rfl rfl rfl (q46 _) (Aw (CL hx)) rfl) ?_;refine wk 11 ?_;refine Bl (γ:=Nat) (kf 8) (fun j=>⟨152,(Aa (Aa (Aa (Aa (Aa (Aa (Aa (Aa (Aa AZ 1 (.ptr 0 1 0 0)) 3 (.ptr 2 1 0 0)) 35 (AO f.nexts)) 36 (.int .i64 (f.blocks.length:Int))) 37 (.int .i64 (k:Int))) 4 (.int .i64 (k:Int))) 42 (AS x.nexts)) 43 (.int .i64 (x.nexts.length:Int))) 44 (.int .i64 (j:Int))),(Ig (nb [(.row false 2 [f.cells]),.free,(.row false 8 [qW f R]),(.row false 1 (Az (aR (aheadP f k j)) f.blocks.length)),(.row false 1 (Az (oR f.blocks.length R S0) R)),(.row false 1 (Az (gK f 0) f.blocks.length)),.free,.free]) (F4 (Tj f.blocks.length (aheadP f k j)) (Qy f 0 G0) (O7 f.blocks.length R S0) (NW R S0)))⟩) (fun j=>True) (fun j=>x.nexts.length-j) 0 (Sub.mk' DB (Ca (k0:=8) rfl pD Gu jQ)) trivial (fun g b hb=>BP (k0:=8) rfl hb) ?_
  intro j _;refine wk 5 ?_;refine asp 45 (fun hb2=>?_) fun hb2=>?_
  .
   refine act ?_;have hjl:j<x.nexts.length:=by have h:=hb2;simp[AS]at h;exact h
   obtain⟨d,hd⟩:=Af hjl;have hd0:=hs.next x hxm d (q33 hd);have hdn:d.toNat<f.blocks.length:=by omega
   refine wk 5 ?_;refine aq 46 (Hc Ai (Aw hd)) ?_;refine wk 14 ?_;refine dq 58 (Ae Ai rfl rfl rfl rfl rfl rfl rfl (Ap _ _).symm rfl hd0.1 z144q) ?_;refine dq 59 (Ar Ai rfl rfl rfl (.ptr _ _ _ _ _ _ _ [aR (aheadP f k j) d.toNat] rfl (Ap _ _).symm Um) rfl) ?_;refine wk 1 ?_;refine dx 61 (BU Ai rfl rfl rfl rfl rfl rfl Aj rfl rfl rfl rfl rfl rfl) ?_;refine dx 62 (o_append1J Ai (b:=4*d.toNat+0+16) (es:=(aheadP f k j d.toNat).map BN) rfl rfl rfl rfl rfl rfl rfl rfl ((As _ _ _).trans (congrArg some (vU hdn))) rfl rfl (q68 _) (JZ fun _=>rfl) (GT fun _=>rfl) rfl rfl sa r8) ?_;refine dq 63 (Ae Ai rfl rfl rfl rfl rfl rfl BL (Ap _ _).symm rfl hd0.1 z144q) ?_;refine DOps.w rfl rfl (CQ Ai (p:=false) (sz:=1) (es:=Az (aR (aheadP f k j)) f.blocks.length) (cs:=[aR (aheadP f k j) d.toNat]) rfl rfl rfl rfl rfl rfl BL (Ap _ _).symm Um (B1 _ _) Aj (Cj _ _) D9) ?_;refine FP DO [([],[]),([],[]),([],[]),([2],[]),([],[]),([],[]),([],[]),([],[]),([2],[]),([],[]),([3],[]),([3],[]),([],[]),([],[]),([16],[16]),([3],[]),([3],[3])] yX AF ?_;refine dJ ?_;refine aq 64 (A2 rfl rfl hjl j5) ?_;refine wk 2 ?_;exact⟨j+1,DropK.mk' IS (Bw (k0:=8) rfl (by repeat(first|exact trivial|refine⟨⟨by first|rfl|exact congrArg (fun es=>some (AObj.row false 1 es)) (qL (Hr hx hd hd0.1)),by first|rfl|exact Ah (fun _ _=>Bo (Au _) _ _)|exact Ah (fun _ _=>Bf (Au _) _ _ _ _)|exact Ah (fun _ _=>Eh (Au _) _ _ _)⟩,?_⟩)) (fun x_=>by(try simp only[hputs]);(repeat(first|refine AC Cy ?_|refine hrm_skip z144q ?_));exact(D5 ev _ _ x_).trans (congrArg some (lm hdn (Hr hx hd hd0.1) x_).symm)) (Md (fun _=>JV _) (fun _=>JU _) (fun _=>JT (Au _) _) (fun _=>JS _))),trivial,by omega⟩
  refine acf ?_;have hjge:x.nexts.length<=j:=by have h:=hb2;simp[AS]at h;omega
  refine wk 2 ?_;refine aq 65 (A2 rfl rfl hkl Be) ?_;refine wk 2 ?_;exact⟨k+1,DropK.mk' IS (Bw (k0:=8) rfl (by repeat(first|exact trivial|refine⟨⟨by first|rfl|exact congrArg (fun A=>some (AObj.row false 1 (Az (aR A) f.blocks.length))) (funext (Hs hx hjge)),by first|rfl|exact Ah (fun _ _=>Bo (Au _) _ _)|exact Ah (fun _ _=>Bf (Au _) _ _ _ _)|exact Ah (fun _ _=>Eh (Au _) _ _ _)⟩,?_⟩)) (fun x_=>by rw[<-Rr (Hs hx hjge)];exact As _ _ _) (Md (fun _=>JV _) (fun _=>JU _) (fun _=>JT (Au _) _) (fun _=>JS _))),hkl,by omega⟩
 refine acf ?_;have hge:f.blocks.length<=k:=by have h:=hb1;simp at h;omega
 refine wk 3 ?_;have hkn:k=f.blocks.length:=by omega
 subst hkn;rw[show aheadP f f.blocks.length 0=AB f from funext fun c=>DA f _ c,bN f];refine wk 7 ?_;refine Bl (γ:=Nat) (kf 8) (fun k=>⟨152,(Aa (Aa (Aa (Aa (Aa AZ 1 (.ptr 0 1 0 0)) 3 (.ptr 2 1 0 0)) 67 (BZ f.blocks)) 68 (.int .i64 (f.blocks.length:Int))) 69 (.int .i64 (k:Int))),(Ig (nb [(.row false 2 [f.cells]),.free,(.row false 8 [qW f R]),(.row false 1 (Az (aR (AB f)) f.blocks.length)),(.row false 1 (Az (oR f.blocks.length R (Dq f k (fun _=>[]))) R)),(.row false 1 (Az (gK f k) f.blocks.length)),.free,.free]) (dK f R (Dq f k (fun _=>[])) k))⟩) (fun k=>k<=f.blocks.length) (fun k=>f.blocks.length-k) 0 (Sub.mk' DB (Ca (k0:=8) rfl pD Gu jQ)) (qZ1 _) (fun g b hb=>BP (k0:=8) rfl hb) ?_;intro k hk;refine wk 5 ?_;refine asp 70 (fun hb3=>?_) fun hb3=>?_
 .
  refine act ?_;have hkl:k<f.blocks.length:=by have h:=hb3;simp at h;exact h
  obtain⟨x,hx⟩:=Af hkl;have hxm:=q33 hx;have hix:=hi x hxm;refine wk 6 ?_;refine aq 72 (Hc Ai (Aw hx)) ?_;refine wk 1 ?_;refine ax 9 (Eg Ai 8) ?_;refine wk 13 ?_;refine dx 82 (AJ Ai (n:=x.ins.length) (m:=x.ins.length) (4*k+1+16) true rfl rfl rfl z145q z145q rfl rfl rfl (by(try simp only[hputs]);(repeat(first|refine AC Cy ?_|refine hrm_skip z144q ?_));exact(As _ _ _).trans (congrArg some ll)) rfl (q68 _) rfl (qZ0 _) (by show 1*x.ins.length<=_;omega) Be) ?_;refine dq 83 (Ae Ai rfl rfl rfl rfl rfl rfl BL (Ap _ _).symm rfl (q46 _) z144q) ?_;refine DOps.w rfl rfl (CQ Ai (p:=false) (sz:=1) (es:=Az (gK f k) f.blocks.length) (cs:=[gK f k k]) rfl rfl rfl rfl rfl rfl BL (Ap _ _).symm pq rfl Aj rfl D9) ?_;refine FP DO [([],[]),([],[]),([],[]),([2],[]),([],[]),([],[]),([8],[]),([],[]),([17],[17]),([5],[]),([5],[5])] yX AF ?_
  refine wk 4 ?_;refine aq 85 (Ar Ai rfl rfl rfl (.ptr _ _ _ _ _ _ _ _ BL rfl rfl) rfl) ?_;refine wk 4 ?_;refine Bl (γ:=Nat) (kf 9) (fun j=>⟨152,(Aa (Aa (Aa (Aa (Aa (Aa (Aa (Aa (Aa (Aa AZ 1 (.ptr 0 1 0 0)) 3 (.ptr 2 1 0 0)) 67 (BZ f.blocks)) 68 (.int .i64 (f.blocks.length:Int))) 69 (.int .i64 (k:Int))) 8 (.int .i64 (k:Int))) 9 (.ptr 8 1 0 0)) 85 (EB x.ins)) 86 (.int .i64 (x.ins.length:Int))) 87 (.int .i64 (j:Int))),(Ig (nb [(.row false 2 [f.cells]),.free,(.row false 8 [qW f R]),(.row false 1 (Az (aR (AB f)) f.blocks.length)),(.row false 1 (Az (oR f.blocks.length R (Dq f k (BG x j []))) R)),(.row false 1 (Az (gK f (k+1)) f.blocks.length)),.free,.free,(.row false 5 [x.cells])]) (dK f R (Dq f k (BG x j [])) (k+1)))⟩) (fun j=>j<=x.ins.length) (fun j=>x.ins.length-j) 0 (Sub.mk' DB (Ca (k0:=9) rfl (by repeat(first|exact trivial|refine⟨⟨by first|rfl|exact congrArg (fun S=>some (AObj.row false 1 (Az (oR _ R S) R))) (Rw f k x)|exact congrArg (fun es=>some (AObj.row false 1 es)) (qv (E1 hx))|((try simp only[hputs]);repeat(first|rfl|exact At _ _ _|refine AC Cy ?_|refine hrm_skip z144q ?_|refine(CV _ QA).trans ?_)),by first|rfl|exact Ah (fun _ _=>Bo (Au _) _ _)|exact Ah (fun _ _=>Bf (Au _) _ _ _ _)|exact Ah (fun _ _=>Eh (Au _) _ _ _)⟩,?_⟩)) (fun x_=>by(try simp only[hputs]);rw[<-Rw f k x];(repeat(first|refine AC Cy ?_|refine hrm_skip z144q ?_));exact(D5 (fun y_=>by(try simp only[hputs]);(repeat(first|refine AC Cy ?_|refine hrm_skip z144q ?_));exact As _ _ _) _ _ x_).trans (congrArg some (gr (E1 hx) x_).symm)) qT)) (qZ1 _) (fun g b hb=>BP (k0:=9) rfl hb) ?_
  intro j hj;refine wk 5 ?_;refine asp 88 (fun hb4=>?_) fun hb4=>?_
  .
   refine act ?_;have hjl:j<x.ins.length:=by have h:=hb4;simp at h;exact h
   obtain⟨t,ht⟩:=Af hjl;have hin:=hs.low x hxm t (q33 ht);refine wk 6 ?_;refine aq 90 (Hc Ai (Aw ht)) ?_;refine wk 1 ?_;refine ax 11 (Eg Ai 9) ?_;refine wk 7 ?_;refine ax 93 (CW Tryz.func81 (Qg _)) ?_;refine wk 4 ?_;refine Bl (γ:=Nat) (kf 10) (fun q=>⟨152,(Aa (Aa (Aa (Aa (Aa (Aa (Aa (Aa (Aa (Aa (Aa (Aa (Aa (Aa (Aa AZ 1 (.ptr 0 1 0 0)) 3 (.ptr 2 1 0 0)) 67 (BZ f.blocks)) 68 (.int .i64 (f.blocks.length:Int))) 69 (.int .i64 (k:Int))) 8 (.int .i64 (k:Int))) 9 (.ptr 8 1 0 0)) 85 (EB x.ins)) 86 (.int .i64 (x.ins.length:Int))) 87 (.int .i64 (j:Int))) 10 (.int .i64 (j:Int))) 11 (.ptr 9 1 0 0)) 93 (AS t.uses)) 94 (.int .i64 (t.uses.length:Int))) 95 (.int .i64 (q:Int))),(Ig (nb [(.row false 2 [f.cells]),.free,(.row false 8 [qW f R]),(.row false 1 (Az (aR (AB f)) f.blocks.length)),(.row false 1 (Az (oR f.blocks.length R (Dq f k (BG x j (t.uses.take q)))) R)),(.row false 1 (Az (gK f (k+1)) f.blocks.length)),.free,.free,(.row false 5 [x.cells]),(.row false 8 [t.cells])]) (dK f R (Dq f k (BG x j (t.uses.take q))) (k+1)))⟩) (fun q=>True) (fun q=>t.uses.length-q) 0 (Sub.mk' DB (Ca (k0:=10) rfl pD Gu K5)) trivial (fun g b hb=>BP (k0:=10) rfl hb) ?_
   intro q _;refine wk 5 ?_;refine asp 96 (fun hb5=>?_) fun hb5=>?_
   .
    refine act ?_;have hql:q<t.uses.length:=by have h:=hb5;simp[AS]at h;exact h
    obtain⟨u,hu⟩:=Af hql;have hub:=hin.2 u (q33 hu);have hub2:u.toNat<R:=by omega
    refine wk 5 ?_;refine aq 97 (Hc Ai (Aw hu)) ?_;refine wk 8 ?_;refine AOps.call 103 (hn:=Fs _ (DH (jH f R (Cw (Dq f k (BG x j (t.uses.take q))) k u.toNat (Bi (Dq f k (BG x j (t.uses.take q)) k u.toNat) j)) (k+1)) (dK f R (Cw (Dq f k (BG x j (t.uses.take q))) k u.toNat (Bi (Dq f k (BG x j (t.uses.take q)) k u.toNat) j)) (k+1)))) (r:=.ptr (4*(u.toNat+R*k)+3+16) (Bi (Dq f k (BG x j (t.uses.take q)) k u.toNat) j).length ((Bi (Dq f k (BG x j (t.uses.take q)) k u.toNat) j).length-1) 0) rfl rfl rfl (EJ (jH f R (Dq f k (BG x j (t.uses.take q))) (k+1)) (jH f R (Cw (Dq f k (BG x j (t.uses.take q))) k u.toNat (Bi (Dq f k (BG x j (t.uses.take q)) k u.toNat) j)) (k+1)) (dK f R (Cw (Dq f k (BG x j (t.uses.take q))) k u.toNat (Bi (Dq f k (BG x j (t.uses.take q)) k u.toNat) j)) (k+1)) rfl Tryz.func82 AF rfl rfl rfl rfl rfl (GJ _ _ _ _) (GJ _ _ _ _) SL Hu (Dx CS f R _ _) (Dx CS f R _ _) (by simp[AV.avoid,AV.flat,CS]) (by have h:=P5 f.blocks.length R (Dq f k (BG x j (t.uses.take q))) u.toNat k j hub2 hkl (Pe f k _ _) (XM z144q) hn (.int .i64 f.regs) (BZ f.blocks) (AO f.nexts) (.ref 3 f.blocks.length 0 f.blocks.length) (.ref 5 f.blocks.length 0 f.blocks.length) .nil .nil (.row false 1 (Az (aR (AB f)) f.blocks.length)) (.row false 1 (Az (gK f (k+1)) f.blocks.length)) .free .free (Tj f.blocks.length (AB f)) (Qy f (k+1) G0);rw[q41 hub.1]at h;first|exact h|(rw[q76];exact h))) ?_
    obtain⟨s,hs1,hs2,hs3⟩:=si_last (CK (Dq f k (BG x j (t.uses.take q)) k u.toNat) j);refine wk 2 ?_;refine AOps.w rfl rfl (o_store Ai (es:=(Bi (Dq f k (BG x j (t.uses.take q)) k u.toNat) j).map Hx) (cs:=Hx s) rfl rfl rfl rfl rfl (by(try simp only[hputs]);exact(Fd _ _ _).trans ((As _ _ _).trans (congrArg some (PR hub2 (CK _ _))))) (q76 _).symm (by rw[q54,hs1];rfl) rfl Aj rfl (fun _=>rfl)) ?_;refine wk 2 ?_;refine aq 106 (A2 rfl rfl hql eF) ?_;refine wk 2 ?_;exact⟨q+1,DropK.mk' IS (Bw (k0:=10) rfl (by repeat(first|exact trivial|refine⟨⟨by first|rfl|exact congrArg (fun es=>some (AObj.row false 1 es)) (Ki GF (XK hu hub.1))|(refine(B3 rfl).trans ?_;exact congrArg (fun es=>some (AObj.row false 1 es)) (Ki GF (XK hu hub.1)))|exact B3 rfl|((try simp only[hputs]);repeat(first|rfl|exact At _ _ _|refine AC Cy ?_|refine hrm_skip z144q ?_|refine(CV _ QA).trans ?_)),by first|rfl|exact Ah (fun _ _=>Bo (Au _) _ _)|exact Ah (fun _ _=>Bf (Au _) _ _ _ _)|exact Ah (fun _ _=>Eh (Au _) _ _ _)⟩,?_⟩)) (fun x_=>(D5 (fun y_=>(Fd _ _ y_).trans (As _ _ _)) _ _ x_).trans (congrArg some (T7 hub2 GF (CK _ _) (XK hu hub.1) hs2 x_).symm)) (Dx (Au _) f R _ _)),trivial,by omega⟩
   refine acf ?_;have hqge:t.uses.length<=q:=by have h:=hb5;simp[AS]at h;omega
   rw[q20 hqge];refine wk 4 ?_;refine ax 108 (CW Tryz.func77 (L9 _)) ?_;refine wk 7 ?_;refine asp 110 (fun hb6=>?_) fun hb6=>?_
   .
    refine act ?_;have hsp:0<=t.sets:=by simpa using hb6
    have hs2_:t.sets.toNat<R:=by have:=hin.1 (E8 (by simpa using hb6));rw[<-JN (E8 (by simpa using hb6))]at this;omega
    refine wk 5 ?_;refine AOps.call 115 (hn:=Fs _ (DH (jH f R (Cw (Dq f k (BG x j t.uses)) k t.sets.toNat (Bi (Dq f k (BG x j t.uses) k t.sets.toNat) j)) (k+1)) (dK f R (Cw (Dq f k (BG x j t.uses)) k t.sets.toNat (Bi (Dq f k (BG x j t.uses) k t.sets.toNat) j)) (k+1)))) (r:=.ptr (4*(t.sets.toNat+R*k)+3+16) (Bi (Dq f k (BG x j t.uses) k t.sets.toNat) j).length ((Bi (Dq f k (BG x j t.uses) k t.sets.toNat) j).length-1) 0) rfl rfl rfl (EJ (jH f R (Dq f k (BG x j t.uses)) (k+1)) (jH f R (Cw (Dq f k (BG x j t.uses)) k t.sets.toNat (Bi (Dq f k (BG x j t.uses) k t.sets.toNat) j)) (k+1)) (dK f R (Cw (Dq f k (BG x j t.uses)) k t.sets.toNat (Bi (Dq f k (BG x j t.uses) k t.sets.toNat) j)) (k+1)) rfl Tryz.func82 AF rfl rfl rfl rfl rfl (GJ _ _ _ _) (GJ _ _ _ _) SL Hu (Dx CS f R _ _) (Dx CS f R _ _) (by simp[AV.avoid,AV.flat,CS]) (by have h:=P5 f.blocks.length R (Dq f k (BG x j t.uses)) t.sets.toNat k j hs2_ hkl (Pe f k _ _) (XM z144q) hn (.int .i64 f.regs) (BZ f.blocks) (AO f.nexts) (.ref 3 f.blocks.length 0 f.blocks.length) (.ref 5 f.blocks.length 0 f.blocks.length) .nil .nil (.row false 1 (Az (aR (AB f)) f.blocks.length)) (.row false 1 (Az (gK f (k+1)) f.blocks.length)) .free .free (Tj f.blocks.length (AB f)) (Qy f (k+1) G0);rw[q41 hsp]at h;first|exact h|(rw[q76];exact h))) ?_
    obtain⟨s,hs1,hs2,hs3⟩:=si_last (CK (Dq f k (BG x j t.uses) k t.sets.toNat) j);refine wk 2 ?_;refine AOps.w rfl rfl (o_store Ai (es:=(Bi (Dq f k (BG x j t.uses) k t.sets.toNat) j).map Hx) (cs:=Hx s) rfl rfl rfl rfl rfl (by(try simp only[hputs]);exact(Fd _ _ _).trans ((As _ _ _).trans (congrArg some (PR hs2_ (CK _ _))))) (q76 _).symm (by rw[q54,hs1];rfl) rfl Aj rfl (fun _=>rfl)) ?_;refine wk 2 ?_;refine aq 118 (A2 rfl rfl hjl Be) ?_;refine wk 2 ?_;exact⟨j+1,DropK.mk' IS (Bw (k0:=9) rfl (by repeat(first|exact trivial|refine⟨⟨by first|rfl|exact congrArg (fun es=>some (AObj.row false 1 es)) (Ki M2 (XL ht hsp))|(refine(B3 rfl).trans ?_;exact congrArg (fun es=>some (AObj.row false 1 es)) (Ki M2 (XL ht hsp)))|exact B3 rfl|((try simp only[hputs]);repeat(first|rfl|exact At _ _ _|refine AC Cy ?_|refine hrm_skip z144q ?_|refine(CV _ QA).trans ?_)),by first|rfl|exact Ah (fun _ _=>Bo (Au _) _ _)|exact Ah (fun _ _=>Bf (Au _) _ _ _ _)|exact Ah (fun _ _=>Eh (Au _) _ _ _)⟩,?_⟩)) (fun x_=>(D5 (fun y_=>(Fd _ _ y_).trans (As _ _ _)) _ _ x_).trans (congrArg some (T7 hs2_ M2 (CK _ _) (XL ht hsp) hs3 x_).symm)) (Dx (Au _) f R _ _)),hjl,by omega⟩
   refine acf ?_;have hsp:¬0<=t.sets:=by simpa using hb6
   refine wk 2 ?_;refine aq 118 (A2 rfl rfl hjl Be) ?_;refine wk 2 ?_;exact⟨j+1,DropK.mk' IS (Bw (k0:=9) rfl (by repeat(first|exact trivial|refine⟨⟨by first|rfl|exact congrArg (fun S=>some (AObj.row false 1 (Az (oR _ R S) R))) (Vf ht hsp),by first|rfl|exact Ah (fun _ _=>Bo (Au _) _ _)|exact Ah (fun _ _=>Bf (Au _) _ _ _ _)|exact Ah (fun _ _=>Eh (Au _) _ _ _)⟩,?_⟩)) (fun x_=>by rw[<-Vf ht hsp];exact As _ _ _) (Dx (Au _) f R _ _)),hjl,by omega⟩
  refine acf ?_;have hje:j=x.ins.length:=by have h:=hb4;simp at h;omega
  subst hje;refine wk 7 ?_;refine asp 121 (fun hb7=>?_) fun hb7=>?_
  .
   refine act ?_;have hfin:x.fin=2:=by simpa using hb7
   have hv2:=hs.fin x hxm hfin;have hv3:x.v.toNat<R:=by omega
   refine wk 8 ?_;refine AOps.call 129 (hn:=Fs _ (DH (jH f R (Cw (Dq f k (BG x x.ins.length [])) k x.v.toNat (Bi (Dq f k (BG x x.ins.length []) k x.v.toNat) x.ins.length)) (k+1)) (dK f R (Cw (Dq f k (BG x x.ins.length [])) k x.v.toNat (Bi (Dq f k (BG x x.ins.length []) k x.v.toNat) x.ins.length)) (k+1)))) (r:=.ptr (4*(x.v.toNat+R*k)+3+16) (Bi (Dq f k (BG x x.ins.length []) k x.v.toNat) x.ins.length).length ((Bi (Dq f k (BG x x.ins.length []) k x.v.toNat) x.ins.length).length-1) 0) rfl rfl rfl (EJ (jH f R (Dq f k (BG x x.ins.length [])) (k+1)) (jH f R (Cw (Dq f k (BG x x.ins.length [])) k x.v.toNat (Bi (Dq f k (BG x x.ins.length []) k x.v.toNat) x.ins.length)) (k+1)) (dK f R (Cw (Dq f k (BG x x.ins.length [])) k x.v.toNat (Bi (Dq f k (BG x x.ins.length []) k x.v.toNat) x.ins.length)) (k+1)) rfl Tryz.func82 AF rfl rfl rfl rfl rfl (GJ _ _ _ _) (GJ _ _ _ _) SL Hu (Dx CS f R _ _) (Dx CS f R _ _) (by simp[AV.avoid,AV.flat,CS]) (by have h:=P5 f.blocks.length R (Dq f k (BG x x.ins.length [])) x.v.toNat k x.ins.length hv3 hkl (Pe f k _ _) (XM z144q) hn (.int .i64 f.regs) (BZ f.blocks) (AO f.nexts) (.ref 3 f.blocks.length 0 f.blocks.length) (.ref 5 f.blocks.length 0 f.blocks.length) .nil .nil (.row false 1 (Az (aR (AB f)) f.blocks.length)) (.row false 1 (Az (gK f (k+1)) f.blocks.length)) .free .free (Tj f.blocks.length (AB f)) (Qy f (k+1) G0);rw[q41 hv2.1]at h;first|exact h|(rw[q76];exact h))) ?_
   obtain⟨s,hs1,hs2,hs3⟩:=si_last (CK (Dq f k (BG x x.ins.length []) k x.v.toNat) x.ins.length);refine wk 2 ?_;refine AOps.w rfl rfl (o_store Ai (es:=(Bi (Dq f k (BG x x.ins.length []) k x.v.toNat) x.ins.length).map Hx) (cs:=Hx s) rfl rfl rfl rfl rfl (by(try simp only[hputs]);exact(Fd _ _ _).trans ((As _ _ _).trans (congrArg some (PR hv3 (CK _ _))))) (q76 _).symm (by rw[q54,hs1];rfl) rfl Aj rfl (fun _=>rfl)) ?_;refine wk 2 ?_;refine aq 132 (A2 rfl rfl hkl Be) ?_;refine wk 2 ?_;exact⟨k+1,DropK.mk' IS (Bw (k0:=8) rfl (by repeat(first|exact trivial|refine⟨⟨by first|rfl|exact congrArg (fun es=>some (AObj.row false 1 es)) (Ki GF (XN hx hfin hv2.1))|(refine(B3 rfl).trans ?_;exact congrArg (fun es=>some (AObj.row false 1 es)) (Ki GF (XN hx hfin hv2.1)))|exact B3 rfl|((try simp only[hputs]);repeat(first|rfl|exact At _ _ _|refine AC Cy ?_|refine hrm_skip z144q ?_|refine(CV _ QA).trans ?_)),by first|rfl|exact Ah (fun _ _=>Bo (Au _) _ _)|exact Ah (fun _ _=>Bf (Au _) _ _ _ _)|exact Ah (fun _ _=>Eh (Au _) _ _ _)⟩,?_⟩)) (fun x_=>(D5 (fun y_=>(Fd _ _ y_).trans (As _ _ _)) _ _ x_).trans (congrArg some (T7 hv3 GF (CK _ _) (XN hx hfin hv2.1) hs2 x_).symm)) (Dx (Au _) f R _ _)),hkl,by omega⟩
  refine acf ?_;have hfin:¬x.fin=2:=by simpa using hb7
  refine wk 2 ?_;refine aq 132 (A2 rfl rfl hkl Be) ?_;refine wk 2 ?_;exact⟨k+1,DropK.mk' IS (Bw (k0:=8) rfl (by repeat(first|exact trivial|refine⟨⟨by first|rfl|exact congrArg (fun S=>some (AObj.row false 1 (Az (oR _ R S) R))) (Vg hx hfin),by first|rfl|exact Ah (fun _ _=>Bo (Au _) _ _)|exact Ah (fun _ _=>Bf (Au _) _ _ _ _)|exact Ah (fun _ _=>Eh (Au _) _ _ _)⟩,?_⟩)) (fun x_=>by rw[<-Vg hx hfin];exact As _ _ _) (Dx (Au _) f R _ _)),hkl,by omega⟩
 refine acf ?_;have hge:f.blocks.length<=k:=by have h:=hb3;simp at h;omega
 refine wk 2 ?_;have hkn:k=f.blocks.length:=by omega
 subst hkn;rw[lq,qw];refine wk 4 ?_;refine ax 136 (AJ Ai (n:=R) (m:=R) 7 true rfl rfl rfl hRf hRf rfl rfl rfl rfl rfl (q68 _) rfl (qZ0 _) (by show 1*R<=_;omega) Be) ?_;refine wk 6 ?_;refine AGo.ghost (.dryCell 2 0 6 6 1 true rfl rfl rfl rfl rfl Aj) ?_;refine wk 9 ?_;refine Bl (γ:=Nat) (kf 8) (fun k=>⟨152,(Aa (Aa (Aa (Aa AZ 1 (.ptr 0 1 0 0)) 3 (.ptr 2 1 0 0)) 143 (.int .i64 (R:Int))) 144 (.int .i64 (k:Int))),(Ig (nb [(.row false 2 [f.cells]),.free,(.row false 8 [Ug f R ((List.range k).map BN).length (k)]),(.row false 1 (Az (aR (AB f)) f.blocks.length)),(.row false 1 (Az (oR f.blocks.length R (SB f)) R)),(.row false 1 (Az (gR f) f.blocks.length)),(.row true 1 ((List.range k).map BN)),(.row true 1 (bC R (fun b=>decide (b<k))))]) (DF f R (SB f) G0))⟩) (fun k=>k<=R) (fun k=>R-k) 0 (Sub.mk' DB (Ca (k0:=8) rfl (by repeat(first|exact trivial|refine⟨⟨by first|rfl|exact congrArg (fun es=>some (AObj.row true 1 es)) (ju R),by first|rfl|exact Ah (fun _ _=>Bo (Au _) _ _)|exact Ah (fun _ _=>Bf (Au _) _ _ _ _)|exact Ah (fun _ _=>B9 (Au _) _ _)⟩,?_⟩)) Gu jQ)) (qZ1 _) (fun g b hb=>BP (k0:=8) rfl hb) ?_
 intro k hk;refine wk 5 ?_;refine asp 145 (fun hb8=>?_) fun hb8=>?_
 .
  refine act ?_;have hkl:k<R:=by have h:=hb8;simp at h;exact h
  refine wk 11 ?_;refine AOps.call 149 (hn:=Fs _ (DH (IV f R (SB f) ((List.range (k+1)).map BN) (k+1) (fun b=>decide (b<k+1))) (DF f R (SB f) G0))) (r:=.tup []) rfl rfl rfl (EJ (IV f R (SB f) ((List.range k).map BN) (k) (fun b=>decide (b<k))) (IV f R (SB f) ((List.range (k+1)).map BN) (k+1) (fun b=>decide (b<k+1))) (DF f R (SB f) G0) rfl Tryz.func83 AF rfl rfl rfl rfl rfl (Cm _ _ _ _ _ _) (Cm _ _ _ _ _ _) SL Hu (Bn CS f R _ _) (Bn CS f R _ _) rfl (by have h:=Wc f R (SB f) G0 ((List.range k).map BN) k (fun b=>decide (b<k)) k hkl hR z145q Df;rw[Pb,RU,Mm]at h;exact h)) ?_;refine wk 2 ?_;refine aq 150 (A2 rfl rfl hkl Be) ?_;refine wk 2 ?_;exact⟨k+1,DropK.mk' IS (Bw (k0:=8) rfl sL (fun x_=>(Fd _ _ x_).trans (As _ _ _)) (Bn (Au _) f R _ _)),hkl,by omega⟩
 refine acf ?_;have hge:R<=k:=by have h:=hb8;simp at h;omega
 refine wk 7 ?_;have hkn:k=R:=by omega
 subst hkn;exact⟨[_],⟨rfl,trivial⟩,rfl,(M6 rfl Uk Hu)⟩
theorem lZ(f:BFunc)(R:Nat)(S:Da)(G:GG)(es:List (List AV))(len:Nat)(w:Nat->Bool)(i:Nat)(x:Block)(hx:f.blocks[i]?=some x)(j:Nat)(hj:j<x.ins.length):ACall Tryz.prog 61 [.int .i64 (j:Int),.ptr 8 1 0 0,.ptr 12 1 0 0] (WS f R S G es len w i) (fun r h'=>r=.bool (G i j)/\HSub (Lx kW hNone (WS f R S G es len w i)) h'):=by
 have hb:i<f.blocks.length:=(q05.1 hx).1;refine ACall.of_body (n:=15) Ai Tryz.func61 rfl rfl ?_;refine wk 11 ?_;refine dq 10 (Ae Ai rfl rfl rfl rfl rfl rfl rfl (Ap _ _).symm rfl (q46 _) z144q) ?_;refine dq 11 (Ar Ai rfl rfl rfl (.ptr _ _ _ _ _ _ _ [gR f i] rfl (Ap _ _).symm Mj) rfl) ?_;refine wk 1 ?_;refine dq 13 (Ae Ai rfl rfl rfl rfl rfl rfl ((As _ _ _).trans (congrArg some (XF hb hx))) QW rfl (q46 _) (by rw[E1 hx];omega)) ?_;refine dq 14 (Ar Ai rfl rfl rfl (.ptr _ _ _ _ true 1 (bC x.ins.length (G i)) [.bool (G i j)] ((As _ _ _).trans (congrArg some (XF hb hx))) QW (by rw[qQ8,q55];exact DN hj)) rfl) ?_;refine wk 3 ?_;exact⟨[_],⟨rfl,trivial⟩,rfl,Vb (Z9 rfl rfl rfl rfl rfl rfl rfl rfl eC)⟩
theorem WP(f:BFunc)(R:Nat)(S:Da)(G:GG)(es:List (List AV))(len:Nat)(w:Nat->Bool)(i:Nat)(x:Block)(hx:f.blocks[i]?=some x)(hi:x.ins.length<=100000):ACall Tryz.prog 60 [EB x.ins,(.fn (.func 61) [] [.ptr 8 1 0 0,.ptr 12 1 0 0])] (WS f R S G es len w i) (fun r h'=>r=EB (EP (G i) x.ins 0)/\HSub (Lx kW hNone (WS f R S G es len w i)) h'):=by
 refine ACall.of_body (n:=28) Ai Tryz.func60 rfl rfl ?_;refine wk 8 ?_;refine ax 10 (AJ Ai (n:=0) (m:=x.ins.length) 9 true rfl rfl rfl (rfl) z145q rfl rfl rfl rfl rfl (q68 _) rfl (qZ1 _) (by show 64*x.ins.length<=_;omega) Be) ?_;refine wk 10 ?_;refine Bl (γ:=Nat) (kf 13) (fun j=>⟨28,(Aa (Aa (Aa (Aa (Aa AZ 1 (.fn (.func 61) [] [.ptr 8 1 0 0,.ptr 12 1 0 0])) 5 (.ref 9 (EP (G i) (x.ins.take j) 0).length 0 (EP (G i) (x.ins.take j) 0).length)) 11 (EB x.ins)) 12 (.int .i64 (x.ins.length:Int))) 13 (.int .i64 (j:Int))),(Ig (nb [.free,.free,(.row false 8 [Ug f R (es).length (len)]),(.row false 1 (Az (aR (AB f)) f.blocks.length)),(.row false 1 (Az (oR f.blocks.length R S) R)),(.row false 1 (Az (gR f) f.blocks.length)),(.row true 1 (es)),(.row true 1 (bC R (w))),ArW,(.row true 8 ((EP (G i) (x.ins.take j) 0).map Tac.cells)),.free,.free,(y5 i)]) (DF f R S G))⟩) (fun j=>j<=x.ins.length) (fun j=>x.ins.length-j) 0 (Sub.mk' DB (Ca (k0:=13) rfl pC Gu sF)) (qZ1 _) (fun g b hb=>BP (k0:=13) rfl hb) ?_
 intro j hj;refine wk 5 ?_;refine asp 14 (fun hb1=>?_) fun hb1=>?_
 .
  refine act ?_;have hjl:j<x.ins.length:=by have h:=hb1;simp at h;exact h
  obtain⟨t,ht⟩:=Af hjl;refine wk 6 ?_;refine aq 16 (Hc Ai (Aw ht)) ?_;refine wk 1 ?_;refine ax 7 (Eg Ai 13) ?_;refine wk 7 ?_;refine AOps.call 20 (hn:=_) (r:=.bool (G i j)) rfl rfl rfl (gV (W:=(WS f R S G es len w i)) kW rfl rfl Tryz.func61 AF rfl rfl rfl (Z9 BL BL BL BL BL BL BL BL sE) (Wn f R S G es len w i) ac rfl (lZ f R S G es len w i x hx j hjl)) ?_;refine wk 2 ?_;refine asp 21 (fun hb2=>?_) fun hb2=>?_
  .
   refine act ?_;have hg:G i j=false:=by have h:=hb2;simpa using h
   refine wk 3 ?_;refine ax 24 (BU Ai rfl rfl rfl rfl rfl rfl Aj rfl rfl rfl rfl rfl rfl) ?_;refine ax 25 (o_append Ai (n:=(EP (G i) (x.ins.take j) 0).length) (m:=1) (es:=(EP (G i) (x.ins.take j) 0).map Tac.cells) rfl rfl rfl rfl rfl rfl rfl rfl rfl (by rw[q76]) rfl rfl (q68 _) (.lst _ _) QY au rfl (by have h1:=Ob (G i) (x.ins.take j) 0;rw[q69]at h1;simp[partVals];omega) (by have h1:=Ob (G i) (x.ins.take j) 0;rw[q69]at h1;simp[partVals];simp only[maxLen];omega)) ?_;refine wk 3 ?_;exact rM
  refine acf ?_;have hg:G i j=true:=by have h:=hb2;simpa using h
  refine wk 2 ?_;exact rM
 refine acf ?_;have hje:j=x.ins.length:=by have h:=hb1;simp at h;omega
 subst hje;refine wk 2 ?_;refine AGo.ghost (.freeze 5 9 rfl rfl (by rw[q76])) ?_;refine wk 5 ?_;refine⟨[_],⟨rfl,trivial⟩,?_,Vb (Z9 BL BL BL BL BL BL BL BL (fun x_=>by dsimp only;rw[FJ _ z144q];exact As _ _ _))⟩;show AV.lst false _=AV.lst false _;rw[q71,q95,q20 (by rw[q76];exact qZ0 _)]
theorem cY(f:BFunc)(hs:f.sane)(hn0:0<f.blocks.length)(hn:f.blocks.length<=100000)(hr:f.regs<=100000)(hi:∀x∈f.blocks,x.ins.length<=100000):APure Tryz.prog 43 [.agg f.cells] (fun r=>r=.tup [.agg (NN f).cells,.agg [OZ (EF (NN f))]]):=by
 have hr0:=hs.regs;obtain⟨R,hRf⟩:∃R:Nat,f.regs=(R:Int):=⟨f.regs.toNat,by omega⟩
 have hR:R<=100000:=by omega
 refine APure.of_body (n:=83) Ai Tryz.func43 rfl rfl ?_;refine HG ?_;refine ax 1 (D4 2 0) ?_;refine ax 2 (Eg Ai 1) ?_;refine ax 3 (Eg Ai 9) ?_;refine wk 4 ?_;refine AOps.call 10 (hn:=Fs _ (DH (IV f R (SB f) ((List.range R).map BN) (R) (fun b=>decide (b<R))) (DF f R (SB f) G0))) (r:=.ptr 2 1 0 0) rfl rfl rfl (gT (W:=hNew) (W':=(DH (IV f R (SB f) ((List.range R).map BN) (R) (fun b=>decide (b<R))) (DF f R (SB f) G0))) kD rfl Tryz.func58 AF rfl rfl rfl (fun b hb=>by have:=Tz hb;(try simp only[hputs]);show _=some AObj.free;(repeat(first|refine AC Cy ?_|refine hrm_skip z144q ?_));rfl) (fun b hb=>⟨.free,rfl,rfl⟩) (fun b hb=>rfl) (fun b hb=>Qr rfl (Cm _ _ _ _ _ _) (Bn CS f R _ _) hb) rfl (newSearch_ok f hs R hRf hR hn hi)) ?_;refine ax 4 (Eg Ai 8) ?_;refine wk 4 ?_;refine Bl (γ:=RSd) (kf 10) (fun st=>⟨83,(Aa (Aa (Aa (Aa AZ 1 (.ptr 0 1 0 0)) 2 (.ptr 1 1 0 0)) 3 (.ptr 9 1 0 0)) 4 (.ptr 8 1 0 0)),(Ig (nb [(.row false 2 [f.cells]),(.row false 2 [[.int .i64 0,.nil]]),(.row false 8 [Ug f R (st.es).length (st.ws.length)]),(.row false 1 (Az (aR (AB f)) f.blocks.length)),(.row false 1 (Az (oR f.blocks.length R (SB f)) R)),(.row false 1 (Az (gR f) f.blocks.length)),(.row true 1 (st.es)),(.row true 1 (bC R (st.w))),ArW,(.row false 1 [[.nil]])]) (DF f R (SB f) st.G))⟩) (fun st=>SI f R st) (fun st=>qU f R st) (qV R) (Sub.mk' B5 (Ca (k0:=10) rfl (by repeat(first|exact trivial|refine⟨⟨by first|rfl|exact B3 rfl|exact kZ,by first|rfl|exact Ah (fun _ _=>Bo (Au _) _ _)|exact Ah (fun _ _=>Bf (Au _) _ _ _ _)|exact Ah (fun _ _=>B9 (Au _) _ _)⟩,?_⟩)) Hu K5)) (SI.first hs hRf) (fun g b hb=>BP (k0:=10) rfl hb) ?_
 intro st hQ;obtain⟨G,w,ws,es⟩:=st;dsimp only at hQ|-;refine wk 10 ?_;refine asp 16 (fun hb1=>?_) fun hb1=>?_
 .
  refine act ?_;obtain⟨ws',v,hws⟩:∃ws' v,ws=ws'++[v]:=by
   rcases Fz ws with h|h
   . have h2:=hb1;rw[h]at h2;simp at h2
   . exact h
  subst hws;have hpop:=hQ.q.wt.pop;have hv:=hpop.2.1;refine wk 13 ?_;refine dq 26 (A1 (r:=.int .i64 (ws'.length:Int)) rfl rfl rfl (LA (by have:=hQ.q.wt.le;simp at this;omega))) ?_;refine dq 27 (Ae Ai rfl rfl rfl rfl rfl rfl rfl rfl rfl (q46 _) Df) ?_;refine dq 28 (Ar Ai rfl rfl rfl (.ptr _ _ _ _ _ _ _ (BN v) rfl rfl (by rw[qQ8,q55];exact hQ.q.st.get)) rfl) ?_;refine wk 14 ?_;refine dq 39 (A1 (r:=.int .i64 (ws'.length:Int)) rfl rfl rfl (LA (by have:=hQ.q.wt.le;simp at this;omega))) ?_;refine dq 40 (FZ Ai (es:=es) (m:=ws'.length) rfl rfl rfl rfl rfl rfl rfl rfl rfl z145q) ?_;refine wk 11 ?_;refine aq 48 (Ae Ai rfl rfl rfl rfl rfl rfl rfl (Ap _ _).symm rfl (q46 _) z144q) ?_;refine AOps.w rfl rfl (o_store Ai rfl rfl rfl rfl rfl rfl (Ap _ _).symm ay rfl Aj rfl E4) ?_;refine wk 4 ?_;refine AOps.call 51 (hn:=Fs _ (DH (IV f R (SB f) ((Io f v (⟨G,CH w v false,ws',es⟩:RSd)).es) ((Io f v (⟨G,CH w v false,ws',es⟩:RSd)).ws.length) ((Io f v (⟨G,CH w v false,ws',es⟩:RSd)).w)) (DF f R (SB f) (Io f v (⟨G,CH w v false,ws',es⟩:RSd)).G))) (r:=.tup []) rfl rfl rfl (EJ (IV f R (SB f) es ws'.length (CH w v false)) (IV f R (SB f) (Io f v (⟨G,CH w v false,ws',es⟩:RSd)).es (Io f v (⟨G,CH w v false,ws',es⟩:RSd)).ws.length (Io f v (⟨G,CH w v false,ws',es⟩:RSd)).w) (DF f R (SB f) (Io f v (⟨G,CH w v false,ws',es⟩:RSd)).G) rfl Tryz.func59 AF rfl rfl rfl rfl rfl (Cm _ _ _ _ _ _) (Cm _ _ _ _ _ _) sw Hu (Bn CS f R _ _) (Bn CS f R _ _) rfl (TU f hs R hRf (⟨G,CH w v false,ws',es⟩:RSd) ⟨hpop.1,hQ.q.st.pop⟩ v hv hn hR hi)) ?_
  refine an ?_;exact⟨(Io f v (⟨G,CH w v false,ws',es⟩:RSd)),DropK.mk' IS (Bw (k0:=10) rfl sL Hu (Bn (Au _) f R _ _)),(hQ.reg hs hRf rfl).1,(hQ.reg hs hRf rfl).2⟩
 refine acf ?_;have hws:ws=[]:=by
  rcases Fz ws with h|⟨L,b,h⟩
  . exact h
  . have h2:=hb1;rw[h]at h2;simp at h2
 subst hws;have hdn:CB f G=NN f:=hQ.done hs hRf rfl;refine wk 8 ?_;refine dx 57 (AJ Ai (n:=f.blocks.length) (m:=f.blocks.length) 11 true rfl rfl rfl z145q z145q rfl rfl rfl rfl rfl (q68 _) rfl (qZ0 _) (by show 56*f.blocks.length<=_;omega) Be) ?_;refine wk 1 ?_;refine dx 6 (Eg Ai 10) ?_;refine wk 11 ?_;refine Bl (γ:=Nat) (kf 12) (fun k=>⟨83,(Aa (Aa (Aa (Aa (Aa (Aa (Aa (Aa AZ 1 (.ptr 0 1 0 0)) 2 (.ptr 1 1 0 0)) 3 (.ptr 9 1 0 0)) 4 (.ptr 8 1 0 0)) 6 (.ptr 10 1 0 0)) 60 (BZ f.blocks)) 61 (.int .i64 (f.blocks.length:Int))) 62 (.int .i64 (k:Int))),(Ig (nb [(.row false 2 [f.cells]),(.row false 2 [[.int .i64 0,.nil]]),(.row false 8 [Ug f R (es).length (([]:List Nat).length)]),(.row false 1 (Az (aR (AB f)) f.blocks.length)),(.row false 1 (Az (oR f.blocks.length R (SB f)) R)),(.row false 1 (Az (gR f) f.blocks.length)),(.row true 1 (es)),(.row true 1 (bC R (w))),ArW,(.row false 1 [[.nil]]),(.row false 2 [[.int .i64 f.regs,.ref 11 f.blocks.length 0 f.blocks.length]]),(.row true 5 (((CB f G).blocks.take k).map Block.cells++List.replicate (f.blocks.length-k) [.nil,.int .i64 0,.int .i64 0,.int .i64 0,.int .i64 0]))]) (DF f R (SB f) G))⟩) (fun k=>k<=f.blocks.length) (fun k=>f.blocks.length-k) 0 (Sub.mk' DB (Ca (k0:=12) rfl pC Gu (fun c h1 h2=>by rcases(by omega:c=12\/c=13\/c=14\/c=15)with rfl|rfl|rfl|rfl<;>first|rfl|(try simp only[hputs];repeat(first|rfl|refine AC Cy ?_|refine hrm_skip z144q ?_))))) (qZ1 _) (fun g b hb=>BP (k0:=12) rfl hb) ?_
 intro k hk;refine wk 5 ?_;refine asp 63 (fun hb2=>?_) fun hb2=>?_
 .
  refine act ?_;have hkl:k<f.blocks.length:=by have h:=hb2;simp at h;exact h
  obtain⟨x,hx⟩:=Af hkl;have hxm:=q33 hx;refine wk 6 ?_;refine aq 65 (Hc Ai (Aw hx)) ?_;refine wk 1 ?_;refine ax 7 (Eg Ai 12) ?_;refine ax 8 (Eg Ai 13) ?_;refine wk 7 ?_;refine aq 69 (GO rfl rfl rfl) ?_;refine AOps.call 70 (hn:=_) (r:=EB (EP (G k) x.ins 0)) rfl rfl rfl (gU (W:=WS f R (SB f) G es ([]:List Nat).length w k) kW rfl Tryz.func60 AF rfl rfl rfl (Z9 BL BL BL BL BL BL BL BL sE) (Wn f R (SB f) G es _ w k) ac rfl (WP f R (SB f) G es _ w k x hx (hi x hxm))) ?_;refine wk 8 ?_;refine aq 76 (Ae Ai rfl rfl rfl rfl rfl rfl rfl (AG (cutF_len f G) (qX0 hkl)) rfl (q46 _) z144q) ?_;refine AOps.w rfl rfl (o_store Ai rfl rfl rfl rfl rfl rfl (AG (cutF_len f G) (qX0 hkl)) (fill_get (cutF_len f G) hkl) rfl Aj rfl E4) ?_;refine wk 2 ?_;refine aq 77 (A2 rfl rfl hkl Be) ?_;refine wk 2 ?_;exact⟨k+1,DropK.mk' IS (Bw (k0:=12) rfl (by repeat(first|exact trivial|refine⟨⟨by first|rfl|exact congrArg (fun es=>some (AObj.row true 5 es)) (B4 (f:=Block.cells) (x:=x.mid (EP (G k) x.ins 0)) (cutF_len f G) (F8 hx)),by first|rfl|exact Ah (fun _ _=>Bo (Au _) _ _)|exact Ah (fun _ _=>Bf (Au _) _ _ _ _)|exact Ah (fun _ _=>B9 (Au _) _ _)⟩,?_⟩)) Gu (Bn (Au _) f R _ _)),hkl,by omega⟩
 refine acf ?_;have hge:f.blocks.length<=k:=by have h:=hb2;simp at h;omega
 refine wk 2 ?_;refine AGo.ghost (.freezeCell 10 0 1 11 rfl rfl rfl rfl (AG (cutF_len f G) hk) Aj) ?_;rw[CU (f:=Block.cells) (z:=[.nil,.int .i64 0,.int .i64 0,.int .i64 0,.int .i64 0]) (cutF_len f G) hge];refine wk 3 ?_;refine dx 80 (CW Tryz.func62 (lM (CB f G) (cZ hQ.c hs) (by rw[cutF_len];exact hn0) (by rw[cutF_len];exact hn) hr (i7 hi))) ?_;refine dq 81 (ZD Ai rfl rfl rfl rfl rfl rfl rfl rfl) ?_;refine wk 5 ?_;refine⟨[_,_],⟨⟨_,_,_,_,rfl,rfl,.ptr _ _ _ _ _ _ _ _ rfl rfl rfl,rfl⟩,⟨_,_,_,_,rfl,rfl,.ptr _ _ _ _ _ _ _ _ rfl rfl rfl,rfl⟩,trivial⟩,?_,rfl⟩;rw[<-hdn];rfl
end Go.Proofs.YtbbfelelocccmaaGreat.Sv
