/-
  WALKS: printed by a program of our own from the code's tree.
-/
import Derived.Test.YtbbfelelocccmaaGreatPOptimizeSplits3
import Derived.Test.YtbbfelelocccmaaGreatPOptimizeSplits2
import Derived.Test.YtbbfelelocccmaaGreatPOptimizeSplits4
import Derived.Test.YtbbfelelocccmaaGreatPOptimizeSplits6
import Derived.Test.YtbbfelelocccmaaGreatPOptimizeSplits5
import Derived.RangeFuncFrom
import Derived.TacticsIn
import Derived.RangeFuncLeaves
import Derived.RangeFuncKeeps
import Derived.Shelf.Abstract
import Derived.WalkKit
import Derived.OwnWalkIn
import Derived.TacticsInMore
import Derived.LoopNIn
import Derived.LoopIn
set_option linter.unusedVariables false
set_option linter.unusedSimpArgs false
set_option maxRecDepth 100000
set_option maxHeartbeats 2000000
namespace Go.Proofs.YtbbfelelocccmaaGreat.Sv
open Go
theorem dc(t:Tac):APure Tryz.prog 74 [.agg t.cells] (fun r=>r= .int .i64 t.sets):=by
 refine APure.of_body (n:=14) Ah Tryz.func74 rfl rfl ?_;refine LN ?_;refine ax 1 (Fx 8 0) ?_;refine wk 15 ?_;refine asp 5 (fun hb1=>?_) fun hb1=>?_
 .
  refine wk 9 ?_;exact TZ
 refine wk 6 ?_;refine asp 5 (fun hb2=>?_) fun hb2=>?_
 .
  refine wk 9 ?_;exact TZ
 refine wk 6 ?_;refine asp 5 (fun hb3=>?_) fun hb3=>?_
 .
  refine wk 9 ?_;exact TZ
 refine wk 6 ?_;refine asp 5 (fun hb4=>?_) fun hb4=>?_
 .
  refine wk 9 ?_;exact TZ
 refine wk 6 ?_;refine asp 5 (fun hb5=>?_) fun hb5=>?_
 .
  refine wk 9 ?_;exact TZ
 refine wk 5 ?_;refine asp 5 (fun hb6=>?_) fun hb6=>?_
 .
  refine wk 7 ?_;exact TZ
 refine wk 6 ?_;exact TZ
theorem cV(t:Tac):APure Tryz.prog 75 [.agg t.cells] (fun r=>r=AM t.uses):=by
 refine APure.of_body (n:=21) Ah Tryz.func75 rfl rfl ?_;refine LN ?_;refine ax 1 (Fx 8 0) ?_;refine wk 15 ?_;refine asp 5 (fun hb1=>?_) fun hb1=>?_
 .
  refine wk 7 ?_;exact cF
 refine wk 6 ?_;refine asp 5 (fun hb2=>?_) fun hb2=>?_
 .
  refine wk 7 ?_;exact cF
 refine wk 6 ?_;refine asp 5 (fun hb3=>?_) fun hb3=>?_
 .
  refine wk 7 ?_;exact cF
 refine wk 5 ?_;refine asp 5 (fun hb4=>?_) fun hb4=>?_
 .
  refine wk 5 ?_;exact cF
 refine wk 7 ?_;refine asp 13 (fun hb5=>?_) fun hb5=>?_
 .
  refine wk 9 ?_;refine ax 20 (Cq Ah rfl rfl rfl rfl rfl rfl (by decide) rfl rfl rfl rfl rfl rfl) ?_;refine wk 2 ?_;exact cH
 refine wk 5 ?_;refine asp 13 (fun hb6=>?_) fun hb6=>?_
 .
  refine wk 7 ?_;refine ax 20 (Cq Ah rfl rfl rfl rfl rfl rfl (by decide) rfl rfl rfl rfl rfl rfl) ?_;refine wk 2 ?_;exact cH
 refine wk 6 ?_;refine AGo.ghost (.empty 2 rfl) ?_;exact cH
theorem B2(i j:Int):APure Tryz.prog 73 [.int .i64 i,.int .i64 j] (fun r=>r= .bool (AP i j)):=by
 refine APure.of_body (n:=12) Ah Tryz.func73 rfl rfl ?_;refine wk 9 ?_;refine Ex 7 (fun hb1=>?_) fun hb1=>?_
 .
  refine wk 6 ?_;refine Ge ⟨[_],⟨rfl,trivial⟩,?_,rfl⟩;refine bc ?_;simp_all[AP]<;>omega
 refine wk 6 ?_;refine Ge ⟨[_],⟨rfl,trivial⟩,?_,rfl⟩;refine bc ?_;simp_all[AP]<;>omega
theorem eP(b:Block)(blocks regs:Int):APure Tryz.prog 54 [.agg b.cells,.int .i64 blocks,.int .i64 regs] (fun r=>r= .bool (b.ends blocks regs)):=by
 refine APure.of_body (n:=61) Ah Tryz.func54 rfl rfl ?_;refine LN ?_;refine ax 3 (Fx 5 0) ?_;refine wk 14 ?_;refine asp 9 (fun hb1=>?_) fun hb1=>?_
 .
  refine wk 6 ?_;refine ax 14 (DX Tryz.func73 (B2 _ _)) ?_;refine wk 1 ?_;refine Ex 15 (fun hb2=>?_) fun hb2=>?_
  .
   refine wk 5 ?_;refine Ex 20 (fun hb3=>?_) fun hb3=>?_
   .
    refine wk 6 ?_;exact Oz
   refine wk 6 ?_;exact Oz
  refine wk 11 ?_;exact Oz
 refine wk 6 ?_;refine asp 25 (fun hb4=>?_) fun hb4=>?_
 .
  refine wk 6 ?_;refine ax 30 (DX Tryz.func73 (B2 _ _)) ?_;refine wk 1 ?_;refine Ex 31 (fun hb5=>?_) fun hb5=>?_
  .
   refine wk 3 ?_;refine ax 35 (DX Tryz.func73 (B2 _ _)) ?_;refine wk 2 ?_;refine Ex 37 (fun hb6=>?_) fun hb6=>?_
   .
    refine wk 3 ?_;refine ax 41 (DX Tryz.func73 (B2 _ _)) ?_;refine wk 3 ?_;exact Oz
   refine wk 7 ?_;exact Oz
  refine wk 13 ?_;exact Oz
 refine wk 8 ?_;refine Ex 46 (fun hb7=>?_) fun hb7=>?_
 .
  refine wk 5 ?_;refine Ex 51 (fun hb8=>?_) fun hb8=>?_
  .
   refine wk 5 ?_;refine Ex 56 (fun hb9=>?_) fun hb9=>?_
   .
    refine wk 6 ?_;exact Oz
   refine wk 6 ?_;exact Oz
  refine wk 11 ?_;exact Oz
 refine wk 16 ?_;exact Oz
theorem eK(t:Tac)(f regs words:Int)(hw:0<=words)(hw2:words<=1048576):APure Tryz.prog 55 [.agg t.cells,.int .i64 f,.int .i64 regs,.int .i64 words] (fun r=>r= .bool (t.fits f regs words)):=by
 refine APure.of_body (n:=166) Ah Tryz.func55 rfl rfl ?_;refine LN ?_;refine ax 4 (Fx 8 0) ?_;refine wk 9 ?_;refine Ex 15 (fun hb1=>?_) fun hb1=>?_
 .
  refine wk 10 ?_;refine Ge ⟨[_],⟨rfl,trivial⟩,?_,rfl⟩;refine bc ?_;exact(fits_op (by simp_all<;>omega)).symm
 refine wk 5 ?_;refine asp 19 (fun hb2=>?_) fun hb2=>?_
 .
  refine wk 5 ?_;refine Ge ⟨[_],⟨rfl,trivial⟩,?_,rfl⟩;refine bc ?_;exact(fits_op (by simp_all<;>omega)).symm
 refine wk 7 ?_;refine ax 9 (Ew Ah 1) ?_;refine wk 3 ?_;refine AGo.join (γ:=Int) (fun d=>⟨166,(Aa (Aa (Aa (Aa (Aa A8 1 (.int .i64 f)) 2 (.int .i64 regs)) 3 (.int .i64 words)) 4 (.ptr 0 1 0 0)) 9 (.ptr 1 1 0 0)),(hput (hput (Bw 2) 0 (.row false 8 [t.cells])) 1 (.row false 8 [[.int .i64 t.op,.int .i64 d,.int .i64 0,.int .i64 0,.int .i64 0,.int .i64 0,.int .i64 0,.int .u32 0]]))⟩) (fun d=>(!setsOp t.op||AP t.d regs)=true/\d=bif setsOp t.op then t.d else 0) ?_ ?_
 .
  refine wk 3 ?_;refine ax 24 (DX Tryz.func74 (dc _)) ?_;refine wk 2 ?_;refine Ex 26 (fun hb3=>?_) fun hb3=>?_
  .
   refine wk 43 ?_;refine ax 62 (DX Tryz.func73 (B2 _ _)) ?_;refine wk 2 ?_;refine asp 63 (fun hb4=>?_) fun hb4=>?_
   .
    exact T1
   exact gb
  refine wk 5 ?_;refine Ex 31 (fun hb5=>?_) fun hb5=>?_
  .
   refine wk 38 ?_;refine ax 62 (DX Tryz.func73 (B2 _ _)) ?_;refine wk 2 ?_;refine asp 63 (fun hb6=>?_) fun hb6=>?_
   .
    exact T1
   exact gb
  refine wk 5 ?_;refine Ex 36 (fun hb7=>?_) fun hb7=>?_
  .
   refine wk 33 ?_;refine ax 62 (DX Tryz.func73 (B2 _ _)) ?_;refine wk 2 ?_;refine asp 63 (fun hb8=>?_) fun hb8=>?_
   .
    exact T1
   exact gb
  refine wk 5 ?_;refine Ex 41 (fun hb9=>?_) fun hb9=>?_
  .
   refine wk 28 ?_;refine ax 62 (DX Tryz.func73 (B2 _ _)) ?_;refine wk 2 ?_;refine asp 63 (fun hb10=>?_) fun hb10=>?_
   .
    exact T1
   exact gb
  refine wk 5 ?_;refine Ex 46 (fun hb11=>?_) fun hb11=>?_
  .
   refine wk 23 ?_;refine ax 62 (DX Tryz.func73 (B2 _ _)) ?_;refine wk 2 ?_;refine asp 63 (fun hb12=>?_) fun hb12=>?_
   .
    exact T1
   exact gb
  refine wk 5 ?_;refine Ex 51 (fun hb13=>?_) fun hb13=>?_
  .
   refine wk 18 ?_;refine ax 62 (DX Tryz.func73 (B2 _ _)) ?_;refine wk 2 ?_;refine asp 63 (fun hb14=>?_) fun hb14=>?_
   .
    exact T1
   exact gb
  refine wk 5 ?_;refine asp 55 (fun hb15=>?_) fun hb15=>?_
  .
   refine wk 13 ?_;refine ax 62 (DX Tryz.func73 (B2 _ _)) ?_;refine wk 2 ?_;refine asp 63 (fun hb16=>?_) fun hb16=>?_
   .
    exact T1
   exact gb
  refine wk 2 ?_;exact⟨0,Sub.mk' Cw Gu,⟨by simp[setsOp, *],by simp[setsOp, *]⟩⟩
 intro d ⟨hd,hdd⟩;refine wk 3 ?_;refine ax 65 (DX Tryz.func75 (cV _)) ?_;refine wk 8 ?_;refine A4 (γ:=Nat) 2 (fun j=>⟨166,(Aa (Aa (Aa (Aa (Aa (Aa (Aa A8 1 (.int .i64 f)) 2 (.int .i64 regs)) 3 (.int .i64 words)) 4 (.ptr 0 1 0 0)) 9 (.ptr 1 1 0 0)) 10 (AM t.uses)) 11 (.int .i64 (j:Int))),(hput (hput (Bw 2) 0 (.row false 8 [t.cells])) 1 (.row false 8 [[.int .i64 t.op,.int .i64 d,.int .i64 0,.int .i64 0,.int .i64 0,.int .i64 0,.int .i64 0,.int .u32 0]]))⟩) (fun j=>(t.uses.take j).all (fun r=>AP r regs)=true) (fun j=>t.uses.length-j) 0 (Sub.mk' Cw Gu) rfl (fun _=>Ag (Ag (fun b hb=>AO hb) rfl) rfl) ?_;intro j hj;refine wk 8 ?_;refine asp 69 (fun hb17=>?_) fun hb17=>?_
 .
  refine act ?_;have hjl:j<t.uses.length:=GR hb17;obtain⟨u,hu⟩:=Ae hjl;refine wk 7 ?_;refine aq 74 (At Ah rfl rfl rfl rfl rfl rfl (Int.natCast_nonneg _) (AC (by assumption)) rfl) ?_;refine wk 2 ?_;refine ax 77 (DX Tryz.func73 (B2 _ _)) ?_;refine wk 2 ?_;refine asp 78 (fun hb18=>?_) fun hb18=>?_
  .
   refine act ?_;have hbw:=hb18;refine wk 4 ?_;refine Ge ⟨[_],⟨rfl,trivial⟩,?_,rfl⟩;refine bc ?_;exact(bl (Ks hu (by simpa using hbw))).symm
  refine acf ?_;have hbw:=hb18;refine wk 3 ?_;refine aq 71 (Be rfl rfl hjl (Nat.le_trans (JK t) (by decide))) ?_;exact jG
 refine acf ?_;have hall:=all_end hj (GS hb17);refine wk 2 ?_;refine AGo.join (γ:=Int) (fun a=>⟨166,(Aa (Aa (Aa (Aa (Aa (Aa A8 1 (.int .i64 f)) 2 (.int .i64 regs)) 3 (.int .i64 words)) 4 (.ptr 0 1 0 0)) 9 (.ptr 1 1 0 0)) 10 (AM t.uses)),(hput (hput (Bw 2) 0 (.row false 8 [t.cells])) 1 (.row false 8 [[.int .i64 t.op,.int .i64 d,.int .i64 a,.int .i64 0,.int .i64 0,.int .i64 0,.int .i64 0,.int .u32 0]]))⟩) (fun a=>a=bif use1 t.op||use2 t.op then t.a else 0) ?_ ?_
 .
  refine wk 6 ?_;refine asp 81 (fun hb19=>?_) fun hb19=>?_
  .
   refine wk 7 ?_;exact⟨t.a,Sub.mk' Cw Gu,by have h3:=Mw t.op;cases h1:use1 t.op<;>cases h2:use2 t.op<;>simp_all[Tac.uses]⟩
  exact jJ
 intro a haa;refine asq ?_;refine AGo.join (γ:=Int) (fun b=>⟨166,(Aa (Aa (Aa (Aa (Aa A8 1 (.int .i64 f)) 2 (.int .i64 regs)) 3 (.int .i64 words)) 4 (.ptr 0 1 0 0)) 9 (.ptr 1 1 0 0)),(hput (hput (Bw 2) 0 (.row false 8 [t.cells])) 1 (.row false 8 [[.int .i64 t.op,.int .i64 d,.int .i64 a,.int .i64 b,.int .i64 0,.int .i64 0,.int .i64 0,.int .u32 0]]))⟩) (fun b=>b=bif use2 t.op then t.b else 0) ?_ ?_
 .
  refine wk 6 ?_;refine asp 87 (fun hb20=>?_) fun hb20=>?_
  .
   refine wk 7 ?_;exact⟨t.b,Sub.mk' Cw Gu,by have h3:=Mw t.op;cases h1:use1 t.op<;>cases h2:use2 t.op<;>simp_all[Tac.uses]⟩
  exact jJ
 intro b hbb;refine wk 12 ?_;refine asp 93 (fun hb21=>?_) fun hb21=>?_
 .
  refine wk 11 ?_;exact fk
 refine wk 6 ?_;refine asp 98 (fun hb22=>?_) fun hb22=>?_
 .
  refine wk 14 ?_;refine Ex 106 (fun hb23=>?_) fun hb23=>?_
  .
   refine wk 10 ?_;exact YJ
  refine wk 5 ?_;refine asp 110 (fun hb24=>?_) fun hb24=>?_
  .
   refine wk 5 ?_;exact YJ
  refine wk 6 ?_;exact fk
 refine wk 7 ?_;refine asp 111 (fun hb25=>?_) fun hb25=>?_
 .
  refine wk 15 ?_;refine ax 120 (DX Tryz.func73 (B2 _ _)) ?_;refine wk 2 ?_;refine asp 121 (fun hb26=>?_) fun hb26=>?_
  .
   refine wk 5 ?_;exact YJ
  refine wk 6 ?_;exact fk
 refine wk 5 ?_;refine asp 111 (fun hb27=>?_) fun hb27=>?_
 .
  refine wk 13 ?_;refine ax 120 (DX Tryz.func73 (B2 _ _)) ?_;refine wk 2 ?_;refine asp 121 (fun hb28=>?_) fun hb28=>?_
  .
   refine wk 5 ?_;exact YJ
  refine wk 6 ?_;exact fk
 refine wk 7 ?_;refine asp 122 (fun hb29=>?_) fun hb29=>?_
 .
  refine wk 20 ?_;refine Ex 134 (fun hb30=>?_) fun hb30=>?_
  .
   refine wk 24 ?_;exact RH
  refine wk 5 ?_;refine Ex 139 (fun hb31=>?_) fun hb31=>?_
  .
   refine wk 19 ?_;exact RH
  refine wk 5 ?_;refine Ex 144 (fun hb32=>?_) fun hb32=>?_
  .
   refine wk 14 ?_;exact RH
  refine wk 9 ?_;refine asp 152 (fun hb33=>?_) fun hb33=>?_
  .
   refine wk 5 ?_;exact RH
  refine wk 6 ?_;exact fk
 refine wk 5 ?_;refine asp 122 (fun hb34=>?_) fun hb34=>?_
 .
  refine wk 18 ?_;refine Ex 134 (fun hb35=>?_) fun hb35=>?_
  .
   refine wk 24 ?_;exact RH
  refine wk 5 ?_;refine Ex 139 (fun hb36=>?_) fun hb36=>?_
  .
   refine wk 19 ?_;exact RH
  refine wk 5 ?_;refine Ex 144 (fun hb37=>?_) fun hb37=>?_
  .
   refine wk 14 ?_;exact RH
  refine wk 9 ?_;refine asp 152 (fun hb38=>?_) fun hb38=>?_
  .
   refine wk 5 ?_;exact RH
  refine wk 6 ?_;exact fk
 refine wk 6 ?_;refine asp 153 (fun hb39=>?_) fun hb39=>?_
 .
  refine wk 13 ?_;refine ax 161 (DX Tryz.func73 (B2 _ _)) ?_;refine wk 2 ?_;refine asp 162 (fun hb40=>?_) fun hb40=>?_
  .
   refine wk 5 ?_;exact YJ
  refine wk 6 ?_;exact fk
 refine wk 6 ?_;exact fk
theorem iB(f:BFunc)(number words:Int)(hw:0<=words)(hw2:words<=1048576):APure Tryz.prog 40 [.agg f.cells,.int .i64 number,.int .i64 words] (fun r=>r= .bool (f.one number words)):=by
 refine APure.of_body (n:=68) Ah Tryz.func40 rfl rfl ?_;refine asq ?_;refine Kw 0 rfl (fun H ι v=>O5) (fun hfit=>?_);refine YE ?_;refine ax 3 (Fx 2 0) ?_;refine wk 9 ?_;refine Ex 12 (fun hb1=>?_) fun hb1=>?_
 .
  refine wk 16 ?_;exact fX
 refine wk 5 ?_;refine Ex 17 (fun hb2=>?_) fun hb2=>?_
 .
  refine wk 11 ?_;exact fX
 refine wk 6 ?_;refine asp 22 (fun hb3=>?_) fun hb3=>?_
 .
  refine wk 5 ?_;exact fX
 refine acf ?_;have h0:0<=f.regs/\f.regs<=4000/\f.blocks.length≠0:=by simp_all<;>omega
 refine wk 7 ?_;refine A4 (γ:=Nat) 1 (fun k=>⟨68,(Aa (Aa (Aa (Aa A8 1 (.int .i64 number)) 2 (.int .i64 words)) 3 (.ptr 0 1 0 0)) 7 (.int .i64 (k:Int))),(hput (Bw 1) 0 (.row false 2 [f.cells]))⟩) (fun k=>(f.blocks.take k).all (fun x=>x.ok f.blocks.length f.regs number words)=true) (fun k=>f.blocks.length-k) 0 (Sub.mk' Cw Gu) rfl (fun _=>Ag (fun b hb=>AO hb) rfl) ?_;intro k hk;refine wk 9 ?_;refine asp 27 (fun hb4=>?_) fun hb4=>?_
 .
  refine act ?_;have hkl:k<f.blocks.length:=GR hb4;obtain⟨x,hx⟩:=Ae hkl;refine wk 9 ?_;refine dq 33 (At Ah rfl rfl rfl rfl rfl rfl (Int.natCast_nonneg _) (AC (by assumption)) rfl) ?_;refine wk 6 ?_;refine dx 40 (DX Tryz.func54 (eP x _ _)) ?_;refine dq 41 (M5 rfl rfl) ?_;refine wk 1 ?_;refine asp 41 (fun hb5=>?_) fun hb5=>?_
  .
   refine act ?_;have hends:x.ends f.blocks.length f.regs=false:=by simpa using hb5
   refine wk 4 ?_;refine Ge ⟨[_],⟨rfl,trivial⟩,?_,rfl⟩;refine bc ?_;rw[J1 h0.1 h0.2.1 h0.2.2,Ks hx (by simp[Block.ok,hends])]
  refine acf ?_;have hends:x.ends f.blocks.length f.regs=true:=by simpa using hb5
  refine wk 6 ?_;refine A4 (γ:=Nat) 1 (fun j=>⟨68,(Aa (Aa (Aa (Aa (Aa A8 1 (.int .i64 number)) 2 (.int .i64 words)) 3 (.ptr 0 1 0 0)) 7 (.int .i64 (k:Int))) 8 (.int .i64 (j:Int))),(hput (Bw 1) 0 (.row false 2 [f.cells]))⟩) (fun j=>(x.ins.take j).all (fun t=>t.fits number f.regs words)=true) (fun j=>x.ins.length-j) 0 (Sub.mk' Cw Gu) rfl (fun _=>Ag (fun b hb=>AO hb) rfl) ?_;intro j hj;refine wk 7 ?_;refine aq 46 (At Ah rfl rfl rfl rfl rfl rfl (Int.natCast_nonneg _) (AC (by assumption)) rfl) ?_;refine wk 5 ?_;refine asp 50 (fun hb6=>?_) fun hb6=>?_
  .
   refine act ?_;have hjl:j<x.ins.length:=GR hb6;obtain⟨u,hu⟩:=Ae hjl;refine wk 8 ?_;refine dq 56 (At Ah rfl rfl rfl rfl rfl rfl (Int.natCast_nonneg _) (AC (by assumption)) rfl) ?_;refine wk 3 ?_;refine dq 60 (At Ah rfl rfl rfl rfl rfl rfl (Int.natCast_nonneg _) (AC (by assumption)) rfl) ?_;refine wk 5 ?_;refine dx 66 (DX Tryz.func55 (eK u _ _ _ hw hw2)) ?_;refine dq 67 (M5 rfl rfl) ?_;refine wk 1 ?_;refine asp 67 (fun hb7=>?_) fun hb7=>?_
   .
    refine act ?_;have hbw:=hb7;refine wk 4 ?_;refine Ge ⟨[_],⟨rfl,trivial⟩,?_,rfl⟩;refine bc ?_;rw[J1 h0.1 h0.2.1 h0.2.2,Ks hx (by simp only[Block.ok,Ks (p:=fun t=>Tac.fits t number f.regs words) hu (by simpa using hbw),Bool.and_false])]
   refine acf ?_;have hbw:=hb7;refine wk 3 ?_;refine aq 52 (Be rfl rfl hjl (hfit.2 x (List.mem_of_getElem? hx))) ?_;exact jG
  refine acf ?_;have hins:=all_end hj (GS hb6);refine wk 3 ?_;refine aq 29 (Be rfl rfl hkl hfit.1) ?_;refine wk 2 ?_;exact⟨k+1,Drop.mk' Mp OC,Oh hx hk (by simp[Block.ok,hends,hins]),by omega⟩
 refine acf ?_;have hall:=all_end hk (GS hb4);refine wk 5 ?_;refine Ge ⟨[_],⟨rfl,trivial⟩,?_,rfl⟩;refine bc ?_;rw[J1 h0.1 h0.2.1 h0.2.2,hall]
theorem Zn(b:Blocks):APure Tryz.prog 29 [.agg b.cells] (fun r=>r= .bool b.right):=by
 refine APure.of_body (n:=35) Ah Tryz.func29 rfl rfl ?_;refine asq ?_;refine Kw 0 rfl (fun H ι v=>Sf) (fun hfit=>?_);refine YE ?_;refine ax 1 (Fx 2 0) ?_;refine wk 9 ?_;refine Ex 7 (fun hb1=>?_) fun hb1=>?_
 .
  refine wk 16 ?_;exact fY
 refine wk 5 ?_;refine Ex 12 (fun hb2=>?_) fun hb2=>?_
 .
  refine wk 11 ?_;exact fY
 refine wk 6 ?_;refine asp 17 (fun hb3=>?_) fun hb3=>?_
 .
  refine wk 5 ?_;exact fY
 refine acf ?_;have h0:0<=b.words/\b.words<=1048576/\b.funcs.length≠0:=by simp_all<;>omega
 refine wk 7 ?_;refine A4 (γ:=Nat) 1 (fun k=>⟨35,(Aa (Aa A8 1 (.ptr 0 1 0 0)) 3 (.int .i64 (k:Int))),(hput (Bw 1) 0 (.row false 2 [b.cells]))⟩) (fun k=>(b.funcs.zipIdx.take k).all (fun p=>p.1.one (p.2:Int) b.words)=true) (fun k=>b.funcs.length-k) 0 (Sub.mk' Cw Gu) rfl (fun _=>Ag (fun b hb=>AO hb) rfl) ?_;intro k hk;refine wk 9 ?_;refine asp 22 (fun hb4=>?_) fun hb4=>?_
 .
  refine act ?_;have hkl:k<b.funcs.length:=GR hb4;obtain⟨x,hx⟩:=Ae hkl;refine wk 8 ?_;refine dq 28 (At Ah rfl rfl rfl rfl rfl rfl (Int.natCast_nonneg _) (AC (by assumption)) rfl) ?_;refine wk 4 ?_;refine dx 33 (DX Tryz.func40 (iB x _ _ h0.1 h0.2.1)) ?_;refine dq 34 (M5 rfl rfl) ?_;refine wk 1 ?_;refine asp 34 (fun hb5=>?_) fun hb5=>?_
  .
   refine act ?_;have hone:=hb5;refine wk 4 ?_;refine Ge ⟨[_],⟨rfl,trivial⟩,?_,rfl⟩;refine bc ?_;rw[KK h0.1 h0.2.1 h0.2.2,Ks (FF hx) (by simpa using hone)]
  refine acf ?_;have hone:=hb5;refine wk 3 ?_;refine aq 24 (Be rfl rfl hkl hfit.1) ?_;refine wk 2 ?_;exact⟨k+1,Drop.mk' Mp OC,Oh (FF hx) hk (by simpa using hone),by omega⟩
 refine acf ?_;have hall:=all_end hk (by rw[List.length_zipIdx];exact GS hb4);refine wk 5 ?_;refine Ge ⟨[_],⟨rfl,trivial⟩,?_,rfl⟩;refine bc ?_;rw[KK h0.1 h0.2.1 h0.2.2,hall]
theorem Ud(b:Blocks)(hL:b.Lim):APure Tryz.prog 13 [.agg b.cells] (fun r=>r= .bool (Gg b)):=by
 have hn:=hL.n;refine APure.of_body (n:=37) Ah Tryz.func13 rfl rfl ?_;refine LN ?_;refine ax 1 (Fx 2 0) ?_;refine wk 10 ?_;refine Ex 8 (fun hb1=>?_) fun hb1=>?_
 .
  refine wk 20 ?_;exact cE
 refine wk 5 ?_;refine Ex 13 (fun hb2=>?_) fun hb2=>?_
 .
  refine wk 15 ?_;exact cE
 refine wk 1 ?_;refine ax 15 (DX Tryz.func29 (Zn b)) ?_;refine wk 3 ?_;refine Ex 18 (fun hb3=>?_) fun hb3=>?_
 .
  refine wk 10 ?_;exact cE
 refine wk 1 ?_;refine ax 20 (DX Tryz.func27 (Zi b (by have:=hL.c;omega))) ?_;refine wk 3 ?_;refine asp 22 (fun hb4=>?_) fun hb4=>?_
 .
  refine wk 5 ?_;exact cE
 refine acf ?_;have hg1:b.funcs.length<=6:=by have h:=hb1;simp at h;omega
 have hg2:b.words<=400:=by have h:=hb2;simp at h;omega
 have hg3:b.right=true:=by have h:=hb3;simpa using h
 have hg4:b.count<=200:=by have h:=hb4;simp at h;omega
 refine wk 7 ?_;refine A4 (γ:=Nat) 1 (fun k=>⟨37,(Aa (Aa A8 1 (.ptr 0 1 0 0)) 3 (.int .i64 (k:Int))),(hput (Bw 1) 0 (.row false 2 [b.cells]))⟩) (fun k=>k<=b.funcs.length/\(b.funcs.take k).all Ny=true) (fun k=>b.funcs.length-k) 0 (Sub.mk' Dw Gu) ⟨Nat.zero_le _,rfl⟩ (fun _=>Ag (fun b hb=>AO hb) rfl) ?_;intro k hF;refine wk 9 ?_;refine asp 27 (fun hb5=>?_) fun hb5=>?_
 .
  refine act ?_;have hkl:=GR hb5;obtain⟨f,hf⟩:=Ae hkl;refine wk 8 ?_;refine aq 33 (JF Ah (AC hf)) ?_;refine wk 4 ?_;refine asp 36 (fun hb6=>?_) fun hb6=>?_
  .
   refine act ?_;have hno: ¬f.regs<=30:=by have h:=hb6;simp at h;omega
   have hnall:=iE (List.mem_of_getElem? hf) hno;refine wk 4 ?_;refine Ge ⟨[_],⟨rfl,trivial⟩,?_,rfl⟩;refine bc ?_;simp[Gg,hnall]
  refine acf ?_;have hyes:f.regs<=30:=by have h:=hb6;simp at h;omega
  refine wk 3 ?_;refine aq 29 (Be rfl rfl hkl (by simp only[maxLen];omega)) ?_;refine wk 2 ?_;exact⟨k+1,Drop.mk' Mp OC,⟨hkl,aF hf hF.2 hyes⟩,by omega⟩
 refine acf ?_;have hge:=GS hb5;have hall:b.funcs.all Ny=true:=by have h:=hF.2;rwa[List.take_of_length_le hge]at h
 refine wk 5 ?_;refine Ge ⟨[_],⟨rfl,trivial⟩,?_,rfl⟩;refine bc ?_;simp[Gg,hg1,hg2,hg3,hg4,hall]
theorem Rc(k:Int):APure Tryz.prog 31 [.int .i64 k] (fun r=>r= .tup [.val (VX k),.bool (kind35 k)]):=by
 refine APure.of_body (n:=28) Ah Tryz.func31 rfl rfl ?_;refine wk 9 ?_;refine ax 4 (Ew Ah 0) ?_;refine wk 13 ?_;refine asp 8 (fun hb1=>?_) fun hb1=>?_
 .
  refine act ?_;have hk1:k=1:=by simpa using hb1
  subst hk1;refine wk 4 ?_;refine aq 12 (JT Ah rfl rfl rfl rfl (by intro h;cases h)) ?_;exact cD
 refine acf ?_;have hn1:k≠1:=by simpa using hb1
 refine wk 5 ?_;refine asp 13 (fun hb2=>?_) fun hb2=>?_
 .
  refine act ?_;have hk2:k=2:=by simpa using hb2
  subst hk2;refine wk 4 ?_;refine aq 17 (JT Ah rfl rfl rfl rfl (by intro h;cases h)) ?_;exact cD
 refine acf ?_;have hn2:k≠2:=by simpa using hb2
 refine wk 5 ?_;refine asp 18 (fun hb3=>?_) fun hb3=>?_
 .
  refine act ?_;have hk3:k=3:=by simpa using hb3
  subst hk3;refine wk 4 ?_;refine aq 22 (JT Ah rfl rfl rfl rfl (by intro h;cases h)) ?_;exact cD
 refine acf ?_;have hn3:k≠3:=by simpa using hb3
 refine wk 5 ?_;refine asp 23 (fun hb4=>?_) fun hb4=>?_
 .
  refine act ?_;have hk4:k=4:=by simpa using hb4
  subst hk4;refine wk 4 ?_;refine aq 27 (JT Ah rfl rfl rfl rfl (by intro h;cases h)) ?_;exact cD
 refine acf ?_;have hn4:k≠4:=by simpa using hb4
 refine wk 7 ?_;refine⟨[_,_],⟨rfl,rfl,trivial⟩,?_,rfl⟩;rw[ZW hn1 hn2 hn3 hn4,d9 hn1 hn2 hn3 hn4];rfl
structure BS where
  been:List Bool
  q:List Int
def G1(s:BS)(k:Int):BS:=bif notBeen s.been k then⟨s.been.set k.toNat true,s.q++[k]⟩else s
def F6(next:List (List Int))(s:BS):BS:=
  match s.q with
  | []=>s
  | at'::r=>(Bj next at').foldl G1 ⟨s.been,r⟩
def U7(next:List (List Int)):Nat->BS->BS
  | 0,s=>s
  | g+1,s=>if s.q.isEmpty then s else U7 next g (F6 next s)
def iW(n:Nat):BS:=⟨(List.replicate n false).set 0 true,[0]⟩
def bU(next:List (List Int)):List Bool:=(U7 next (next.length+1) (iW next.length)).been
def Wm(s:BS):Nat:=T5 s.been+s.q.length
theorem bW(s:BS)(k:Int):Wm (G1 s k)=Wm s:=by
 unfold G1 Wm
 cases e:notBeen s.been k with
 | false=>rfl
 | true=>
  obtain⟨h1,h2,h3⟩:=CG e;have:=Iu h3;simp only[cond_true,List.length_append,List.length_singleton];omega
theorem Li: ∀(l:List Int) (s:BS),Wm (l.foldl G1 s)=Wm s
 | [],_=>rfl
 | k::r,s=>by rw[List.foldl_cons,Li r,bW]
theorem Yp{next:List (List Int)}{s:BS}(h:s.q≠[]):Wm (F6 next s)+1=Wm s:=by
 unfold F6;split
 . rename_i e;exact absurd e h
 . rename_i at' r e;rw[Li];simp only[Wm,e,List.length_cons];omega
theorem Yn{next:List (List Int)}{g:Nat}{s:BS}(h:s.q≠[]):U7 next (g+1) s=U7 next g (F6 next s):=by
 show(if s.q.isEmpty then s else _)=_;rw[if_neg (by simpa using h)]
theorem bT{next:List (List Int)}{g:Nat}{s:BS}(h:s.q=[]):U7 next g s=s:=by
 cases g with
 | zero=>rfl
 | succ g=>show(if s.q.isEmpty then s else _)=_;rw[if_pos (by simp[h])]
theorem Sa{l:List Bool}{i:Nat}{k:Int}(h:isBeen l k):isBeen (l.set i true) k:=by
 obtain⟨h1,h2⟩:=h;refine⟨h1,?_⟩;rw[List.getElem?_set];have hlt:=(List.getElem?_eq_some_iff.1 h2).1;split
 . rename_i he;rw[he,if_pos hlt]
 . exact h2
structure TN(next:List (List Int))(s:BS):Prop where
  len:s.been.length=next.length
  q: ∀k∈s.q,0<=k/\k<next.length
  qb: ∀k∈s.q,isBeen s.been k
  zero:isBeen s.been 0
  only: ∀k,isBeen s.been k->D6 next k
theorem Ys{next:List (List Int)}{s:BS}{b:Int}(h:TN next s)(hb:D6 next b):TN next (G1 s b):=by
 unfold G1
 cases e:notBeen s.been b with
 | false=>exact h
 | true=>
  obtain⟨h1,h2,h3⟩:=CG e;have hself:isBeen (s.been.set b.toNat true) b:=⟨h1,by rw[List.getElem?_set_self (by omega)]⟩;refine⟨by simp[h.len],fun k hk=>?_,fun k hk=>?_,Sa h.zero,fun k hk=>?_⟩
  . simp only[cond_true,List.mem_append,List.mem_singleton]at hk;rcases hk with hk | rfl
    . exact h.q k hk
    . rw[<-h.len];exact⟨h1,h2⟩
  . simp only[cond_true,List.mem_append,List.mem_singleton]at hk;rcases hk with hk | rfl
    . exact Sa (h.qb k hk)
    . exact hself
  . obtain⟨k1,k2⟩:=hk;simp only[cond_true]at k2;rw[List.getElem?_set]at k2
    by_cases hh:b.toNat=k.toNat
    . have:k=b:=by omega
      rw[this];exact hb
    . rw[if_neg hh]at k2;exact h.only k ⟨k1,k2⟩
theorem Oe{next:List (List Int)}: ∀(l:List Int) (s:BS),TN next s->(∀t∈l,D6 next t)->TN next (l.foldl G1 s)
 | [],_,h,_=>h
 | b::r,s,h,hl=>Oe r _ (Ys h (hl b (by simp))) (fun t ht=>hl t (by simp[ht]))
theorem Yo{next:List (List Int)}{s:BS}(h:TN next s):TN next (F6 next s):=by
 unfold F6;split
 . exact h
 . rename_i at' r e;have hat:at'∈s.q:=by rw[e];simp
   have h0:TN next ⟨s.been,r⟩:=⟨h.len,fun k hk=>h.q k (by rw[e];simp[hk]),fun k hk=>h.qb k (by rw[e];simp[hk]),h.zero,h.only⟩;exact Oe _ _ h0 (fun t ht=>.step at' t (h.only at' (h.qb at' hat)) ht)
section
variable {f : BFunc}
def BFunc.inN(f:BFunc)(k:Int):Nat:=cntTo f.nexts f.reach k f.nexts.length
theorem YR(hle:f.leads){k:Int}(hk:0<=k):iget (waysF f.nexts f.reach) k=(f.inN k:Int):=RP (SR hle) hk _ (Nat.le_refl _)
theorem MW(hle:f.leads){i:Nat}(hi:i<f.blocks.length):Jm f.nexts i=(f.blockAt i).nexts:=by
 have h:=Bs (f:=f) (i:=(i:Int)) (by omega);rw[Int.toNat_natCast]at h;rw[Jm,Cz h];rfl
def aY(paths:List (List Int))(a:Int):Int:=
  match paths.findIdx? (fun p=>decide (p.length>0)&&E8 p==a)with
  | some i=>(i:Int)
  | none=> -1
theorem UO{paths:List (List Int)}{a:Int}(hno: ∀p∈paths,(decide (p.length>0)&&E8 p==a)=false):aY paths a= -1:=by
 unfold aY;rw[List.findIdx?_eq_none_iff.2 (fun p hp=>by rw[hno p hp])]
end
structure Chainy(f:BFunc)(p:List Int):Prop where
  nd:p.Nodup
  mem: ∀x,x∈p↔0<=x/\x<f.blocks.length
  zero:p[0]?=some 0
  next: ∀(j:Nat) (x y:Int),p[j]?=some x->p[j+1]?=some y->(f.blockAt x).fin=1/\(f.blockAt x).to=y
  last: ∀(j:Nat) (x:Int),p[j]?=some x->p[j+1]?=none->(f.blockAt x).fin=3
section
variable {f : BFunc} {p : List Int}
theorem Chainy.get_inj(h:Chainy f p){i j:Nat}{x:Int}(hi:p[i]?=some x)(hj:p[j]?=some x):i=j:=by
 obtain⟨a,b⟩:=List.getElem?_eq_some_iff.1 hi;obtain⟨c,d⟩:=List.getElem?_eq_some_iff.1 hj;exact(List.getElem_inj h.nd).1 (b.trans d.symm)
theorem Chainy.nexts(h:Chainy f p){j:Nat}{x:Int}(hx:p[j]?=some x):(f.blockAt x).nexts=match p[j+1]? with | some y=>[y] | none=>[]:=by
 cases e:p[j+1]? with
 | some y=>obtain⟨h1,h2⟩:=h.next j x y hx e;simp[Block.nexts,h1,h2]
 | none=>have h1:=h.last j x hx e;simp[Block.nexts,h1]
theorem Chainy.leads(h:Chainy f p):f.leads:=fun l hl t ht=>by
 simp only[BFunc.nexts,List.mem_map]at hl;obtain⟨b,hb,rfl⟩:=hl;obtain⟨k,hk⟩:=List.getElem?_of_mem hb;have hkl:=(List.getElem?_eq_some_iff.1 hk).1;have hin:(k:Int)∈p:=(h.mem k).2 (by omega);obtain⟨j,hj⟩:=List.getElem?_of_mem hin;have hbk:f.blockAt (k:Int)=b:=by simp[BFunc.blockAt,hk]
 have:=h.nexts hj;rw[hbk]at this;rw[this]at ht
 cases e:p[j+1]? with
 | none=>rw[e]at ht;simp at ht
 | some y=>
  rw[e]at ht;simp at ht;subst ht;exact(h.mem t).1 (List.mem_of_getElem? e)
theorem Chainy.ne(h:Chainy f p):f.blocks≠[]:=fun e=>by
 have:=(h.mem 0).1 (List.mem_of_getElem? h.zero);rw[e]at this;simp at this
theorem Chainy.reaches(h:Chainy f p): ∀(j:Nat) (x:Int),p[j]?=some x->D6 f.nexts x
 | 0,x,hx=>by rw[h.zero]at hx;cases hx;exact .zero
 | j+1,x,hx=>by
  have hjl:=(List.getElem?_eq_some_iff.1 hx).1;obtain⟨w,hw⟩:=Ae (l:=p) (k:=j) (by omega);have hwr:=(h.mem w).1 (List.mem_of_getElem? hw);refine .step w x (h.reaches j w hw) ?_;rw[Uj h.leads hwr,h.nexts hw,hx]
  simp
theorem Chainy.been(h:Chainy f p){x:Int}(hx:x∈p):isBeen f.reach x:=by
 obtain⟨j,hj⟩:=List.getElem?_of_mem hx;exact(Zu h.leads h.ne x).2 (h.reaches j x hj)
theorem Chainy.pred(h:Chainy f p){j:Nat}{x y:Int}(hx:p[j]?=some x)(hy:p[j+1]?=some y){i:Nat}(hi:i<f.blocks.length)(hm:y∈Jm f.nexts i):(i:Int)=x/\(Jm f.nexts i).count y=1:=by
 rw[MW h.leads hi]at hm |-;obtain⟨k,hk⟩:=List.getElem?_of_mem ((h.mem i).2 (by omega));rw[h.nexts hk]at hm |-
 cases e:p[k+1]? with
 | none=>rw[e]at hm;simp at hm
 | some z=>
  rw[e]at hm;simp at hm;subst hm;have:=h.get_inj hy e;have hkj:k=j:=by omega
  subst hkj;rw[hx]at hk;cases hk
  simp
theorem Chainy.inN(h:Chainy f p){j:Nat}{x y:Int}(hx:p[j]?=some x)(hy:p[j+1]?=some y):f.inN y=1:=by
 have hxr:=(h.mem x).1 (List.mem_of_getElem? hx);have hnl:=AE f;have hlt:x.toNat<f.nexts.length:=by omega
 have hge:1<=f.inN y:=by
  have h1:=bH (next:=f.nexts) (reach:=f.reach) (k:=y) hlt (h.been (List.mem_of_getElem? hx)).2;have h2:0<(Jm f.nexts x.toNat).count y:=by
   refine List.count_pos_iff.2 ?_;rw[MW h.leads (by omega),show((x.toNat:Nat):Int)=x by omega,h.nexts hx,hy]
   simp
  unfold BFunc.inN;omega
 have hle: ¬2<=f.inN y:=fun h2=>by
  rcases Wj h2 with⟨i,k,a,b,c,d,e,g⟩ |⟨i,a,b,c⟩
  . have h3:=(h.pred hx hy (i:=i) (by omega) e).1;have h4:=(h.pred hx hy (i:=k) (by omega) g).1;omega
  . have hm:y∈Jm f.nexts i:=List.count_pos_iff.1 (by omega);have:=(h.pred hx hy (i:=i) (by omega) hm).2;omega
 omega
theorem Chainy.tk(h:Chainy f p){j:Nat}{x y:Int}(hx:p[j]?=some x)(hy:p[j+1]?=some y):iget f.tk x=y:=by
 have hxr:=(h.mem x).1 (List.mem_of_getElem? hx);have hyr:=(h.mem y).1 (List.mem_of_getElem? hy);obtain⟨h1,h2⟩:=h.next j x y hx hy;have hb:=(h.been (List.mem_of_getElem? hx)).2;have hN:=h.inN hx hy;have hw:=YR h.leads (k:=y) hyr.1;have hy0:y≠0:=fun e=>by rw[e]at hy;have:=h.get_inj hy h.zero;omega
 have hyx:y≠x:=fun e=>by rw[e]at hy;have:=h.get_inj hy hx;omega
 have c1:(y !=0)=true:=by rw[bne_iff_ne];exact hy0
 have c2:(y !=((x.toNat:Nat):Int))=true:=by rw[bne_iff_ne];omega
 rw[RX h.leads hxr,takeOf,hb,h1,h2,hw,hN,c1,c2];rfl
theorem Chainy.tk_last(h:Chainy f p){j:Nat}{x:Int}(hx:p[j]?=some x)(hy:p[j+1]?=none):iget f.tk x= -1:=by
 have hxr:=(h.mem x).1 (List.mem_of_getElem? hx);rw[RX h.leads hxr,takeOf,h.last j x hx hy]
 simp
theorem Chainy.chain(h:Chainy f p): ∀(g j:Nat) (x:Int),p[j]?=some x->p.length<=j+1+g->Sv.chain f.tk g x=p.drop (j+1)
 | 0,j,x,hx,hl=>by rw[List.drop_eq_nil_of_le (by omega)];rfl
 | g+1,j,x,hx,hl=>by
  unfold Sv.chain
  cases e:p[j+1]? with
  | none=>
   rw[h.tk_last hx e];have:p.length<=j+1:=List.getElem?_eq_none_iff.1 e;rw[List.drop_eq_nil_of_le this];rfl
  | some y=>
   have hyr:=(h.mem y).1 (List.mem_of_getElem? e);have hne:(iget f.tk x== -1)=false:=by rw[h.tk hx e,beq_eq_false_iff_ne];omega
   rw[hne,cond_false,h.tk hx e,h.chain g (j+1) y e (by omega)];obtain⟨a,b⟩:=List.getElem?_eq_some_iff.1 e;rw[List.drop_eq_getElem_cons (i:=j+1) a,b]
theorem Chainy.path(h:Chainy f p)(hl:p.length<=f.blocks.length+1):A5 f.tk 0=p:=by
 have htl:f.tk.length=f.blocks.length:=AI f f.reach;rw[A5,h.chain f.tk.length 0 0 h.zero (by omega)];obtain⟨a,b⟩:=List.getElem?_eq_some_iff.1 h.zero;have:=List.drop_eq_getElem_cons (i:=0) a;rw[List.drop_zero,b]at this;exact this.symm
theorem Chainy.head(h:Chainy f p){k:Nat}(hk:0<k)(hkl:k<f.blocks.length):f.headOf k=false:=by
 cases e:f.headOf k with
 | false=>rfl
 | true=>
  obtain⟨j,hj⟩:=List.getElem?_of_mem ((h.mem k).2 (by omega))
  cases j with
  | zero=>
   rw[h.zero]at hj;have:=Option.some.inj hj;omega
  | succ j=>
   have hjl:=(List.getElem?_eq_some_iff.1 hj).1;obtain⟨w,hw⟩:=Ae (l:=p) (k:=j) (by omega);have hwr:=(h.mem w).1 (List.mem_of_getElem? hw);exact absurd (h.tk hw hj) ((CY h.leads e).2 w hwr)
theorem Chainy.paths(h:Chainy f p)(hl:p.length<=f.blocks.length+1):f.tpaths=[p]:=by
 have hpos:0<f.blocks.length:=List.length_pos_iff.2 h.ne;have key: ∀m,0<m->m<=f.blocks.length->f.pathsTo m=[p]:=fun m=>by
  induction m with
  | zero=>intro h0;omega
  | succ m ih=>
   intro _ hm
   by_cases h0:m=0
   . subst h0;rw[DB (XN h.leads h.ne)];show []++[A5 f.tk ((0:Nat):Int)]=[p];rw[show((0:Nat):Int)=0 from rfl,h.path hl];rfl
   . rw[EG (h.head (k:=m) (by omega) (by omega)),ih (by omega) (by omega)]
 exact key _ hpos (Nat.le_refl _)
end
structure QG where
  s:BS
  es:List Int
  off:Nat
  g:Nat
  gas:Nat
structure QInv(next:List (List Int))(q:QG):Prop where
  inv:TN next q.s
  qe:q.s.q=q.es.drop q.off
  off:q.off<=q.es.length
  mu:Wm q.s<q.gas
  le:q.gas<=next.length+1
  tgt:(U7 next q.gas q.s).been=bU next
structure QI where
  j:Nat
  es:List Int
  off:Nat
  g:Nat
structure QIInv(been:List Bool)(tl:List Int)(row:List Int)(i:QI):Prop where
  off:i.off<=i.es.length
  q:i.es.drop i.off=((row.take i.j).foldl G1 ⟨been,tl⟩).q
theorem QInv.len{next:List (List Int)}{q:QG}(h:QInv next q)(hq:q.s.q≠[]){row:List Int}{i:QI}(hi:QIInv q.s.been q.s.q.tail row i):i.es.length-i.off<=next.length:=by
 have h1:i.es.length-i.off=((row.take i.j).foldl G1 ⟨q.s.been,q.s.q.tail⟩).q.length:=by rw[<-hi.q,List.length_drop]
 have h2:=Li (row.take i.j) ⟨q.s.been,q.s.q.tail⟩;have h3:=h.mu;have h4:=h.le;have h5:Wm ⟨q.s.been,q.s.q.tail⟩<=Wm q.s:=by simp[Wm]
 have h6:((row.take i.j).foldl G1 ⟨q.s.been,q.s.q.tail⟩).q.length<=Wm ((row.take i.j).foldl G1 ⟨q.s.been,q.s.q.tail⟩):=Nat.le_add_left _ _;omega
theorem QInv.next{next:List (List Int)}{q:QG}(h:QInv next q)(hq:q.s.q≠[]){a:Int}(ha:q.s.q=a::q.s.q.tail){row:List Int}(hr:Bj next a=row){i:QI}(hi:QIInv q.s.been q.s.q.tail row i)(hj:row.length<=i.j):
 QInv next ⟨F6 next q.s,i.es,i.off,i.g,q.gas-1⟩/\q.gas-1<q.gas/\(row.take i.j).foldl G1 ⟨q.s.been,q.s.q.tail⟩=F6 next q.s:=by
 have hb:(row.take i.j).foldl G1 ⟨q.s.been,q.s.q.tail⟩=F6 next q.s:=by
  rw[List.take_of_length_le hj];unfold F6;rw[ha];simp only[List.tail_cons,hr]
 have hm:=Yp (next:=next) hq;have hmu:=h.mu;have hle:=h.le;refine⟨⟨Yo h.inv,by rw[<-hb];exact hi.q.symm,hi.off,by show Wm (F6 next q.s)<q.gas-1;omega,by show q.gas-1<=_;omega,?_⟩,by omega,hb⟩;rw[<-h.tgt];show _=(U7 next q.gas q.s).been;rw[show q.gas=(q.gas-1)+1 by omega,Yn hq,Nat.add_sub_cancel]
theorem QInv.done{next:List (List Int)}{q:QG}(h:QInv next q)(hl:q.es.length-q.off=0):q.s.been=bU next:=by
 have:q.s.q=[]:=by rw[h.qe];exact List.drop_eq_nil_of_le (by omega)
 rw[<-h.tgt,bT this]
theorem Io{n:Nat}{e:As}{h:Ab}(b0 i j:Nat){p:Bool}{sz0:Nat}{es:List (List AV)}{cs:List AV}{x:AV}(y:AV)(hb0:h b0=some (.row p sz0 es))(hi:es[i]?=some cs)(hj:cs[j]?=some x)(hxy: ∀H ι v,Rel H ι x v->Rel H ι y v)(h1:y.cell1=true):
 Ghost ⟨n,e,h⟩ ⟨n,e,hput h b0 (.row p sz0 (es.set i (cs.set j y)))⟩:=fun H ι a w hs=>by
 obtain⟨u1,u2⟩:=hs.heap.recell hb0 hi hj (y:=y) (fun v hv=>hxy _ _ v hv) h1;exact⟨H,ι,⟨hs.n,hs.d,hs.env,u1⟩,u2⟩
section
variable {next : List (List Int)} {reach : List Bool} {a : Int} {i k : Nat} {r : Bool} {row : List Int}
end
section
variable {f : BFunc} {k : Nat}
structure FP(tk tgt:List Int)(q:fM):Prop where
  on:0<=q.c->FInv2 tk tgt q
  off:q.c<0->q.acc=tgt
def iQ(q:fM):Nat:=if 0<=q.c then q.g+1 else 0
theorem FP.next(hle:f.leads){tgt:List Int}{q:fM}(h:FP f.tk tgt q)(hc:0<=q.c)(hb:0<=iget f.tk q.c):FP f.tk tgt ⟨iget f.tk q.c,q.acc++[iget f.tk q.c],q.g-1⟩/\iQ ⟨iget f.tk q.c,q.acc++[iget f.tk q.c],q.g-1⟩<iQ q:=by
 have hin:=GI hle f.reach;obtain⟨h1,h2⟩:=(h.on hc).next hin (by rw[bne_iff_ne];show iget f.tk q.c≠ -1;omega);refine⟨⟨fun _=>h1,fun hh=>absurd hb (by show ¬_;simp only at hh;omega)⟩,?_⟩;unfold iQ;simp only[if_pos hc];split<;>omega
theorem FP.len{tgt tk:List Int}{q:fM}(h:FP tk tgt q)(hc:0<=q.c):q.acc.length<=tk.length+1:=by
 have:=(h.on hc).len;omega
end
def noHead(paths:List (List Int))(a:Int)(k:Nat):Prop:=∀j q,j<k->paths[j]?=some q->(decide (q.length>0)&&E8 q==a)=false
theorem noHead.zero(paths:List (List Int))(a:Int):noHead paths a 0:=fun j q h=>absurd h (Nat.not_lt_zero _)
theorem noHead.none{paths:List (List Int)}{a:Int}{k:Nat}(h:noHead paths a k)(hk:paths.length<=k):aY paths a= -1:=UO fun p hp=>by
 obtain⟨j,hj⟩:=List.getElem?_of_mem hp;have:=(List.getElem?_eq_some_iff.1 hj).1;exact h j p (by omega) hj
set_option maxRecDepth 100000
theorem Vn(k:Int)(g:BFunc):APure Tryz.prog 126 [.agg [.int .i64 k],.agg g.cells] (fun r=>r= .agg (⟨k,⟨[]⟩,[],g⟩:OPass).cells):=by
 refine APure.of_body (n:=9) Ah Tryz.func126 rfl rfl ?_;refine wk 40 ?_;refine ax 2 (Fx 1 0) ?_;refine ax 3 (Fx 2 1) ?_;refine ax 4 (Ew Ah 2) ?_;refine wk 9 ?_;refine AGo.ghost (Io 2 0 1 (.lst false []) rfl rfl rfl (fun _ _ _=>Sh) rfl) ?_;refine AGo.ghost (Io 2 0 2 (.lst false []) rfl rfl rfl (fun _ _ _=>Sh) rfl) ?_;refine wk 40 ?_;exact⟨[_],⟨⟨_,_,_,_,rfl,rfl,.ptr _ _ _ _ _ _ _ _ rfl rfl rfl,rfl⟩,trivial⟩,rfl,rfl⟩
theorem Rj(k:Int)(fo:Nat){fn:Func}(hf:Tryz.prog.funcs[fo]?=some fn)(hn:(fn.name== "runtime.NumGoroutine")=false)(hb:fn.body.isSome=true)(f g:BFunc)(c:Cert)(hO:APure Tryz.prog fo [.agg f.cells] (fun r=>r= .tup [.agg g.cells,.agg c.cells])):APure Tryz.prog 128 [.agg [.int .i64 k,.val (.func (.func fo) #[] #[])],.agg f.cells] (fun r=>r= .tup [.agg g.cells,.agg (⟨k,c,[],g⟩:OPass).cells]):=by
 refine APure.of_body (n:=24) Ah Tryz.func128 rfl rfl ?_;refine wk 40 ?_;refine ax 2 (Fx 2 0) ?_;refine ax 3 (Fx 2 1) ?_;refine ax 4 (Ew Ah 2) ?_;refine ax 5 (Ew Ah 3) ?_;refine wk 40 ?_;refine ax 13 (Xu rfl rfl hf hn hb rfl rfl hO) ?_;refine wk 40 ?_;refine ax 6 (Ew Ah 4) ?_;refine ax 7 (Ew Ah 5) ?_;refine wk 40 ?_;refine ax 19 (DX Tryz.func126 (Vn k g)) ?_;exact jp
theorem ew(k:Int)(f g:BFunc)(ps:List (List Int))(hO:APure Tryz.prog 144 [.agg f.cells] (fun r=>r= .tup [.agg g.cells,AU ps])):APure Tryz.prog 142 [.agg [.int .i64 k],.agg f.cells] (fun r=>r= .tup [.agg g.cells,.agg (⟨k,⟨[]⟩,ps,g⟩:OPass).cells]):=by
 refine APure.of_body (n:=22) Ah Tryz.func142 rfl rfl ?_;refine wk 40 ?_;refine ax 2 (Fx 1 0) ?_;refine ax 3 (Fx 2 1) ?_;refine ax 4 (Ew Ah 2) ?_;refine ax 5 (Ew Ah 3) ?_;refine wk 40 ?_;refine ax 11 (DX Tryz.func144 hO) ?_;refine wk 40 ?_;refine ax 6 (Ew Ah 4) ?_;refine wk 40 ?_;refine ax 17 (DX Tryz.func126 (Vn k g)) ?_;exact jp
structure Rt(f:BFunc)(G:Int->OPass):Prop where
  c1:APure Tryz.prog 41 [.agg f.cells] (fun r=>r= .tup [.agg (G 1).f.cells,.agg (G 1).cert.cells])
  c2:APure Tryz.prog 42 [.agg f.cells] (fun r=>r= .tup [.agg (G 2).f.cells,.agg (G 2).cert.cells])
  c3:APure Tryz.prog 43 [.agg f.cells] (fun r=>r= .tup [.agg (G 3).f.cells,.agg (G 3).cert.cells])
  c4:APure Tryz.prog 144 [.agg f.cells] (fun r=>r= .tup [.agg (G 4).f.cells,AU (G 4).paths])
  e1:G 1=⟨1,(G 1).cert,[],(G 1).f⟩
  e2:G 2=⟨2,(G 2).cert,[],(G 2).f⟩
  e3:G 3=⟨3,(G 3).cert,[],(G 3).f⟩
  e4:G 4=⟨4,⟨[]⟩,(G 4).paths,(G 4).f⟩
section
variable {o : Oper} {e : As} {h : Ab}
theorem nB{f:BFunc}{G:Int->OPass}(hG:Rt f G){k:Int}(hk:kind35 k=true){recv:Operand}{args:Array Operand}{tys:Array TypeId}(ho:o.op= .call {callee:=.invoke recv "seedcorn/optimize.run",args:=args,argTypes:=tys})
 (hr:Ak e recv=some (.val (VX k))) (hx:AR e args.toList=some [.agg f.cells]):OLoc Tryz.prog o e h [] [] (some (.tup [.agg (G k).f.cells,.agg (G k).cells])):=by
 rcases UL hk with h1 | h1 | h1 | h1<;>subst h1
 . rw[congrArg OPass.cells hG.e1];exact J2 ho hr (fun w=>mt_cr _ w) (GN (by rfl)) Tryz.func128 (by kernel_rfl) rfl hx rfl (Rj 1 _ Tryz.func41 (by kernel_rfl) rfl f _ _ hG.c1)
 . rw[congrArg OPass.cells hG.e2];exact J2 ho hr (fun w=>mt_cr _ w) (GN (by rfl)) Tryz.func128 (by kernel_rfl) rfl hx rfl (Rj 2 _ Tryz.func42 (by kernel_rfl) rfl f _ _ hG.c2)
 . rw[congrArg OPass.cells hG.e3];exact J2 ho hr (fun w=>mt_cr _ w) (GN (by rfl)) Tryz.func128 (by kernel_rfl) rfl hx rfl (Rj 3 _ Tryz.func43 (by kernel_rfl) rfl f _ _ hG.c3)
 . rw[congrArg OPass.cells hG.e4];exact J2 ho hr (fun w=>mt_jr _ w) (GN (by rfl)) Tryz.func142 (by kernel_rfl) rfl hx rfl (ew 4 f _ _ hG.c4)
end
theorem SD(f:BFunc)(G:Int->OPass)(hG:Rt f G)(k:Int)(hk:kind35 k=true):APure Tryz.prog 21 [.agg f.cells,.int .i64 k] (fun r=>r= .tup [.agg (G k).f.cells,.agg (G k).cells,.int .i64 0]):=by
 refine APure.of_body (n:=28) Ah Tryz.func21 rfl rfl ?_;refine wk 40 ?_;refine ax 2 (Fx 2 0) ?_;refine ax 4 (Ew Ah 1) ?_;refine ax 5 (Ew Ah 2) ?_;refine wk 40 ?_;refine ax 13 (DX Tryz.func31 (Rc k)) ?_;rw[hk];refine wk 40 ?_;refine ax 23 (nB hG hk rfl rfl rfl) ?_;refine wk 40 ?_;refine ax 9 (Ew Ah 3) ?_;refine ax 10 (Ew Ah 4) ?_;refine wk 40 ?_;exact⟨[_,_,_],⟨⟨_,_,_,_,rfl,rfl,.ptr _ _ _ _ _ _ _ _ rfl rfl rfl,rfl⟩,⟨_,_,_,_,rfl,rfl,.ptr _ _ _ _ _ _ _ _ rfl rfl rfl,rfl⟩,rfl,trivial⟩,rfl,rfl⟩
end Go.Proofs.YtbbfelelocccmaaGreat.Sv
namespace Go.Proofs.YtbbfelelocccmaaGreat.Sv
open Go
theorem dt(z R i:Nat)(p:Nat->Bool)(hi:i<R)(hR:R<=100000):ACall Tryz.prog 106 [.ref z (nw R) 0 (nw R),.int .i64 (i:Int)] (hput hNew z (.row true 1 (Bk R p))) (fun r h'=>r= .tup []/\HSub (hput hNone z (.row true 1 (Bk R (fun v=>p v||v==i)))) h'):=by
 have hj:=SH hi;refine ACall.of_body (n:=14) Ah Tryz.func106 rfl rfl ?_;refine wk 3 ?_;refine dq 6 (Bx (r:=.int .i64 ((i/64:Nat):Int)) rfl rfl rfl (VM (by omega))) ?_;refine dq 7 (Ac Ah rfl rfl rfl rfl rfl rfl (Ap _ _ _) (Bd _ _).symm rfl (Int.natCast_nonneg _) (by omega)) ?_;refine dq 8 (AA Ah rfl rfl rfl (.ptr _ _ _ _ _ _ _ (Bt p (i/64)) (Ap _ _ _) (Bd _ _).symm (by rw[Nat.zero_add,Int.toNat_natCast];exact Cc hj)) rfl) ?_;refine dm 9 ?_;refine dq 10 (Bx (r:=.int .i64 ((i%64:Nat):Int)) rfl rfl rfl Zp) ?_;refine dq 11 (Bx (r:=.int .u64 ((wd (fun v=>v==i%64):Nat):Int)) rfl rfl rfl (YP (by omega))) ?_;refine dq 12 (Bx rfl rfl rfl (YO (fun v=>p (64*(i/64)+v)) (fun v=>v==i%64))) ?_;refine dq 13 (Ac Ah rfl rfl rfl rfl rfl rfl (Ap _ _ _) (Bd _ _).symm rfl (Int.natCast_nonneg _) (by omega)) ?_;refine DOps.w rfl rfl (o_store Ah (es:=Bk R p) (cs:=Bt p (i/64)) rfl rfl rfl rfl rfl (Ap _ _ _) (Bd _ _).symm (by rw[Nat.zero_add,Int.toNat_natCast];exact Cc hj) rfl (by decide) rfl (fun _=>rfl)) ?_;refine wk 1 ?_;refine⟨[],trivial,rfl,HSub.put (HSub.none _) ((Ap _ _ _).trans (congrArg (fun es=>some (AObj.row true 1 es)) ?_))⟩
 rw[Nat.zero_add,Int.toNat_natCast];exact(congrArg ((Bk R p).set (i/64)) (T3 p i)).symm.trans (JO (fun v hv=>by
  have:(v==i)=false:=by rw[beq_eq_false_iff_ne];intro e;exact hv (by rw[e])
  simp[this]))
theorem ii(z R i:Nat)(p:Nat->Bool)(hi:i<R)(hR:R<=100000):ACall Tryz.prog 108 [.ref z (nw R) 0 (nw R),.int .i64 (i:Int)] (hput hNew z (.row true 1 (Bk R p))) (fun r h'=>r= .tup []/\HSub (hput hNone z (.row true 1 (Bk R (fun v=>p v&& !(v==i))))) h'):=by
 have hj:=SH hi;refine ACall.of_body (n:=14) Ah Tryz.func108 rfl rfl ?_;refine wk 3 ?_;refine dq 6 (Bx (r:=.int .i64 ((i/64:Nat):Int)) rfl rfl rfl (VM (by omega))) ?_;refine dq 7 (Ac Ah rfl rfl rfl rfl rfl rfl (Ap _ _ _) (Bd _ _).symm rfl (Int.natCast_nonneg _) (by omega)) ?_;refine dq 8 (AA Ah rfl rfl rfl (.ptr _ _ _ _ _ _ _ (Bt p (i/64)) (Ap _ _ _) (Bd _ _).symm (by rw[Nat.zero_add,Int.toNat_natCast];exact Cc hj)) rfl) ?_;refine dm 9 ?_;refine dq 10 (Bx (r:=.int .i64 ((i%64:Nat):Int)) rfl rfl rfl Zp) ?_;refine dq 11 (Bx (r:=.int .u64 ((wd (fun v=>v==i%64):Nat):Int)) rfl rfl rfl (YP (by omega))) ?_;refine dq 12 (Bx rfl rfl rfl (OX (fun v=>p (64*(i/64)+v)) (fun v=>v==i%64))) ?_;refine dq 13 (Ac Ah rfl rfl rfl rfl rfl rfl (Ap _ _ _) (Bd _ _).symm rfl (Int.natCast_nonneg _) (by omega)) ?_;refine DOps.w rfl rfl (o_store Ah (es:=Bk R p) (cs:=Bt p (i/64)) rfl rfl rfl rfl rfl (Ap _ _ _) (Bd _ _).symm (by rw[Nat.zero_add,Int.toNat_natCast];exact Cc hj) rfl (by decide) rfl (fun _=>rfl)) ?_;refine wk 1 ?_;refine⟨[],trivial,rfl,HSub.put (HSub.none _) ((Ap _ _ _).trans (congrArg (fun es=>some (AObj.row true 1 es)) ?_))⟩
 rw[Nat.zero_add,Int.toNat_natCast];exact(congrArg ((Bk R p).set (i/64)) (WN p i)).symm.trans (JO (fun v hv=>by
  have:(v==i)=false:=by rw[beq_eq_false_iff_ne];intro e;exact hv (by rw[e])
  simp[this]))
theorem JP(z R:Nat)(hR:R<=100000):ACall Tryz.prog 98 [.int .i64 (R:Int)] (hput hNew z .free) (fun r h'=>r= .ref z (nw R) 0 (nw R)/\HSub (hput hNone z (.row true 1 (Bk R (fun _=>false)))) h'):=by
 refine ACall.of_body (n:=7) Ah Tryz.func98 rfl rfl ?_;refine wk 7 ?_;refine aq 4 (Bx (r:=.int .i64 ((R+63:Nat):Int)) rfl rfl rfl (bu (a:=R) (b:=63) (OW (by omega)))) ?_;refine aq 5 (Bx (r:=.int .i64 ((nw R:Nat):Int)) rfl rfl rfl (VM (by omega))) ?_;refine ax 6 (Az Ah (n:=nw R) (m:=nw R) z true rfl rfl rfl rfl rfl rfl rfl rfl (Ap _ _ _) rfl (Nat.zero_lt_succ _) rfl (Nat.le_refl _) (by unfold nw;show 8*_<=_;omega) (by unfold nw;simp only[maxLen];omega)) ?_;refine wk 3 ?_;refine⟨[_],⟨rfl,trivial⟩,rfl,HSub.put (HSub.none _) ((Ap _ _ _).trans (congrArg (fun es=>some (AObj.row true 1 es)) (W8 R)))⟩
theorem MS(z R:Nat)(p:Nat->Bool)(hR:R<=100000):ACall Tryz.prog 91 [.ref (z+16) (nw R) 0 (nw R),.int .i64 (R:Int)] (hput hNew (z+16) (.row true 1 (Bk R p))) (fun r h'=>r=Ch (Gz R p)/\HSub (hput hNone (z+16) (.row true 1 (Bk R p))) h'):=by
 refine ACall.of_body (n:=29) Ah Tryz.func91 rfl rfl ?_;refine wk 7 ?_;refine ax 8 (Az Ah (n:=R) (m:=R) 0 true rfl rfl rfl (rfl) (rfl) rfl rfl rfl rfl rfl (Nat.zero_lt_succ _) rfl (Nat.le_refl _) (by show 1*R<=_;omega) (by simp only[maxLen];omega)) ?_;refine wk 10 ?_;refine AGo.loopI (γ:=Nat) (fun k=>⟨29,(Aa (Aa (Aa (Aa A8 0 (.ref (z+16) (nw R) 0 (nw R))) 5 (.ref 0 R 0 R)) 10 (.int .i64 (R:Int))) 11 (.int .i64 (k:Int))),(hput (hput hNone (z+16) (.row true 1 (Bk R p))) 0 (.row true 1 (((Gz R p).take k).map A1++List.replicate (R-k) [AV.bool false])))⟩) (fun k=>k<=R) (fun k=>R-k) 0 (Sub.mk' Dw (by repeat(first | exact HSub.refl _ | exact HSub.none _ | exact AL _ | exact AG I0 | refine HSub.put ?_ (by first | rfl | exact Ap _ _ _ |((try simp only[hputs]);repeat(first | rfl | exact Ap _ _ _ | refine Ay (by exact Af (by omega)) ?_ | refine hrm_skip (by omega) ?_ | refine(Ct _ OA).trans ?_))) | refine AK ?_ I0 | refine BR ?_ (by decide)))) (Nat.zero_le _) ?_
 intro k hk;refine wk 5 ?_;refine asp 12 (fun hb1=>?_) fun hb1=>?_
 .
  refine act ?_;have hkl:k<R:=by have h:=hb1;simp at h;exact h
  have hpk:(fun v=>p (64*(k/64)+v)) (k%64)=p k:=by show p (64*(k/64)+k%64)=p k;rw[Nat.div_add_mod]
  refine wk 13 ?_;refine aq 18 (Bx (r:=.int .i64 ((k/64:Nat):Int)) rfl rfl rfl (VM (by omega))) ?_;refine aq 19 (Ac Ah rfl rfl rfl rfl rfl rfl Bu (Bd _ _).symm rfl (Int.natCast_nonneg _) (by have:=SH hkl;omega)) ?_;refine aq 20 (AA Ah rfl rfl rfl (.ptr _ _ _ _ true 1 (Bk R p) (Bt p (k/64)) Bu (Bd _ _).symm (by rw[Nat.zero_add,Int.toNat_natCast];exact Cc (SH hkl))) rfl) ?_;refine wk 1 ?_;refine aq 22 (Bx (r:=.int .i64 ((k%64:Nat):Int)) rfl rfl rfl Zp) ?_;refine aq 23 (Bx rfl rfl rfl (gC (p:=fun v=>p (64*(k/64)+v)) (by omega))) ?_;refine aq 24 (Bx rfl rfl rfl (cO (fun v=>p (64*(k/64)+v)) (by omega))) ?_;refine aq 25 (Bx rfl rfl rfl (gD _)) ?_;refine aq 26 (Ac Ah rfl rfl rfl rfl rfl rfl rfl (Av (GQ R p) (Nat.le_of_lt hkl)) rfl (Int.natCast_nonneg _) (by omega)) ?_;refine AOps.w rfl rfl (o_store Ah rfl rfl rfl rfl rfl rfl (Av (GQ R p) (Nat.le_of_lt hkl)) (fill_get (GQ R p) hkl) rfl (by decide) rfl Ee) ?_;refine wk 2 ?_;refine aq 27 (Be rfl rfl hkl (by simp only[maxLen];omega)) ?_;refine wk 2 ?_;exact⟨k+1,Sub.mk' Cw (by repeat(first | exact HSub.refl _ | exact HSub.none _ | exact AL _ | exact AG I0 | refine HSub.put ?_ (by first | rfl | exact congrArg (fun es=>some (AObj.row true 1 es)) (BJ (f:=A1) (x:=p (64*(k/64)+k%64)) (GQ R p) ((SM hkl).trans (congrArg some hpk.symm))) |((try simp only[hputs]);repeat(first | rfl | exact Ap _ _ _ | refine Ay (by exact Af (by omega)) ?_ | refine hrm_skip (by omega) ?_ | refine(Ct _ OA).trans ?_))) | refine AK ?_ I0 | refine BR ?_ (by decide))),hkl,by omega⟩
 refine acf ?_;have hge:R<=k:=by have h:=hb1;simp at h;exact h
 refine wk 2 ?_;refine AGo.ghost (.freeze 5 0 rfl rfl (Av (GQ R p) hk)) ?_;rw[Cf (GQ R p) hge];refine wk 5 ?_;refine⟨[_],⟨rfl,trivial⟩,rfl,HSub.put (HSub.none _) Bu⟩
abbrev Fr(l:Nat):Fence:=Fence.wide.inRound l
section
variable {P : Program} {l n : Nat}
theorem Yk{f:FuncId}{args:Array Value}{w:World}{R:Ending->World->Prop}(h:Calls P f args w R):CallsIn (Fr l) n P f args w R:=callsIn_wide (n:=n).2 h
theorem Zk{row:String}{args:Array Value}{w:World}{R:Value->World->Prop}(h:Rows P row args w R):RowsIn (Fr l) n P row args w R:=fun c cs _=>
 let ⟨v,w',r,s⟩:=h c cs
 ⟨v,w',r,stepsIn_wide.2 s⟩
def J4(o:Oper):Bool:=match o.op with
  | .defer _=>false
  | _=>true
theorem VZ{o:Oper}{a:Act}{w:World}{N:Act->World->Prop}{Q:Exit->Act->World->Prop}(hd:J4 o=true)(h:o.wp P a w N Q):o.wpIn (Fr l) n P a w N Q:=by
 refine⟨fun _ _=>trivial,?_⟩;rw[Oper.semAt_eq _ _ _ (fun c e=>by unfold J4 at hd;rw[e]at hd;cases hd)];unfold Oper.wp at h;generalize(execOp a.eval o).run P w=res at h |-
 cases res with
 | ok x w'=>
  cases x with
  | value v=>exact h
  | skip=>exact h
  | defer d=>exact h
  | enter f args=>exact⟨fun e=>(by cases e),Yk h⟩
  | row r args=>exact⟨fun e=>(by cases e),Zk h⟩
  | _=>exact h.elim
 | halt x w'=>
  cases x with
  | panic v=>exact h
  | _=>exact h.elim
theorem V3{ops:Array Oper}{Q:Exit->Act->World->Prop}(hq: ¬LetsOut Q): ∀(L:List Oper),L.all J4=true->∀{a:Act} {w:World},wpList P ops Q L a w->wpListIn (Fr l) n P ops Q L a w
 | [],_,_,_,h=>h
 | o::L,hd,a,w,h=>by
  simp only[List.all_cons,Bool.and_eq_true]at hd;have ih:=@V3 ops Q hq L hd.2;unfold wpList at h;unfold wpListIn
  by_cases hw:Region.wanted o (yielded ops a.tmps)=true
  . rw[if_pos hw]at h |-;rcases h with h |⟨_,h⟩
    . exact VZ hd.1 (Oper.wp_mono (fun a' w' hx=>ih hx) h)
    . exact absurd h hq
  . rw[if_neg hw]at h |-;exact⟨fun _ _=>trivial,ih h⟩
def AGoR(P:Program)(l n:Nat)(c:Code)(s:Ai)(Q:Exit->Ai->Prop):Prop:=
  ∀H ι a w,Sim H ι s a w->c.wpIn (Fr l) n P (Post H ι s.h w Q) a w
variable {s s' : Ai} {Q : Exit -> Ai -> Prop}
theorem AGoR.skip(h:Q .normal s):AGoR P l n .skip s Q:=fun H ι a w hs=>wpIn_skip ⟨s,H,ι,h,hs,Step.refl _ _ _ _⟩
theorem AGoR.exit{id:Nat}(h:Q (.exit id) s):AGoR P l n (.exit id) s Q:=fun H ι a w hs=>wpIn_exit ⟨s,H,ι,h,hs,Step.refl _ _ _ _⟩
theorem AGoR.mono{c:Code}{Q':Exit->Ai->Prop}(h:AGoR P l n c s Q)(hq: ∀e s,Q e s->Q' e s):AGoR P l n c s Q':=fun H ι a w hs=>wpIn_mono (h H ι a w hs) fun e a' w' hp=>hp.mono (hq e)
theorem AGoR.seq{x y:Code}(h:AGoR P l n x s (B4 (fun s'=>AGoR P l n y s' Q) Q)):AGoR P l n (.seq x y) s Q:=by
 intro H ι a w hs;refine wpIn_seq (wpIn_mono (h H ι a w hs) fun e a' w' hp=>?_)
 cases e with
 | normal=>
  obtain⟨s',H',ι',q,r,t⟩:=hp;exact wpIn_mono (q H' ι' a' w' r) fun e a'' w'' hp'=>Post.step hs.heap r.heap t hp'
 | _=>exact hp
theorem AGoR.cond{t:Nat}{x y:Code}{b:Bool}(he:s.env t=some (.bool b))(h1:b=true->AGoR P l n x s Q)(h2:b=false->AGoR P l n y s Q):AGoR P l n (.cond (.tmp t) x y) s Q:=by
 intro H ι a w hs;obtain⟨v,hv,hr⟩:=hs.env t _ he
 cases hr
 have hev:a.eval (.tmp t)= .bool b:=by simp[Act.eval,hv]
 exact wpIn_cond_split hev (fun e=>h1 e H ι a w hs) (fun e=>h2 e H ι a w hs)
theorem AGoR.cond_true{t:Nat}{x y:Code}(b:Bool)(he:s.env t=some (.bool b))(hb:b=true)(h:AGoR P l n x s Q):AGoR P l n (.cond (.tmp t) x y) s Q:=
 AGoR.cond he (fun _=>h) (fun h2=>by rw[hb]at h2;cases h2)
theorem AGoR.cond_false{t:Nat}{x y:Code}(b:Bool)(he:s.env t=some (.bool b))(hb:b=false)(h:AGoR P l n y s Q):AGoR P l n (.cond (.tmp t) x y) s Q:=
 AGoR.cond he (fun h2=>by rw[hb]at h2;cases h2) (fun _=>h)
theorem AGoR.block{id:Nat}{c:Code}(h:AGoR P l n c s (Rw id Q)):AGoR P l n (.block id c) s Q:=by
 intro H ι a w hs;refine wpIn_block (wpIn_mono (h H ι a w hs) fun e a' w' hp=>?_);exact jD
theorem AGoR.ghost{c:Code}(hg:Ghost s s')(h:AGoR P l n c s' Q):AGoR P l n c s Q:=fun H ι a w hs=>by
 obtain⟨H',ι',h1,h2⟩:=hg H ι a w hs;exact wpIn_mono (h H' ι' a w h1) fun e a' w' hp=>Post.step hs.heap h1.heap h2 hp
theorem AGoR.sub{c:Code}(hg:Sub s' s)(h:AGoR P l n c s' Q):AGoR P l n c s Q:=AGoR.ghost (.of_sub hg) h
theorem AGoR.split{c:Code}{m:Nat}{e:As}{h:Ab}(d:Nat){b:Bool}(he:e d=some (.bool b))(h1:b=true->AGoR P l n c ⟨m,Aa e d (.bool true),h⟩ Q)(h2:b=false->AGoR P l n c ⟨m,Aa e d (.bool false),h⟩ Q):AGoR P l n c ⟨m,e,h⟩ Q:=by
 exact cI
theorem AGoR.loop{γ:Type}{c:Code}(I:γ->Ai->Prop)(μ:γ->Nat)(g0:γ)(h0:I g0 s)
 (round: ∀g s,I g s->AGoR P l n c s (B4 (fun s'=>∃g',I g' s'/\μ g'<μ g) Q)):AGoR P l n (.loop c) s Q:=by
 intro H ι a w hs b k cs hro hb hr;have key: ∀m g s1 H1 ι1 a1 w1,μ g=m->I g s1->Sim H1 ι1 s1 a1 w1->Step H ι s.h w H1 ι1 s1.h w1->
  ∃e a' w',Post H ι s.h w Q e a' w'/\ArrivesIn (Machine.fenced P (Fr l)) P (lone (b.atR a1 (.code c:: .inLoop c::k)) cs w1) b k cs e a' w':=by
  intro m
  induction m using Nat.strongRecOn with
  | _ m ih=>
   intro g s1 H1 ι1 a1 w1 hn hI hs1 hst;obtain⟨e,a₂,w₂,hq,harr⟩:=round g s1 hI H1 ι1 a1 w1 hs1 b (.inLoop c::k) cs hro hb hr;obtain⟨s2,H2,ι2,q,r,t⟩:=hq;have t':=hst.trans hs.heap hs1.heap t
   cases e with
   | normal=>
    obtain⟨g',hI',hlt⟩:=q;obtain⟨e₂,a₃,w₃,hq₂,harr₂⟩:=ih (μ g') (hn▸hlt) g' s2 H2 ι2 a₂ w₂ rfl hI' r t';exact⟨e₂,a₃,w₃,hq₂,.of_steps (StepsIn.trans harr (.one (fenced_calm hb hr rfl) stepR_inLoop)) harr₂⟩
   | exit id=>exact⟨.exit id,a₂,w₂,⟨s2,H2,ι2,q,r,t'⟩,.pass (x:=.inLoop c) rfl (fun _ _=>.inl (by simp)) harr⟩
   | goto t=>exact⟨.goto t,a₂,w₂,⟨s2,H2,ι2,q,r,t'⟩,.pass (x:=.inLoop c) rfl (fun _ _=>.inl (by simp)) harr⟩
   | ret=>exact⟨.ret,a₂,w₂,⟨s2,H2,ι2,q,r,t'⟩,.pass (x:=.inLoop c) rfl (fun _ _=>.inl (by simp)) harr⟩
   | panic ch=>exact⟨.panic ch,a₂,w₂,⟨s2,H2,ι2,q,r,t'⟩,.pass (x:=.inLoop c) rfl (fun _ _=>.inl (by simp)) harr⟩
   | outgrown=>exact⟨.outgrown,a₂,w₂,⟨s2,H2,ι2,q,r,t'⟩,.pass (x:=.inLoop c) rfl (fun _ _=>.inl (by simp)) harr⟩
 obtain⟨e,a',w',hq,harr⟩:=key (μ g0) g0 s H ι a w rfl h0 hs (Step.refl _ _ _ _);exact⟨e,a',w',hq,.of_steps (.one (fenced_calm hb hr rfl) stepR_loop) harr⟩
theorem AGoR.loopI{γ:Type}{c:Code}(inv:γ->Ai)(F:γ->Prop)(μ:γ->Nat)(g0:γ)(h0:Sub (inv g0) s)(hF:F g0)
 (round: ∀g,F g->AGoR P l n c (inv g) (B4 (fun s'=>∃g',Sub (inv g') s'/\F g'/\μ g'<μ g) Q)):AGoR P l n (.loop c) s Q:=
 AGoR.loop (fun g s'=>Sub (inv g) s'/\F g) μ g0 ⟨h0,hF⟩ fun g s' hs=>AGoR.sub hs.1 ((round g hs.2).mono fun e s'' hq=>by
  cases e with
  | normal=>obtain⟨g',h1,h2,h3⟩:=hq;exact⟨g',⟨h1,h2⟩,h3⟩
  | _=>exact hq)
theorem AGoR.region{id:Nat}{ops:Array Oper}(hd:ops.toList.all J4=true)(h:AOps P ops ops.toList s (fun s'=>Q .normal s')):AGoR P l n (.region id ops false) s Q:=fun H ι a w hs=>by
 have hpost: ∀e a2 w2,Post H ι s.h w (B4 (fun s'=>Q .normal s') fun _ _=>False) e a2 w2->Post H ι s.h w Q e a2 w2:=fun e a2 w2 hp=>by
  obtain⟨s',H',ι',q,r⟩:=hp
  cases e<;>first | exact⟨s',H',ι',q,r⟩ | exact q.elim
 have hlo: ¬LetsOut (Post H ι s.h w (B4 (fun s'=>Q .normal s') fun _ _=>False)):=fun⟨a,w,s',H',ι',q,r⟩=>q
 exact wpIn_mono (wpIn_region_list (V3 hlo _ hd (h H ι a w hs))) hpost
end
end Go.Proofs.YtbbfelelocccmaaGreat.Sv
namespace Go.Proofs.YtbbfelelocccmaaGreat.Sv
open Go Go.RowKit
def AObj.noMap:AObj->Bool
  | .map _=>false
  | .iter0=>false
  | _=>true
def NoMap(h:Ab):Prop:=∀b o,h b=some o->o.noMap=true
theorem NoMap.new:NoMap hNew:=fun b o h=>by cases h;rfl
theorem NoMap.put{h:Ab}(hh:NoMap h)(b:Nat){o:AObj}(ho:o.noMap=true):NoMap (hput h b o):=fun c q hq=>by
 by_cases hc:c=b
 . subst hc;rw[Ap]at hq;cases hq;exact ho
 . rw[AF _ _ hc]at hq;exact hh c q hq
theorem NoMap.none:NoMap hNone:=fun b o h=>by cases h
theorem HeapRel.grownO{H:Ax}{ι:Ba}{h:Ab}{w w':World}{row:Option Nat}(hr:HeapRel H ι h w)(hm:NoMap h)(hg:w.grownBy w' row)(hrow: ∀r,row=some r->∃o:Obj,w.heap[r]?=some o/\o.isCells=false):HeapRel H ι h w':=by
 have key: ∀(b:Nat) (c:Array Value) (T:TypeId) (fr:Nat×Nat),w.heap[b]?=some (Obj.cells c T fr)->w'.heap[b]?=some (Obj.cells c T fr):=fun b c T fr hb=>by
  refine(hg.block b (Array.getElem?_eq_some_iff.1 hb).1 (fun e=>?_)).trans hb;obtain⟨o,ho,hc⟩:=hrow b e.symm;rw[hb]at ho;cases ho;cases hc
 refine⟨fun b c hb=>?_,hr.free,fun b o h1 h2=>?_,hr.inj,hr.glob⟩
 . obtain⟨T,fr,e⟩:=hr.know b c hb;exact⟨T,fr,key _ _ _ _ e⟩
 . obtain⟨r,e1,e2,e3⟩:=hr.obj b o h1 h2;refine⟨r,e1,?_,e3⟩
   cases o with
   | free=>trivial
   | map kvs=>have:=hm b _ h1;cases this
   | iter0=>have:=hm b _ h1;cases this
   | row p sz es=>
    obtain⟨r1,r2,r3,r4,r5,r6⟩:=e2;refine⟨r1,r2,r3,r4,r5,fun hsol=>?_⟩;obtain⟨c,T,⟨fr,q1,q2⟩,q3,q4⟩:=r6 hsol;exact⟨c,T,⟨fr,key _ _ _ _ q1,q2⟩,q3,q4⟩
theorem Step.grown{H:Ax}{ι:Ba}{h:Ab}{w:World}{H':Ax}{ι':Ba}{h':Ab}{w' w'':World}{row:Option Nat}(st:Step H ι h w H' ι' h' w')(hg:w'.grownBy w'' row)(hrow: ∀r,row=some r->w.heap.size<=r):Step H ι h w H' ι' h' w'' where
 size:=Nat.le_trans st.size hg.size
 os:=hg.os.trans st.os
 out:=hg.output.trans st.out
 keep:=fun rb hlt hno=>by
  refine(hg.block rb (Nat.lt_of_lt_of_le hlt st.size) (fun e=>?_)).trans (st.keep rb hlt hno);have:=hrow rb e.symm;omega
 kle:=st.kle
 knew:=st.knew
 lle:=st.lle
 lframe:=st.lframe
 newrb:=st.newrb
 dom:=st.dom
theorem Step.others{H:Ax}{ι:Ba}{h:Ab}{w:World}{H':Ax}{ι':Ba}{h':Ab}{w':World}(hr:HeapRel H ι h w)(hm:NoMap h)(st:Step H ι h w H' ι' h' w'):KeepsOthers w w':=
 ⟨st.size,fun k o hk ho=>by
  have hlt:=(Array.getElem?_eq_some_iff.1 hk).1;refine(st.keep k hlt ?_).trans hk
  rintro⟨b,q,r,h1,h2,h3,h4,h5⟩
  obtain⟨r',e1,e2,_⟩:=hr.obj b q h1 h2;rw[h3]at e1;cases e1
  cases q with
  | free=>cases h2
  | map kvs=>have:=hm b _ h1;cases this
  | iter0=>have:=hm b _ h1;cases this
  | row p sz es=>
   obtain⟨_,_,_,_,_,r6⟩:=e2;obtain⟨c,T,⟨fr,q1,_⟩,_,_⟩:=r6 h4;rw[h5]at q1;rw[hk]at q1;cases q1;cases ho⟩
theorem Step.of_sub{H:Ax}{ι:Ba}{h h':Ab}{w:World}(hh:HSub h' h):Step H ι h w H ι h' w:=⟨Nat.le_refl _,rfl,rfl,fun _ _ _=>rfl,KLe.refl _,fun _ h=>.inl h,LLe.refl _,fun _ _=>rfl,fun _ _ h _=>.inl h,fun b hb=>by
 cases e:h' b with
 | none=>rfl
 | some o=>rw[hh b o e]at hb;cases hb⟩
section
variable {P : Program}
theorem YN{α:Type}{s:Ai}{H:Ax}{ι:Ba}{a:Act}{w:World}(hs:Sim H ι s a w){g:Operand}{p d ida:Nat}{oa:Oper}{body:Code}{Q:Exit->Act->World->Prop}{gf:Nat}{cs:List AV}
 (hoa:oa.op= .assign (.tmp p)) (hda:oa.dst=some d) (hga:oa.guard=none) (hp:p<s.n) (hd:d<s.n) (hpd:p≠d)
 (hg:Ak s.env g=some (.fn (.func gf) [] cs)) (eg: ∀args w,(callFunc gf args).run P w= .ok (.enter gf args) w)
 {enc:α->Value} {av:α->AV} (hav: ∀x H ι,Rel H ι (av x) (enc x)) {S:List α->Prop} {N:Nat}
 (hseq: ∀lb:Array Value,lb.size=cs.length->(∀(j:Nat) (x:AV) (v:Value),cs[j]?=some x->lb[j]?=some v->Rel H ι x v)->SeqStopsK Fence.wide 3 P gf lb (fun x=> #[enc x]) (fun _ _=>True) S (fun _=>True) N w)
 (e0:As) (hI:List α->Ab) (he0:ESub e0 s.env) (hm0:NoMap s.h) (hm: ∀pre,NoMap (hI pre)) (h0:HSub (hI []) s.h)
 (hbody: ∀(l:Nat) (pre:List α) (x:α),pre.length<N->AGoR P l 2 body ⟨s.n,Aa (Aa e0 p (av x)) d (av x),hI pre⟩ (B4 (fun s'=>HSub (hI (pre++[x])) s'.h) (fun _ _=>False)))
 (hdone: ∀(D:Nat) (xs:List α) (W:World) (H':Ax) (ι':Ba),w.heap.size<=D->S xs->HeapRel H' ι' (hI xs) W->Step H ι s.h w H' ι' (hI xs) W->W.heap[D]?=some (.deferred (some []))->Q .normal {tmps:=a.tmps,defers:=[{target:=.collected D,args:= #[]}]} W):
 (Code.rangeFunc g #[p] (.region ida #[oa] false) body).wp P Q a w:=by
 obtain⟨us,lb,hge,hus,hlb,_,hrl⟩: ∃us lb,a.eval g= .func (.func gf) us lb/\([]:List AV).length=us.size/\cs.length=lb.size/\True/\∀(j:Nat) (x:AV) (v:Value),cs[j]?=some x->lb[j]?=some v->Rel H ι x v:=by
  obtain⟨us,vs,e1,e2,e3,_,e5⟩:=(Am hs hg).fn_inv;exact⟨us,vs,e1,e2,e3,trivial,e5⟩
 have hus':us= #[]:=by
  cases us with
  | mk l=>cases l with
   | nil=>rfl
   | cons y l=>simp at hus
 subst hus';refine wpIn_wide (n:=4).1 ?_;have hpn:p<a.tmps.size:=by rw[hs.n];exact hp
 have hdn:d<a.tmps.size:=by rw[hs.n];exact hd
 have hI0: ∃H' ι',HeapRel H' ι' (hI []) w/\Step H ι s.h w H' ι' (hI []) w:=⟨H,ι,hs.heap.sub h0,Step.of_sub h0⟩
 refine wpIn_rangeFunc_ownF (F:=Fence.wide) (n:=4) (α:=α) (Q:=Q) (a:=a) (w:=w) (w0:=w) rfl (by decide) hge trivial eg (hseq lb hlb.symm hrl) (fun _ _=>trivial) (fun _ _ _ _ _ _ _ _=>trivial) (Below.refl _ _) (fun _=>rfl)
  (fun pre W=>∃H' ι',HeapRel H' ι' (hI pre) W/\Step H ι s.h w H' ι' (hI pre) W) (fun _ _ _=>False) ?_ (fun _ _ _ _ _ h _ _=>h) hI0
  (fun x=>{tmps:=(a.tmps.setIfInBounds p (enc x)).setIfInBounds d (enc x),defers:=[]}) ?_ ?_ ?_ (fun _ _ _ _ _ _ h _=>h.elim)
 . rintro pre W W' row ⟨H',ι',k1,k2⟩ hg' hr
   exact⟨H',ι',k1.grownO (hm pre) hg' (fun r e=>(hr r e).2),k2.grown hg' (fun r e=>(hr r e).1)⟩
 . intro l x W K hK;refine wpIn_region_list ?_;show wpListIn _ _ P _ _ [oa] _ W;unfold wpListIn;have hw:Region.wanted oa (yielded #[oa] (((#[p].zip #[enc x]).foldl (fun t (q:Nat×Value)=>t.setIfInBounds q.1 q.2) a.tmps)))=true:=by simp[Region.wanted,hga]
   rw[if_pos hw];refine VZ (by unfold J4;rw[hoa]) ?_;unfold Oper.wp;simp only[execOp,hoa,Sem.run_pure,Oper.upon];have e1:(#[p].zip #[enc x]).foldl (fun t (q:Nat×Value)=>t.setIfInBounds q.1 q.2) a.tmps=a.tmps.setIfInBounds p (enc x):=by simp
   have e2:({tmps:=a.tmps.setIfInBounds p (enc x),defers:=[]}:Act).eval (.tmp p)=enc x:=by
    simp[Act.eval,hpn]
   show K _ W;rw[hda];simpa[Act.put,Act.eval,hpn]using hK
 . rintro l pre x W ⟨H',ι',k1,k2⟩ hlt
   have hsim:Sim H' ι' ⟨s.n,Aa (Aa e0 p (av x)) d (av x),hI pre⟩ {tmps:=(a.tmps.setIfInBounds p (enc x)).setIfInBounds d (enc x),defers:=[]} W:=by
    refine⟨by simp[hs.n],rfl,fun t y hy=>?_,k1⟩
    by_cases htd:t=d
    . subst htd;have hy':Aa (Aa e0 p (av x)) t (av x) t=some y:=hy;rw[Cm]at hy';cases hy';exact⟨enc x,by simp[hdn],hav x _ _⟩
    . have hy':Aa (Aa e0 p (av x)) d (av x) t=some y:=hy;rw[DU _ _ htd]at hy'
      by_cases htp:t=p
      . subst htp;rw[Cm]at hy';cases hy';refine⟨enc x,?_,hav x _ _⟩;show((a.tmps.setIfInBounds t (enc x)).setIfInBounds d (enc x))[t]?=_;rw[Array.getElem?_setIfInBounds_ne (fun e=>htd e.symm)];simp[hpn]
      . rw[DU _ _ htp]at hy';obtain⟨v,v1,v2⟩:=hs.env t y (he0 t y hy');refine⟨v,?_,v2.mono k2.kle k2.lle⟩;show((a.tmps.setIfInBounds p (enc x)).setIfInBounds d (enc x))[t]?=_;rw[Array.getElem?_setIfInBounds_ne (fun e=>htd e.symm),Array.getElem?_setIfInBounds_ne (fun e=>htp e.symm)];exact v1
   refine wpIn_mono (hbody l pre x hlt H' ι' _ W hsim) fun e a' W' hp=>?_
   obtain⟨s',H2,ι2,q,r,t⟩:=hp
   cases e with
   | normal=>
    have t2:Step H' ι' (hI pre) W H2 ι2 (hI (pre++[x])) W':=t.trans k1 r.heap (Step.of_sub q);exact⟨t.others k1 (hm pre),trivial,H2,ι2,r.heap.sub q,k2.trans hs.heap k1 t2⟩
   | _=>exact q.elim
 . rintro D xs W hD hS ⟨H',ι',k1,k2⟩ hK
   have:a.defers=[]:=hs.d;have ha:{a with defers:={target:=.collected D,args:= #[]}::a.defers}=({tmps:=a.tmps,defers:=[{target:=.collected D,args:= #[]}]}:Act):=by rw[this]
   rw[ha];exact hdone D xs W H' ι' hD hS k1 k2 hK
def QD(ds:List Deferred)(K:Act->World->Prop)(a:Act)(w:World):Prop:=∃tm,a={tmps:=tm,defers:=ds}/\K {tmps:=tm,defers:=[]} w
theorem ZO(tm:Array Value)(ds:List Deferred)(d:Option Nat)(v:Value): ∃tm',({tmps:=tm,defers:=ds}:Act).put d v={tmps:=tm',defers:=ds}/\({tmps:=tm,defers:=[]}:Act).put d v={tmps:=tm',defers:=[]}:=by
 cases d with
 | none=>exact⟨tm,rfl,rfl⟩
 | some d=>exact⟨tm.setIfInBounds d v,rfl,rfl⟩
def Fz(o:Oper):Bool:=match o.op with
  | .load .. | .store .. =>true
  | _=>false
theorem Ug{o:Oper}(hd:Fz o=true){ρ:Operand->Value}{w w':World}{x:Next}(h:(execOp ρ o).run P w= .ok x w'):(∃v,x= .value v)\/x= .skip:=by
 unfold Fz at hd;unfold execOp at h
 cases ho:o.op<;>rw[ho]at hd h<;>first |(cases hd;done) | skip
 . simp only[Sem.run_bind,Sem.run_pure]at h;generalize(Instr.loadAt _ _).run P w=r at h
   cases r with
   | ok v w1=>simp only[Result.andThen_ok]at h;cases h;exact .inl ⟨v,rfl⟩
   | halt y w1=>cases h
 . simp only[Sem.run_bind,Sem.run_pure]at h;generalize(Instr.storeAt _ _ _).run P w=r at h
   cases r with
   | ok v w1=>simp only[Result.andThen_ok]at h;cases h;exact .inr rfl
   | halt y w1=>cases h
theorem dI{o:Oper}{tm:Array Value}{ds:List Deferred}{w:World}{K:Act->World->Prop}{Q:Exit->Act->World->Prop}(hd:Fz o=true)(h:o.wp P {tmps:=tm,defers:=[]} w K Q):o.wp P {tmps:=tm,defers:=ds} w (QD ds K) (fun e=>QD ds (Q e)):=by
 unfold Oper.wp at h |-;have e:(execOp ({tmps:=tm,defers:=ds}:Act).eval o)=execOp ({tmps:=tm,defers:=[]}:Act).eval o:=by
  congr 1
 rw[e];have hnd: ∀x w',(execOp ({tmps:=tm,defers:=[]}:Act).eval o).run P w= .ok x w'->(∃v,x= .value v)\/x= .skip:=fun x w' hx=>Ug hd hx
 generalize(execOp ({tmps:=tm,defers:=[]}:Act).eval o).run P w=res at h hnd |-;have hput: ∀v w',K (({tmps:=tm,defers:=[]}:Act).put o.dst v) w'->QD ds K (({tmps:=tm,defers:=ds}:Act).put o.dst v) w':=fun v w' hk=>by
  obtain⟨tm',e1,e2⟩:=ZO tm ds o.dst v;rw[e2]at hk;exact⟨tm',e1,hk⟩
 cases res with
 | ok x w'=>
  rcases hnd x w' rfl with⟨v,rfl⟩ | rfl
  . exact hput v w' h
  . exact hput _ w' h
 | halt x w'=>
  cases x with
  | panic v=>exact⟨tm,rfl,h⟩
  | _=>exact h.elim
theorem Rr{ops:Array Oper}{ds:List Deferred}{Q:Exit->Act->World->Prop}(hq: ¬LetsOut Q)(hd: ∀(i:Nat) o,ops[i]?=some o->Fz o=true): ∀(fuel:Nat) (L:Array Bool) (tm:Array Value) (w:World),wpAny P .any ops Q fuel L {tmps:=tm,defers:=[]} w->wpAny P .any ops (fun e=>QD ds (Q e)) fuel L {tmps:=tm,defers:=ds} w
 | 0,L,tm,w,h=>⟨h.1,tm,rfl,h.2⟩
 | fuel+1,L,tm,w,h=>by
  refine⟨fun h0=>⟨tm,rfl,h.1 h0⟩,fun i hi=>?_⟩;have h1:=h.2 i hi;unfold wpOp at h1 |-;have go: ∀a w',QD ds (wpAny P .any ops Q fuel (L.setIfInBounds i true)) a w'->wpAny P .any ops (fun e=>QD ds (Q e)) fuel (L.setIfInBounds i true) a w':=fun a w' ⟨tm',e,hx⟩=>by
   subst e;exact Rr hq hd fuel _ tm' w' hx
  cases ho:ops[i]? with
  | none=>rw[ho]at h1;exact Rr hq hd fuel _ tm w h1
  | some o=>
   rw[ho]at h1;simp only at h1 |-
   by_cases hw:Region.wanted o (yielded ops tm)=true
   . rw[if_pos hw]at h1 |-;rcases h1 with h1 |⟨_,h1⟩
     . exact .inl (Oper.wp_mono (fun a w' hx=>go a w' hx) (dI (hd i o ho) h1))
     . exact absurd h1 hq
   . rw[if_neg hw]at h1 |-;obtain⟨tm',e1,e2⟩:=ZO tm ds o.dst undef;rw[e2]at h1;rw[e1];exact Rr hq hd fuel _ tm' w h1
theorem DOps.any{ops:Array Oper}{n:Nat}{e:As}{h:Ab}{K:Ai->Prop}(hd:DOps P ops n ops.toList e h [] K){H:Ax}{ι:Ba}{a:Act}{w:World}(hs:Sim H ι ⟨n,e,h⟩ a w):
 wpAny P .any ops (Post H ι h w (B4 K fun _ _=>False)) ops.size (Array.replicate ops.size false) a {w with drawn:=w.drawn+1}:=by
 obtain⟨cs,e',h',h1,h2,h3⟩:=hd;have hgrow: ∀rb,rb<w.heap.size->({w with drawn:=w.drawn+1}:World).heap[rb]?=w.heap[rb]?:=fun _ _=>rfl
 have hr':HeapRel H ι h {w with drawn:=w.drawn+1}:=hs.heap.grow hgrow;have hst:Step H ι h w H ι h {w with drawn:=w.drawn+1}:=Step.grow hgrow (Nat.le_refl _) rfl rfl;have hL0: ∀i,(Array.replicate ops.size false).getD i false=false:=fun i=>by
  by_cases hi:i<ops.size
  . simp[hi]
  . simp[hi]
 have hm0: ∀{V:Type} (l:List (TW V)) (g:Nat->V),BW (fun i=>(Array.replicate ops.size false).getD i false) l 0 g=g:=fun l g=>funext fun x=>EI fun i u _ _=>hL0 _
 refine FI (fun e a' w' hp=>?_) _ _ _ _ (Qa (I:=fun _=>True) (D:=[]) (K:=K) h1 trivial (by simpa using h2) h3 hs.heap ops.size (Array.replicate ops.size false) H ι a {w with drawn:=w.drawn+1}
  ⟨by simp,fun i hi=>by rw[hL0]at hi;cases hi⟩ (by unfold todo;simp) hs.d (by rw[hm0,hm0,hs.d0];exact⟨hs.n,hs.d,hs.env,hr'⟩) (by rw[hm0];exact hst))
 obtain⟨hD,s',H',ι',q,r,t⟩:=hp;have e2:{a' with defers:=[]}=a':=by cases a';simp only at hD;subst hD;rfl
 rw[e2]at r;exact⟨s',H',ι',q,r,t⟩
theorem cN{T:Nat->Option Ar}(hT:Cn P T)(hmx:P.follows .mixedOrders=true){fn:Func}{ops:Array Oper}{id D:Nat}{s:Ai}{H0 H:Ax}{ι0 ι:Ba}{h0:Ab}{tm:Array Value}{w0 w:World}{R:AV->Ab->Prop}
 (hld: ∀(i:Nat) o,ops[i]?=some o->Fz o=true) (hs:Sim H ι s {tmps:=tm,defers:=[]} w) (hnm:NoMap s.h) (hr0:HeapRel H0 ι0 h0 w0) (hst:Step H0 ι0 h0 w0 H ι s.h w) (hD:w0.heap.size<=D) (hK:w.heap[D]?=some (.deferred (some [])))
 (hd:DOps P ops s.n ops.toList s.env s.h [] (fun s'=>NoMap s'.h/\∃xs,Gy T s' fn.results.toList xs/\R (Fh xs) s'.h)):
 (Code.seq (.region id ops true) .ret).wp P (bodyPostM Fence.wide 3 P fn (fun e w'=>∃v r h' H' ι',e= .returned v/\R r h'/\Rel H' ι' r v/\HeapRel H' ι' h' w'/\Step H0 ι0 h0 w0 H' ι' h' w')) {tmps:=tm,defers:=[{target:=.collected D,args:= #[]}]} w:=by
 have hlo: ¬LetsOut (Post H ι s.h w (B4 (fun s'=>NoMap s'.h/\∃xs,Gy T s' fn.results.toList xs/\R (Fh xs) s'.h) fun _ _=>False)):=fun⟨a,w,s',H',ι',q,r⟩=>q
 refine wp_seq (wp_mono (wp_region_any hmx (Rr (ds:=[{target:=.collected D,args:= #[]}]) hlo hld _ _ _ _ (DOps.any (K:=fun s'=>NoMap s'.h/\∃xs,Gy T s' fn.results.toList xs/\R (Fh xs) s'.h) hd hs))) fun e a' w' hp=>?_);obtain⟨tm',rfl,s',H',ι',q,r,t⟩:=hp
 cases e with
 | normal=>
  obtain⟨qn,xs,q1,q2⟩:=q;refine wp_ret ?_;have hoth:=t.others hs.heap hnm;have hK':=hoth.same D _ hK rfl;have hg:=grownBy_putObj' w' D (.deferred none);have hrow: ∀r,some D=some r->∃o:Obj,w'.heap[r]?=some o/\o.isCells=false:=fun r e=>by cases e;exact⟨_,hK',rfl⟩
  have hr2:=r.heap.grownO qn hg hrow;have hst2:Step H0 ι0 h0 w0 H' ι' s'.h (w'.putObj D (.deferred none)):=(hst.trans hr0 hs.heap t).grown hg (fun r e=>by cases e;exact hD);refine⟨by simp,.inl ⟨D,_,rfl,run_takeDeferred hK',?_⟩⟩;obtain⟨v,e1,e2⟩:=Ls hT (s:=s') (a:={tmps:=tm',defers:=[]}) ⟨r.n,rfl,r.env,hr2⟩ q1;exact⟨v,e2,v,_,_,H',ι',rfl,q2,e1,hr2,hst2⟩
 | _=>exact q.elim
end
end Go.Proofs.YtbbfelelocccmaaGreat.Sv
namespace Go.Proofs.YtbbfelelocccmaaGreat.Sv
open Go Go.RowKit
section
variable {P : Program}
def AW(P:Program)(Q:Exit->Act->World->Prop)(H0:Ax)(ι0:Ba)(h0:Ab)(w0:World)(c:Code)(s:Ai):Prop:=
  ∀H ι a w,Sim H ι s a w->Step H0 ι0 h0 w0 H ι s.h w->c.wp P Q a w
def AD(K:Act->World->Prop)(H0:Ax)(ι0:Ba)(h0:Ab)(w0:World)(s:Ai):Prop:=
  ∀H ι tm w D,Sim H ι s {tmps:=tm,defers:=[]} w->Step H0 ι0 h0 w0 H ι s.h w->w0.heap.size<=D->w.heap[D]?=some (.deferred (some []))->K {tmps:=tm,defers:=[{target:=.collected D,args:= #[]}]} w
variable {Q : Exit -> Act -> World -> Prop} {H0 : Ax} {ι0 : Ba} {h0 : Ab} {w0 : World} {s s' : Ai} {K : Act -> World -> Prop}
theorem AW.seq(hr:HeapRel H0 ι0 h0 w0){x y:Code}(h:AGo P x s (B4 (fun s'=>AW P Q H0 ι0 h0 w0 y s') (fun _ _=>False))):AW P Q H0 ι0 h0 w0 (.seq x y) s:=fun H ι a w hs hst=>by
 refine wp_seq (wp_mono (h H ι a w hs) fun e a' w' hp=>?_);obtain⟨s',H',ι',q,r,t⟩:=hp
 cases e with
 | normal=>exact q H' ι' a' w' r (hst.trans hr hs.heap t)
 | _=>exact q.elim
theorem fh{x y:Code}(h:AW P (fun e a w=>match e with
 | .normal=>y.wp P Q a w
 | e=>Q e a w) H0 ι0 h0 w0 x s):AW P Q H0 ι0 h0 w0 (.seq x y) s:=fun H ι a w hs hst=>by
 refine wp_seq (wp_mono (h H ι a w hs hst) fun e a' w' hp=>?_)
 cases e<;>exact hp
theorem AD.ghost(hr:HeapRel H0 ι0 h0 w0)(hg:Ghost s s')(h:AD K H0 ι0 h0 w0 s'):AD K H0 ι0 h0 w0 s:=fun H ι tm w D hs hst hD hK=>by
 obtain⟨H',ι',g1,g2⟩:=hg H ι _ w hs;exact h H' ι' tm w D g1 (hst.trans hr hs.heap g2) hD hK
theorem AW.range(hr:HeapRel H0 ι0 h0 w0){α:Type}{g:Operand}{p d ida b0:Nat}{oa:Oper}{body:Code}{gf:Nat}{cs:List AV}
 (hoa:oa.op= .assign (.tmp p)) (hda:oa.dst=some d) (hga:oa.guard=none) (hp:p<s.n) (hd:d<s.n) (hpd:p≠d)
 (hg:Ak s.env g=some (.fn (.func gf) [] cs)) (eg: ∀args w,(callFunc gf args).run P w= .ok (.enter gf args) w)
 (enc:α->Value) (av:α->AV) (hav: ∀x H ι,Rel H ι (av x) (enc x)) {S:List α->Prop} {N:Nat}
 (hseq: ∀H ι w,HeapRel H ι s.h w->∀lb:Array Value,lb.size=cs.length->(∀(j:Nat) (x:AV) (v:Value),cs[j]?=some x->lb[j]?=some v->Rel H ι x v)->SeqStopsK Fence.wide 3 P gf lb (fun x=> #[enc x]) (fun _ _=>True) S (fun _=>True) N w)
 (e0:As) (hI:List α->Ab) (he0:ESub e0 s.env) (hm0:NoMap s.h) (hm: ∀pre,NoMap (hI pre)) (h1:HSub (hI []) s.h)
 (hbody: ∀(l:Nat) (pre:List α) (x:α),pre.length<N->AGoR P l 2 body ⟨s.n,Aa (Aa e0 p (av x)) d (av x),hI pre⟩ (B4 (fun s'=>HSub (hI (pre++[x])) s'.h) (fun _ _=>False)))
 (hdone: ∀xs,S xs->AD (Q .normal) H0 ι0 h0 w0 ⟨s.n,s.env,hI xs⟩):
 AW P Q H0 ι0 h0 w0 (.block b0 (.rangeFunc g #[p] (.region ida #[oa] false) body)) s:=fun H ι a w hs hst=>by
 refine wp_block ?_;refine YN hs hoa hda hga hp hd hpd hg eg hav (hseq H ι w hs.heap) e0 hI he0 hm0 hm h1 hbody fun D xs W H' ι' hD hS hr' hst' hK=>?_
 show Q .normal _ W;refine hdone xs hS H' ι' _ W D ⟨hs.n,rfl,fun t x hx=>?_,hr'⟩ (hst.trans hr hs.heap hst') (Nat.le_trans hst.size hD) hK;obtain⟨v,e1,e2⟩:=hs.env t x hx;exact⟨v,e1,e2.mono hst'.kle hst'.lle⟩
theorem AGoR.join{l n:Nat}{R:Exit->Ai->Prop}{γ:Type}{c:Code}(inv:γ->Ai)(F:γ->Prop)(h:AGoR P l n c s (B4 (fun s'=>∃g,Sub (inv g) s'/\F g) R))(k: ∀g,F g->R .normal (inv g)):AGoR P l n c s R:=fun H ι a w hs=>
 wpIn_mono (h H ι a w hs) fun e a' w' hp=>by
  exact jB
theorem Ghost.freezeP{n:Nat}{e:As}{h:Ab}(t b:Nat){sz:Nat}{cs:List AV}(ht:e t=some (.ptr b 1 0 0))(hb:h b=some (.row true sz [cs])):Ghost ⟨n,e,h⟩ ⟨n,Aa e t (.loc cs),hrm h b⟩:=fun H ι a w hs=>by
 have hr:=hs.heap;obtain⟨r,hl,⟨r1,r2,r3,r4,r5,r6⟩,r7⟩:=hr.obj b _ hb rfl;have hsol:r.csz≠0:=by simp at r4;omega
 have hsubh: ∀x o,hrm h b x=some o->h x=some o:=fun x o hx=>by
  exact fV
 have hdom: ∀x,h x=none->hrm h b x=none:=fun x hx=>by
  cases e:hrm h b x with
  | none=>rfl
  | some o=>rw[hsubh x o e]at hx;cases hx
 obtain⟨c,TT,w1,w2,w3⟩:=r6 hsol;have hnone:H r.rb=none:=r7 hsol;have hkle:KLe H (Jw H r.rb c):=fun x c' e=>by
  rw[Em _ _ (fun hx=>by subst hx;rw[hnone]at e;cases e)];exact e
 have hsub:=hr.sub hsubh;have hheap:HeapRel (Jw H r.rb c) ι (hrm h b) w:=by
  refine⟨fun x c' e=>?_,hsub.free,fun x o h1 h2=>?_,hsub.inj,hr.glob.mono hkle⟩
  . by_cases hx:x=r.rb
    . subst hx;rw[FA]at e;cases e;obtain⟨fr,w1',_⟩:=w1;exact⟨TT,fr,w1'⟩
    . rw[Em _ _ hx]at e;exact hr.know x c' e
  . obtain⟨r',e1,e2,e3⟩:=hsub.obj x o h1 h2;exact jz
 have hstep:Step H ι h w (Jw H r.rb c) ι (hrm h b) w:=by
  refine⟨Nat.le_refl _,rfl,rfl,fun _ _ _=>rfl,hkle,fun x hx=>?_,LLe.refl _,fun _ _=>rfl,fun _ _ h _=>.inl h,hdom⟩
  by_cases hx':x=r.rb
  . subst hx';exact .inr (.inr ⟨b,_,r,hb,rfl,hl,hsol,rfl⟩)
  . rw[Em _ _ hx']at hx;exact .inl hx
 refine⟨_,ι,⟨hs.n,hs.d,fun u y hy=>?_,hheap⟩,hstep⟩
 by_cases hu:u=t
 . subst hu;simp only[Cm,Option.some.injEq]at hy;subst hy;obtain⟨v,h1,h2⟩:=hs.env u _ ht;have hv:=h2.ptr_live hl r3;subst hv;refine⟨_,h1,.loc _ _ _ _ c (fun k=>(c[0*r.sz+0+k]?).getD undef) (FA _ _ _) (fun j x hj=>?_) (fun j x hj=>?_) (fun j x hj=>?_)⟩
   . obtain⟨u,f1,_⟩:=w3.2 0 cs j x rfl hj;have f1':c[0*r.sz+0+j]?=some u:=by rw[<-f1];congr 1;rw[r1];omega
     show c[0*r.sz+0+j]?=some ((c[0*r.sz+0+j]?).getD undef);rw[f1'];rfl
   . obtain⟨u,f1,f2,_⟩:=w3.2 0 cs j x rfl hj;have f1':c[0*r.sz+0+j]?=some u:=by rw[<-f1];congr 1;rw[r1];omega
     show Rel _ _ _ ((c[0*r.sz+0+j]?).getD undef);rw[f1'];exact f2.mono hkle (LLe.refl _)
   . obtain⟨u,_,_,f3⟩:=w3.2 0 cs j x rfl hj;exact f3
 . simp only[DU _ _ hu]at hy;obtain⟨v,h1,h2⟩:=hs.env u y hy;exact⟨v,h1,h2.mono hkle (LLe.refl _)⟩
theorem cm{h:Ab}(hh:NoMap h)(b:Nat):NoMap (hrm h b):=fun c q hq=>by
 by_cases hc:c=b
 . subst hc;rw[FY]at hq;cases hq
 . rw[EL _ hc]at hq;exact hh c q hq
abbrev fS(P:Program)(fn:Func)(R:AV->Ab->Prop)(H:Ax)(ι:Ba)(h:Ab)(w:World):Exit->Act->World->Prop:=
  bodyPostM Fence.wide 3 P fn (fun e w'=>∃v r h' H' ι',e= .returned v/\R r h'/\Rel H' ι' r v/\HeapRel H' ι' h' w'/\Step H ι h w H' ι' h' w')
theorem Ov{f:FuncId}{fn:Func}{c:Code}{args:List AV}{h:Ab}{R:AV->Ab->Prop}(hf:P.funcs[f]?=some fn)(hb:fn.body=some c){n:Nat}(hn:args.length+(fn.ntmps-args.length)=n)
 (hg: ∀H ι w,HeapRel H ι h w->AW P (fS P fn R H ι h w) H ι h w c ⟨n,GE args,h⟩):ACall P f args h R:=by
 intro H ι w vs ha hr;have hs:Sim H ι ⟨n,GE args,h⟩ {tmps:=vs++Array.replicate (fn.ntmps-vs.size) undef,defers:=[]} w:=by
  exact jF
 exact callsIn_wide.1 (callsIn_of_wp_marks (F:=Fence.wide) (n:=3) hf hb trivial (wpIn_wide.2 (hg H ι w hr H ι _ w hs (Step.refl _ _ _ _))))
theorem fj{T:Nat->Option Ar}(hT:Cn P T)(hmx:P.follows .mixedOrders=true){fn:Func}{ops:Array Oper}{id:Nat}{R:AV->Ab->Prop}(hr:HeapRel H0 ι0 h0 w0)
 (hld: ∀(i:Nat) o,ops[i]?=some o->Fz o=true) (hnm:NoMap s.h)
 (hd:DOps P ops s.n ops.toList s.env s.h [] (fun s'=>NoMap s'.h/\∃xs,Gy T s' fn.results.toList xs/\R (Fh xs) s'.h)):
 AD (fun a w=>(Code.seq (.region id ops true) .ret).wp P (fS P fn R H0 ι0 h0 w0) a w) H0 ι0 h0 w0 s:=fun H ι tm w D hs hst hD hK=>
 cN hT hmx hld hs hnm hr hst hD hK hd
theorem YB{ops:Array Oper}{o:Oper}{rest:List Oper}{n:Nat}{e:As}{h:Ab}{K:Ai->Prop}(d:Nat){v:Value}(hd:o.dst=some d)(ho:o.op= .assign (.const v))(hg:o.guard=none)(he:e d=none)(hr:AOps P ops rest ⟨n,e,h⟩ K):AOps P ops (o::rest) ⟨n,e,h⟩ K:=by
 intro H ι a w hs;unfold wpList;rw[if_pos (by simp[Region.wanted,hg])];refine .inl ?_;unfold Oper.wp;simp only[execOp,ho,Sem.run_pure];refine hr H ι _ w ?_;rw[hd];refine⟨by simp[Act.put,hs.n],hs.d,fun t x hx=>?_,hs.heap⟩;have hne:d≠t:=fun e2=>by subst e2;rw[show e d=some x from hx]at he;cases he
 obtain⟨v',e1,e2⟩:=hs.env t x hx;exact⟨v',by simp only[Act.put];rw[Array.getElem?_setIfInBounds_ne hne];exact e1,e2⟩
end
end Go.Proofs.YtbbfelelocccmaaGreat.Sv
namespace Go.Proofs.YtbbfelelocccmaaGreat.Sv
open Go Go.RowKit Go.Shelf
abbrev Lm(N:Nat):={k:Nat//k<N}
def leftOf:Value->Nat
  | .int _ i=>(i+1).toNat
  | _=>0
theorem Zo(k:Nat):(List.range (k+1)).reverse=k::(List.range k).reverse:=by
 rw[List.range_succ,List.reverse_append];rfl
theorem eR(l N b off:Nat)(hN:N<=1000000000)(J Jx:List (Lm N)->World->Prop)
 (hY: ∀pre (x:Lm N) W,J pre W->pre.length<N->YieldAt Fence.wide 2 Tryz.prog l #[.int .i64 (x.1:Int)] W fun e W'=>
  (e= .returned (.bool true)/\J (pre++[x]) W'/\True)\/(e= .returned (.bool false)/\Jx (pre++[x]) W'))
 (W:World) (hB:W.cell? ⟨b,off,none⟩=some (.int .i64 (N:Int))) (h0:J [] W):
 CallsIn Fence.wide 3 Tryz.prog 110 #[.func (.yield l) #[] #[],.pointer (some ⟨b,off,none⟩)] W fun e W'=>(∃v,e= .returned v)/\
  ((∃xs:List (Lm N),xs.map (·.1)=(List.range N).reverse/\J xs W')\/(∃pre,True/\Jx pre W')):=by
 refine callsIn_of_wp Tryz.func110 rfl trivial ?_ rfl;simp only[Tryz.ntmps110,List.size_toArray,List.length_cons,List.length_nil,Nat.reduceAdd,Nat.reduceSub,Array.replicate_succ,Array.replicate_zero,List.push_toArray,List.append_toArray,List.nil_append,List.cons_append]
 gi_wp2
 gi_loopw [3] (fun p wr=>∃(m:Nat) (pre:List (Lm N)),p= .int .i64 ((m:Int)-1)/\pre.map (·.1)++(List.range m).reverse=(List.range N).reverse/\J pre wr)
  (fun p wr=>leftOf p)
 case atStart=>
  exact⟨N,[],rfl,rfl,h0⟩
 case round=>
  obtain⟨m,pre,rfl,hx,hJs⟩:=hrel;have hlen:=congrArg List.length hx;simp only[List.length_append,List.length_map,List.length_reverse,List.length_range]at hlen
  cases m with
  | zero=>
   gi_wp2
   exact⟨rfl,_,results_none rfl _ _ _,⟨_,rfl⟩,.inl ⟨pre,by simpa using hx,hJs⟩⟩
  | succ k=>
   have hk:k<N:=by omega
   obtain⟨fn,tmps,assign,body,hy,hR⟩:=hY pre ⟨k,hk⟩ wr hJs (by omega);dsimp only at hy
   gi_wp2
   refine hR.mono ?_
   rintro e W3 (⟨rfl,hJ3,_⟩ |⟨rfl,hJx3⟩)
   . gi_wp2
     refine⟨⟨k,pre++[⟨k,hk⟩],rfl,?_,hJ3⟩,?_⟩
     . rw[List.map_append,<-hx,Zo];simp only[List.map_cons,List.map_nil,List.append_assoc,List.cons_append,List.nil_append]
     . show((k:Int)-1+1).toNat<(((k+1:Nat):Int)-1+1).toNat;omega
   . gi_wp2
     exact⟨rfl,_,results_none rfl _ _ _,⟨_,rfl⟩,.inr ⟨_,trivial,hJx3⟩⟩
theorem UY{N:Nat}(hN:N<=1000000000){H:Ax}{ι:Ba}{h:Ab}{w:World}(hr:HeapRel H ι h w)(lb:Array Value)(hl:lb.size=[AV.loc [.int .i64 (N:Int)]].length)
 (hlb: ∀(j:Nat) (x:AV) (v:Value),[AV.loc [.int .i64 (N:Int)]][j]?=some x->lb[j]?=some v->Rel H ι x v):
 SeqStopsK Fence.wide 3 Tryz.prog 110 lb (fun x:Lm N=> #[.int .i64 (x.1:Int)]) (fun _ _=>True) (fun xs=>xs.map (·.1)=(List.range N).reverse) (fun _=>True) N w:=by
 intro l J Jx W hB hJ hJx hY h0;obtain⟨v,hv⟩:=(⟨lb[0]'(by rw[hl];exact Nat.zero_lt_one),Array.getElem?_eq_getElem _⟩: ∃v,lb[0]?=some v);have hlb2:lb= #[v]:=by
  cases lb with
  | mk L=>cases L with
   | nil=>simp at hv
   | cons y L=>cases L with
    | nil=>simp at hv;rw[hv]
    | cons z L=>simp at hl
 subst hlb2;obtain⟨b,off,c,vals,rfl,hb,hcv,hcr,_⟩:=(hlb 0 _ v rfl hv).loc_inv;have e1:=hcv 0 _ rfl;have e2:=hcr 0 _ rfl
 cases e2_:vals 0 with
 | int k i=>
  rw[e2_]at e2 e1
  cases e2
  obtain⟨T,fr,e3⟩:=hr.know b c hb;have e4:W.heap[b]?=some (.cells c T fr):=by
   have:=hB.block b (Array.getElem?_eq_some_iff.1 e3).1;exact this.trans e3
  refine(eR l N b off hN J Jx hY W ?_ h0).mono ?_
  . unfold World.cell?;rw[e4];exact e1
  . intro e W' hp;exact hp
 | _=>rw[e2_]at e2;cases e2
theorem eQ(n:Int):ACall Tryz.prog 107 [.int .i64 n] hNew (fun r h'=>r= .fn (.func 110) [] [.loc [.int .i64 n]]/\HSub hNone h'):=by
 refine ACall.of_body (n:=4) Ah Tryz.func107 rfl rfl ?_;refine LN ?_;refine ax 1 (Fx 1 0) ?_;refine YB 2 rfl rfl rfl rfl ?_;refine wk 2 ?_;refine AGo.ghost (.plain 0 rfl (by intro cs hc;simp at hc;subst hc;rfl)) ?_;refine AGo.ghost (.freezeP 1 0 rfl rfl) ?_;refine YE ?_;refine aq 3 (FO rfl rfl rfl) ?_;refine wk 3 ?_;exact⟨[_],⟨rfl,trivial⟩,rfl,HSub.none _⟩
end Go.Proofs.YtbbfelelocccmaaGreat.Sv
namespace Go.Proofs.YtbbfelelocccmaaGreat.Sv
open Go
theorem M3(z R:Nat)(i:Int)(p:Nat->Bool)(h0:0<=i)(hi:i<R)(hR:R<=100000):ACall Tryz.prog 106 [.ref z (nw R) 0 (nw R),.int .i64 i] (hput hNew z (Ef R p)) (fun r h'=>r= .tup []/\HSub (hput hNone z (Ef R (fun v=>p v||v==i.toNat))) h'):=by
 have:=dt z R i.toNat p (by omega) hR;rw[Int.toNat_of_nonneg h0]at this;exact this
theorem rrm_okI(z R:Nat)(i:Int)(p:Nat->Bool)(h0:0<=i)(hi:i<R)(hR:R<=100000):ACall Tryz.prog 108 [.ref z (nw R) 0 (nw R),.int .i64 i] (hput hNew z (Ef R p)) (fun r h'=>r= .tup []/\HSub (hput hNone z (Ef R (fun v=>p v&& !(v==i.toNat)))) h'):=by
 have:=ii z R i.toNat p (by omega) hR;rw[Int.toNat_of_nonneg h0]at this;exact this
theorem tR_nil(x:Block):tR x []=C2 x:=rfl
theorem gU(x:Block):tS x []=fun _=>false:=rfl
theorem O4{R:Nat}{p:Nat->Bool}:((Bk R p).drop 0).take (nw R)=Bk R p:=by rw[List.drop_zero,List.take_of_length_le (by rw[Bd];exact Nat.le_refl _)]
attribute [local irreducible] Bk C2 VG LV Gr tR tS
theorem RV(x:Block)(R:Nat)(hR:R<=100000)(hi:x.ins.length<=100000)(hT: ∀t∈x.ins,t.inR (R:Int))(hv:x.fin=2->0<=x.v/\x.v<R):ACall Tryz.prog 97 [.agg x.cells,.int .i64 (R:Int)] hNew (fun r h'=>r= .tup [.lst false (Bk R (I8 x)),.lst false (Bk R (fun v=>CD v x.ins))]/\HSub hNone h'):=by
 refine Ov (n:=57) Tryz.func97 rfl rfl ?_;intro H0 ι0 w0 hr;refine AW.seq hr ?_;refine YE ?_;refine ax 2 (Fx 5 0) ?_;refine ax 4 (Ew Ah 1) ?_;refine ax 5 (Ew Ah 2) ?_;refine an ?_;refine AW.seq hr ?_;refine wk 2 ?_;refine ax 11 (fx (JP 3 R hR) [3] [(3,(Ef R (fun _=>false)))] rfl Tryz.func98 (by kernel_rfl) rfl rfl rfl ⟨⟨_,rfl,rfl⟩,trivial⟩ rfl (Bq rfl (Ce _)) ⟨⟨_,rfl,rfl,rfl⟩,trivial⟩ rfl) ?_;refine wk 1 ?_;refine ax 13 (fx (JP 4 R hR) [4] [(4,(Ef R (fun _=>false)))] rfl Tryz.func98 (by kernel_rfl) rfl rfl rfl ⟨⟨_,rfl,rfl⟩,trivial⟩ rfl (Bq rfl (Ce _)) ⟨⟨_,rfl,rfl,rfl⟩,trivial⟩ rfl) ?_;refine wk 3 ?_;refine AW.seq hr ?_;refine AGo.join (γ:=Unit) (fun _u=>⟨57,(Aa (Aa (Aa A8 2 (.ptr 0 1 0 0)) 4 (.ptr 1 1 0 0)) 5 (.ptr 2 1 0 0)),(hput (hput (hput (hput (hput hNone 0 (.row false 5 [x.cells])) 1 (.row false 1 [[.ref 3 (nw R) 0 (nw R)]])) 2 (.row false 1 [[.ref 4 (nw R) 0 (nw R)]])) 3 (Ef R (C2 x))) 4 (Ef R (fun _=>false)))⟩) (fun _u=>True) ?_ ?_
 .
  refine wk 6 ?_;refine asp 16 (fun hb1=>?_) fun hb1=>?_
  .
   refine act ?_;have hfin:x.fin=2:=by simpa using hb1
   have hv2:=hv hfin
   skip
   refine wk 4 ?_;refine ax 20 (fx (M3 3 R x.v (fun _=>false) hv2.1 hv2.2 hR) [3] [(3,(Ef R (fun v=>(fun _=>false) v||v==x.v.toNat)))] rfl Tryz.func106 (by kernel_rfl) rfl rfl rfl ⟨⟨_,rfl,rfl⟩,trivial⟩ rfl (Bq rfl (Ce _)) ⟨⟨_,rfl,rfl,rfl⟩,trivial⟩ rfl) ?_;refine an ?_;exact jI
  refine acf ?_;have hfin: ¬x.fin=2:=by simpa using hb1
  refine fa ?_;exact jI
 intro _ _;refine fh ?_;refine AW.seq hr ?_;refine wk 4 ?_;refine ax 24 (KW (r:=(.fn (.func 110) [] [.loc [.int .i64 (x.ins.length:Int)]])) (hc:=hNew) (hw:=hNone) [] [] rfl Tryz.func107 (by kernel_rfl) rfl rfl rfl trivial rfl (Ce _) trivial rfl (by rw[List.length_map];exact eQ _)) ?_;refine an ?_;refine AW.range hr (α:=Lm x.ins.length) (S:=fun xs=>xs.map (·.1)=(List.range x.ins.length).reverse) (N:=x.ins.length) rfl rfl rfl (by show 25<57;decide) (by show 6<57;decide) (by decide) rfl (fun _ _=>rfl) (fun q=>.int .i64 (q.1:Int)) (fun q=>.int .i64 (q.1:Int)) (fun _ _ _=>.int _ _ _) (fun H ι w hh lb h1 h2=>UY (by omega) hh lb h1 h2) (Aa (Aa (Aa A8 2 (.ptr 0 1 0 0)) 4 (.ptr 1 1 0 0)) 5 (.ptr 2 1 0 0)) (fun pre=>(hput (hput (hput (hput (hput hNone 0 (.row false 5 [x.cells])) 1 (.row false 1 [[.ref 3 (nw R) 0 (nw R)]])) 2 (.row false 1 [[.ref 4 (nw R) 0 (nw R)]])) 3 (Ef R ((tR x (pre.map (·.1)))))) 4 (Ef R ((tS x (pre.map (·.1))))))) Cw cK (fun _=>cK) (by repeat(first | exact HSub.refl _ | exact HSub.none _ | exact AL _ | exact AG I0 | refine HSub.put ?_ (by first | rfl | exact congrArg (fun p=>some (Ef R p)) (tR_nil x).symm | exact congrArg (fun p=>some (Ef R p)) (gU x).symm) | refine AK ?_ I0 | refine BR ?_ (by decide))) ?_ ?_
 .
  intro l pre q hlt;obtain⟨t,ht⟩:=Ae q.2;have hin:=hT t (List.mem_of_getElem? ht);refine AGoR.block ?_;refine AGoR.seq ?_;refine AGoR.seq ?_;refine AGoR.region rfl ?_;refine wk 3 ?_;refine aq 29 (JF Ah (AC ht)) ?_;refine wk 1 ?_;refine ax 31 (DX Tryz.func77 (Kr _)) ?_;refine wk 2 ?_;refine AGoR.seq ?_;refine AGoR.region rfl ?_;refine wk 3 ?_;refine AGoR.join (γ:=Unit) (fun _u=>⟨57,(Aa (Aa (Aa (Aa (Aa A8 2 (.ptr 0 1 0 0)) 4 (.ptr 1 1 0 0)) 5 (.ptr 2 1 0 0)) 25 (.int .i64 (q.1:Int))) 6 (.int .i64 (q.1:Int))),(hput (hput (hput (hput (hput hNone 0 (.row false 5 [x.cells])) 1 (.row false 1 [[.ref 3 (nw R) 0 (nw R)]])) 2 (.row false 1 [[.ref 4 (nw R) 0 (nw R)]])) 3 (Ef R (VG t (tR x (pre.map (·.1)))))) 4 (Ef R (LV t (tS x (pre.map (·.1))))))⟩) (fun _u=>True) ?_ ?_
  .
   refine AGoR.split 33 rfl (fun hb2=>?_) (fun hb2=>?_)
   .
    refine AGoR.cond_true true rfl rfl ?_;have hsp:0<=t.sets:=by simpa using hb2
    have hs1:t.sets<R:=by have:=hin.1 (Ei (by simpa using hb2));rw[Iw (Ei (by simpa using hb2))];omega
    refine AGoR.seq ?_;refine AGoR.region rfl ?_;refine wk 2 ?_;refine ax 36 (fx (rrm_okI 3 R t.sets (tR x (pre.map (·.1))) hsp hs1 hR) [3] [(3,(Ef R (fun v=>(tR x (pre.map (·.1))) v&& !(v==t.sets.toNat))))] rfl Tryz.func108 (by kernel_rfl) rfl rfl rfl ⟨⟨_,rfl,rfl⟩,trivial⟩ rfl (Bq rfl (Ce _)) ⟨⟨_,rfl,rfl,rfl⟩,trivial⟩ rfl) ?_;refine an ?_;refine AGoR.region rfl ?_;refine wk 2 ?_;refine ax 39 (fx (M3 4 R t.sets (tS x (pre.map (·.1))) hsp hs1 hR) [4] [(4,(Ef R (fun v=>(tS x (pre.map (·.1))) v||v==t.sets.toNat)))] rfl Tryz.func106 (by kernel_rfl) rfl rfl rfl ⟨⟨_,rfl,rfl⟩,trivial⟩ rfl (Bq rfl (Ce _)) ⟨⟨_,rfl,rfl,rfl⟩,trivial⟩ rfl) ?_;refine an ?_;exact jM
   refine AGoR.cond_false false rfl rfl ?_;have hsp: ¬0<=t.sets:=by simpa using hb2
   refine AGoR.skip ?_;exact jM
  intro _ _;refine AGoR.seq ?_;refine AGoR.region rfl ?_;refine wk 3 ?_;refine aq 43 (JF Ah (AC ht)) ?_;refine wk 1 ?_;refine ax 45 (DX Tryz.func81 (Od _)) ?_;refine wk 3 ?_;refine AGoR.block ?_;refine AGoR.loopI (γ:=Nat) (fun k=>⟨57,(Aa (Aa (Aa (Aa (Aa (Aa (Aa (Aa A8 2 (.ptr 0 1 0 0)) 4 (.ptr 1 1 0 0)) 5 (.ptr 2 1 0 0)) 25 (.int .i64 (q.1:Int))) 6 (.int .i64 (q.1:Int))) 45 (AM t.uses)) 46 (.int .i64 (t.uses.length:Int))) 47 (.int .i64 (k:Int))),(hput (hput (hput (hput (hput hNone 0 (.row false 5 [x.cells])) 1 (.row false 1 [[.ref 3 (nw R) 0 (nw R)]])) 2 (.row false 1 [[.ref 4 (nw R) 0 (nw R)]])) 3 (Ef R (Gr (t.uses.take k) (VG t (tR x (pre.map (·.1))))))) 4 (Ef R (LV t (tS x (pre.map (·.1))))))⟩) (fun k=>True) (fun k=>t.uses.length-k) 0 (Sub.mk' (by repeat(first | exact ESub.new _ | refine ESub.put ?_ (by first | rfl | exact congrArg (fun(n:Nat)=>some (AV.int .i64 (n:Int))) (by simp) | exact congrArg (fun n:Nat=>some (AV.int .i64 (n:Int))) (by simp)))) (by repeat(first | exact HSub.refl _ | exact HSub.none _ | exact AL _ | exact AG I0 | refine HSub.put ?_ (by first | rfl | exact CL (fun v=>by rw[List.take_zero];exact Yy v)) | refine AK ?_ I0 | refine BR ?_ (by decide)))) trivial ?_
  intro k _;refine AGoR.seq ?_;refine AGoR.region rfl ?_;refine wk 2 ?_;refine AGoR.seq ?_;refine AGoR.split 48 rfl (fun hb3=>?_) (fun hb3=>?_)
  .
   refine AGoR.cond_true true rfl rfl ?_;have hkl:k<t.uses.length:=by have h:=hb3;simp[AM]at h;exact h
   obtain⟨u,hu⟩:=Ae hkl;have hub:=hin.2 u (List.mem_of_getElem? hu);refine AGoR.skip ?_;refine AGoR.seq ?_;refine AGoR.block ?_;refine AGoR.seq ?_;refine AGoR.region rfl ?_;refine aq 49 (JF Ah (AC hu)) ?_;refine wk 3 ?_;refine AGoR.region rfl ?_;refine wk 2 ?_;refine ax 53 (fx (M3 3 R u (Gr (t.uses.take k) (VG t (tR x (pre.map (·.1))))) hub.1 hub.2 hR) [3] [(3,(Ef R (fun v=>(Gr (t.uses.take k) (VG t (tR x (pre.map (·.1))))) v||v==u.toNat)))] rfl Tryz.func106 (by kernel_rfl) rfl rfl rfl ⟨⟨_,rfl,rfl⟩,trivial⟩ rfl (Bq rfl (Ce _)) ⟨⟨_,rfl,rfl,rfl⟩,trivial⟩ rfl) ?_;refine an ?_;refine AGoR.region rfl ?_;refine aq 54 (Be rfl rfl hkl (by have:=JK t;simp only[maxLen];omega)) ?_;refine wk 2 ?_;exact⟨k+1,Sub.mk' Cw (by repeat(first | exact HSub.refl _ | exact HSub.none _ | exact AL _ | exact AG I0 | refine HSub.put ?_ (by first | rfl | exact CL (Vb hu hub.1)) | refine AK ?_ I0 | refine BR ?_ (by decide))),trivial,by omega⟩
  refine AGoR.cond_false false rfl rfl ?_;have hge:t.uses.length<=k:=by have h:=hb3;simp[AM]at h;omega
  refine AGoR.exit ?_;show HSub _ _;exact(by repeat(first | exact HSub.refl _ | exact HSub.none _ | exact AL _ | exact AG I0 | refine HSub.put ?_ (by first | rfl | exact CL (fun v=>by rw[List.map_append,List.take_of_length_le hge];exact(congrFun (c8 ht) v).symm) | exact CL (fun v=>by rw[List.map_append];exact(congrFun (cZ ht) v).symm)) | refine AK ?_ I0 | refine BR ?_ (by decide)))
 intro xs hS;dsimp only;rw[hS];refine AD.ghost hr (.freezeCell 1 0 0 3 rfl rfl rfl rfl (Bd _ _).symm (by decide)) ?_;refine AD.ghost hr (.freezeCell 2 0 0 4 rfl rfl rfl rfl (Bd _ _).symm (by decide)) ?_;rw[O4,O4];refine fj Ah mix hr (by intro i o ho;rcases i with _ | _ | _ | _ | i<;>first |(cases ho;rfl) |(simp at ho)) cK ?_;refine wk 5 ?_;refine⟨cK,[.lst false _,.lst false _],⟨⟨_,_,_,_,rfl,rfl,.ptr _ _ _ _ _ _ _ _ rfl rfl rfl,rfl⟩,⟨_,_,_,_,rfl,rfl,.ptr _ _ _ _ _ _ _ _ rfl rfl rfl,rfl⟩,trivial⟩,?_,HSub.none _⟩;rw[show Bk R (I8 x)=_ from(Dz (gV x)).symm,show Bk R (fun v=>CD v x.ins)=_ from(Dz (tS_all x)).symm];rfl
end Go.Proofs.YtbbfelelocccmaaGreat.Sv
namespace Go.Proofs.YtbbfelelocccmaaGreat.Sv
open Go
theorem Vl(f:BFunc)(R:Nat)(es:List (List AV))(len:Nat)(w:Nat->Bool)(F:Nat->AObj)(b:Nat)(hb:b<f.blocks.length)(hn:f.blocks.length<=100000)(hl:len<=es.length)(he:es.length<=f.blocks.length):ACall Tryz.prog 90 [.ptr 2 1 0 0,.int .i64 (b:Int)] (HS f R (es) (len) (w) F) (fun r h'=>r= .tup []/\HSub (HS f R (CQ w es len b) (Ds w len b) (Cj w b true) F) h'):=by
 refine ACall.of_body (n:=28) Ah Tryz.func90 rfl rfl ?_;refine wk 7 ?_;refine aq 9 (Ac Ah rfl rfl rfl rfl rfl rfl rfl (An _ _).symm rfl (Int.natCast_nonneg _) (by omega)) ?_;refine aq 10 (AA Ah rfl rfl rfl (.ptr _ _ _ _ _ _ _ [.bool (w b)] rfl (An _ _).symm Kz) rfl) ?_;refine wk 2 ?_;refine asp 11 (fun hb1=>?_) fun hb1=>?_
 .
  refine act ?_;have hwb:w b=false:=by have h:=hb1;simpa using h
  refine wk 7 ?_;refine aq 17 (Ac Ah rfl rfl rfl rfl rfl rfl rfl (An _ _).symm rfl (Int.natCast_nonneg _) (by omega)) ?_;refine AOps.w rfl rfl (o_store Ah rfl rfl rfl rfl rfl rfl (An _ _).symm Kz rfl (by decide) rfl Ee) ?_;refine wk 8 ?_;refine ax 24 (Cq Ah rfl rfl rfl rfl rfl rfl (by decide) rfl rfl rfl rfl rfl rfl) ?_;refine ax 25 (KU Ah (es:=es) rfl rfl rfl rfl rfl rfl rfl rfl rfl rfl hl rfl rfl (Nat.zero_lt_succ _) (.lst _ _) rfl (fun _=>rfl) (by show _*8<=_;omega) (by simp only[maxLen];omega)) ?_;refine wk 4 ?_;have e1:CQ w es len b=CN es len (By b):=by unfold CQ;rw[hwb];rfl
  have e2:Ds w len b=len+1:=by unfold Ds;rw[hwb];rfl
  rw[e1,e2];exact⟨[],trivial,rfl,(BQ (k0:=10) rfl (by repeat(first | exact trivial | refine⟨⟨by first | rfl | exact congrArg (fun es=>some (AObj.row true 1 es)) (Hr true),by first | rfl | exact Ad (fun _ _=>CE _ _ _ _) | exact Ad (fun _ _=>CA _ _ _)⟩,?_⟩)) Fo JG)⟩
 refine acf ?_;have hwb:w b=true:=by have h:=hb1;simpa using h
 refine fa ?_;have e1:CQ w es len b=es:=by unfold CQ;rw[hwb];rfl
 have e2:Ds w len b=len:=by unfold Ds;rw[hwb];rfl
 rw[e1,e2,GH hwb];exact⟨[],trivial,rfl,(BQ (k0:=10) rfl Qg Fo JG)⟩
theorem eE(f:BFunc)(hs:f.sane)(R:Nat)(hR:R<=100000)(es:List (List AV))(len:Nat)(w:Nat->Bool)(I O:BB)(r2:Nat->AObj)(h2a: ∀b,(r2 b).avoid (kf 10)=true)(b:Nat)(x:Block)(hx:f.blocks[b]?=some x)(hn:f.blocks.length<=100000):ACall Tryz.prog 89 [.ptr 2 1 0 0,.int .i64 (b:Int)] (HS f R (es) (len) (w) (F3 (rI f.blocks.length R I) (rI f.blocks.length R O) r2)) (fun r h'=>r= .bool (chg (inN x (DD I (O b) x)) (I b) (nw R))/\HSub (HS f R (es) (len) (w) (F3 (rI f.blocks.length R (AS I b ((inN x (DD I (O b) x))))) (rI f.blocks.length R (AS O b (DD I (O b) x))) r2)) h'):=by
 have hb:b<f.blocks.length:=(List.getElem?_eq_some_iff.1 hx).1;have hxm:=List.mem_of_getElem? hx;have hnw:nw R<=100000:=by unfold nw;omega
 refine ACall.of_body (n:=109) Ah Tryz.func89 rfl rfl ?_;refine wk 11 ?_;refine aq 18 (Ac Ah rfl rfl rfl rfl rfl rfl rfl (An _ _).symm rfl (Int.natCast_nonneg _) (by omega)) ?_;refine aq 19 (AA Ah rfl rfl rfl (.ptr _ _ _ _ _ _ _ [rG 1 (nw R) b] rfl (An _ _).symm Kz) rfl) ?_;refine wk 11 ?_;refine aq 25 (At Ah rfl rfl rfl rfl rfl rfl (Int.natCast_nonneg _) (AC (Cz hx)) rfl) ?_;refine wk 5 ?_;refine A6 (γ:=Nat) (kf 10) (fun j=>⟨109,(Aa (Aa (Aa (Aa (Aa (Aa (Aa A8 0 (.ptr 2 1 0 0)) 1 (.int .i64 (b:Int))) 5 (rG 1 (nw R) b)) 6 (.bool false)) 26 (AM x.nexts)) 27 (.int .i64 (x.nexts.length:Int))) 28 (.int .i64 (j:Int))),(GV (nb [.free,.free,(.row false 8 [cB f (es).length (len)]),(.row false 1 (Aw (rG 0 (nw R)) f.blocks.length)),(.row false 1 (Aw (rG 1 (nw R)) f.blocks.length)),(.row true 1 (bC f.blocks.length (w))),(.row true 1 (es)),(.row false 1 (Aw (Oj (Au f)) f.blocks.length)),(.row true 1 (f.blocks.map (TU R))),(.row true 1 (f.blocks.map (TS R)))]) (F3 (rI f.blocks.length R I) (rI f.blocks.length R (AS O b (KT I (O b) x j))) r2))⟩) (fun j=>True) (fun j=>x.nexts.length-j) 0 (Sub.mk' Dw (BQ (k0:=10) rfl Qg (fun x_=>by(try simp only[hputs]);exact(Ao _ _ _).trans (congrArg some (nq (outP_zero I (O b) x) _))) JG)) trivial (fun g b hb=>Bz (k0:=10) rfl hb) ?_
 intro j _;refine wk 5 ?_;refine asp 29 (fun hb1=>?_) fun hb1=>?_
 .
  refine act ?_;have hjl:j<x.nexts.length:=by have h:=hb1;simp[AM]at h;exact h
  obtain⟨d,hd⟩:=Ae hjl;have hd0:=hs.next x hxm d (List.mem_of_getElem? hd);have hdn:d.toNat<f.blocks.length:=by omega
  refine wk 5 ?_;refine aq 30 (JF Ah (AC hd)) ?_;refine wk 10 ?_;refine aq 37 (Ac Ah rfl rfl rfl rfl rfl rfl rfl (An _ _).symm rfl hd0.1 (by omega)) ?_;refine aq 38 (AA Ah rfl rfl rfl (.ptr _ _ _ _ _ _ _ [rG 0 (nw R) d.toNat] rfl (An _ _).symm (by rw[Nat.zero_add];exact BK hdn)) rfl) ?_;refine wk 4 ?_;refine A6 (γ:=Nat) (kf 10) (fun k=>⟨109,(Aa (Aa (Aa (Aa (Aa (Aa (Aa (Aa (Aa (Aa (Aa A8 0 (.ptr 2 1 0 0)) 1 (.int .i64 (b:Int))) 5 (rG 1 (nw R) b)) 6 (.bool false)) 26 (AM x.nexts)) 27 (.int .i64 (x.nexts.length:Int))) 28 (.int .i64 (j:Int))) 8 (.int .i64 d)) 38 (rG 0 (nw R) d.toNat)) 39 (.int .i64 (nw R:Int))) 40 (.int .i64 (k:Int))),(GV (nb [.free,.free,(.row false 8 [cB f (es).length (len)]),(.row false 1 (Aw (rG 0 (nw R)) f.blocks.length)),(.row false 1 (Aw (rG 1 (nw R)) f.blocks.length)),(.row true 1 (bC f.blocks.length (w))),(.row true 1 (es)),(.row false 1 (Aw (Oj (Au f)) f.blocks.length)),(.row true 1 (f.blocks.map (TU R))),(.row true 1 (f.blocks.map (TS R)))]) (F3 (rI f.blocks.length R I) (rI f.blocks.length R (AS O b (Xs (KT I (O b) x j) (I d.toNat) k))) r2))⟩) (fun k=>True) (fun k=>nw R-k) 0 (Sub.mk' Dw (BQ (k0:=10) rfl Qg (fun x_=>by(try simp only[hputs]);exact(Ao _ _ _).trans (congrArg some (Zl (Dz (ZX _ _)) _))) JG)) trivial (fun g b hb=>Bz (k0:=10) rfl hb) ?_
  intro k _;refine wk 5 ?_;refine asp 41 (fun hb2=>?_) fun hb2=>?_
  .
   refine act ?_;have hkl:k<nw R:=by have h:=hb2;simp at h;exact h
   refine wk 6 ?_;refine aq 43 (Ac Ah rfl rfl rfl rfl rfl rfl ((Ao _ _ _).trans (congrArg some (dz hdn))) (Bd _ _).symm rfl (Int.natCast_nonneg _) (by omega)) ?_;refine aq 44 (AA Ah rfl rfl rfl (.ptr _ _ _ _ _ _ _ (Bt (I d.toNat) k) ((Ao _ _ _).trans (congrArg some (dz hdn))) (Bd _ _).symm (by rw[Nat.zero_add,Int.toNat_natCast];exact(Cc hkl).trans (congrArg some rfl))) rfl) ?_;refine wk 6 ?_;refine aq 47 (Ac Ah rfl rfl rfl rfl rfl rfl ((Ao _ _ _).trans (congrArg some (Pa hb))) (Bd _ _).symm rfl (Int.natCast_nonneg _) (by omega)) ?_;refine aq 48 (AA Ah rfl rfl rfl (.ptr _ _ _ _ _ _ _ (Bt (KT I (O b) x j) k) ((Ao _ _ _).trans (congrArg some (Pa hb))) (Bd _ _).symm (by rw[Nat.zero_add,Int.toNat_natCast];exact(Cc hkl).trans (congrArg some (VY _ _ _)))) rfl) ?_;refine wk 1 ?_;refine aq 50 (Bx rfl rfl rfl (YO (fun v=>(KT I (O b) x j) (64*k+v)) (fun v=>I d.toNat (64*k+v)))) ?_;refine aq 51 (Ac Ah rfl rfl rfl rfl rfl rfl ((Ao _ _ _).trans (congrArg some (Pa hb))) (Bd _ _).symm rfl (Int.natCast_nonneg _) (by omega)) ?_;refine AOps.w rfl rfl (o_store Ah (es:=Bk R (Xs (KT I (O b) x j) (I d.toNat) k)) (cs:=Bt (KT I (O b) x j) k) rfl rfl rfl rfl rfl ((Ao _ _ _).trans (congrArg some (Pa hb))) (Bd _ _).symm (by rw[Nat.zero_add,Int.toNat_natCast];exact(Cc hkl).trans (congrArg some (VY _ _ _))) rfl (by decide) rfl (fun _=>rfl)) ?_;refine wk 2 ?_;refine aq 52 (Be rfl rfl hkl (by simp only[maxLen];omega)) ?_;refine wk 2 ?_;exact⟨k+1,DropK.mk' (by repeat(first | exact EDropK.new _ _ | refine EDropK.put ?_ (by rfl) (by first | rfl | exact CE _ _ _ _))) (Bg (k0:=10) rfl Qg (fun x_=>by(try simp only[hputs]);(repeat(first | refine Ay (by exact Af (by omega)) ?_ | refine hrm_skip (by omega) ?_));exact(Dt YL _ _ x_).trans (congrArg some (ZF hb (ZY _ _ _) x_).symm)) (B1 (fun _=>AT _) (fun _=>AT _) h2a)),trivial,by omega⟩
  refine acf ?_;have hkge:nw R<=k:=by have h:=hb2;simp at h;omega
  refine wk 2 ?_;refine aq 53 (Be rfl rfl hjl (by simp only[maxLen];have:=Fy x;omega)) ?_;refine wk 2 ?_;exact⟨j+1,DropK.mk' (by repeat(first | exact EDropK.new _ _ | refine EDropK.put ?_ (by rfl) (by first | rfl | exact CE _ _ _ _))) (Bg (k0:=10) rfl Qg (fun x_=>by(try simp only[hputs]);exact(Ao _ _ _).trans (congrArg some (Zl ((dH _ _ hkge).trans (Dz (Xr hd))) _))) (B1 (fun _=>AT _) (fun _=>AT _) h2a)),trivial,by omega⟩
 refine acf ?_;have hjge:x.nexts.length<=j:=by have h:=hb1;simp[AM]at h;omega
 refine wk 9 ?_;refine A6 (γ:=Nat) (kf 10) (fun k=>⟨109,(Aa (Aa (Aa (Aa (Aa (Aa A8 0 (.ptr 2 1 0 0)) 1 (.int .i64 (b:Int))) 5 (rG 1 (nw R) b)) 6 (.bool (chg (inN x (DD I (O b) x)) (I b) k))) 55 (.int .i64 (nw R:Int))) 56 (.int .i64 (k:Int))),(GV (nb [.free,.free,(.row false 8 [cB f (es).length (len)]),(.row false 1 (Aw (rG 0 (nw R)) f.blocks.length)),(.row false 1 (Aw (rG 1 (nw R)) f.blocks.length)),(.row true 1 (bC f.blocks.length (w))),(.row true 1 (es)),(.row false 1 (Aw (Oj (Au f)) f.blocks.length)),(.row true 1 (f.blocks.map (TU R))),(.row true 1 (f.blocks.map (TS R)))]) (F3 (rI f.blocks.length R (AS I b (Hi (inN x (DD I (O b) x)) (I b) k))) (rI f.blocks.length R (AS O b (DD I (O b) x))) r2))⟩) (fun k=>k<=nw R) (fun k=>nw R-k) 0 (Sub.mk' Dw (BQ (k0:=10) rfl Qg (fun x_=>by(try simp only[hputs]);exact(Ao _ _ _).trans (congrArg some (by rw[outP_end hjge];exact nr (XC _ _) _))) JG)) (Nat.zero_le _) (fun g b hb=>Bz (k0:=10) rfl hb) ?_
 intro k hkn;refine wk 5 ?_;refine asp 57 (fun hb3=>?_) fun hb3=>?_
 .
  refine act ?_;have hkl:k<nw R:=by have h:=hb3;simp at h;exact h
  refine wk 15 ?_;refine dq 64 (Ac Ah rfl rfl rfl rfl rfl rfl rfl (List.length_map _).symm rfl (Int.natCast_nonneg _) (by omega)) ?_;refine dq 65 (AA Ah rfl rfl rfl (.ptr _ _ _ _ _ _ _ (TU R x) rfl (List.length_map _).symm (by rw[Nat.zero_add,Int.toNat_natCast,List.getElem?_map,hx];rfl)) rfl) ?_;refine wk 1 ?_;refine dq 67 (At Ah rfl rfl rfl rfl rfl rfl (Int.natCast_nonneg _) (by rw[Int.toNat_natCast];exact Cc hkl) rfl) ?_;refine wk 3 ?_;refine dq 71 (Ac Ah rfl rfl rfl rfl rfl rfl ((Ao _ _ _).trans (congrArg some (Pa hb))) (Bd _ _).symm rfl (Int.natCast_nonneg _) (by omega)) ?_;refine dq 72 (AA Ah rfl rfl rfl (.ptr _ _ _ _ _ _ _ (Bt (DD I (O b) x) k) ((Ao _ _ _).trans (congrArg some (Pa hb))) (Bd _ _).symm (by rw[Nat.zero_add,Int.toNat_natCast];exact(Cc hkl).trans (congrArg some rfl))) rfl) ?_;refine wk 5 ?_;refine dq 78 (Ac Ah rfl rfl rfl rfl rfl rfl rfl (List.length_map _).symm rfl (Int.natCast_nonneg _) (by omega)) ?_;refine dq 79 (AA Ah rfl rfl rfl (.ptr _ _ _ _ _ _ _ (TS R x) rfl (List.length_map _).symm (by rw[Nat.zero_add,Int.toNat_natCast,List.getElem?_map,hx];rfl)) rfl) ?_;refine wk 1 ?_;refine dq 81 (At Ah rfl rfl rfl rfl rfl rfl (Int.natCast_nonneg _) (by rw[Int.toNat_natCast];exact Cc hkl) rfl) ?_;refine wk 1 ?_;refine dq 83 (Bx rfl rfl rfl (OX (fun v=>(DD I (O b) x) (64*k+v)) (fun v=>CD (64*k+v) x.ins))) ?_;refine dq 84 (Bx rfl rfl rfl (YO (fun v=>I8 x (64*k+v)) (fun v=>(DD I (O b) x) (64*k+v)&& !CD (64*k+v) x.ins))) ?_;refine wk 10 ?_;refine aq 91 (Ac Ah rfl rfl rfl rfl rfl rfl rfl (An _ _).symm rfl (Int.natCast_nonneg _) (by omega)) ?_;refine aq 92 (AA Ah rfl rfl rfl (.ptr _ _ _ _ _ _ _ [rG 0 (nw R) b] rfl (An _ _).symm Kz) rfl) ?_
  refine wk 1 ?_;refine aq 94 (Ac Ah rfl rfl rfl rfl rfl rfl ((Ao _ _ _).trans (congrArg some (VJ hb))) (Bd _ _).symm rfl (Int.natCast_nonneg _) (by omega)) ?_;refine aq 95 (AA Ah rfl rfl rfl (.ptr _ _ _ _ _ _ _ (Bt (I b) k) ((Ao _ _ _).trans (congrArg some (VJ hb))) (Bd _ _).symm (by rw[Nat.zero_add,Int.toNat_natCast];exact(Cc hkl).trans (congrArg some (SP _ _ _)))) rfl) ?_;refine wk 2 ?_;refine asp 96 (fun hb4=>?_) fun hb4=>?_
  .
   refine act ?_;have hne:(Ow (inN x (DD I (O b) x)) k !=Ow (I b) k)=true:=aA hb4;refine wk 7 ?_;refine aq 102 (Ac Ah rfl rfl rfl rfl rfl rfl rfl (An _ _).symm rfl (Int.natCast_nonneg _) (by omega)) ?_;refine aq 103 (AA Ah rfl rfl rfl (.ptr _ _ _ _ _ _ _ [rG 0 (nw R) b] rfl (An _ _).symm Kz) rfl) ?_;refine wk 2 ?_;refine aq 106 (Ac Ah rfl rfl rfl rfl rfl rfl ((Ao _ _ _).trans (congrArg some (VJ hb))) (Bd _ _).symm rfl (Int.natCast_nonneg _) (by omega)) ?_;refine AOps.w rfl rfl (o_store Ah (es:=Bk R (Hi (inN x (DD I (O b) x)) (I b) k)) (cs:=Bt (I b) k) rfl rfl rfl rfl rfl ((Ao _ _ _).trans (congrArg some (VJ hb))) (Bd _ _).symm (by rw[Nat.zero_add,Int.toNat_natCast];exact(Cc hkl).trans (congrArg some (SP _ _ _))) rfl (by decide) rfl (fun _=>rfl)) ?_;refine wk 5 ?_;refine aq 107 (Be rfl rfl hkl (by simp only[maxLen];omega)) ?_;refine wk 2 ?_;exact⟨k+1,DropK.mk' j9 (Bg (k0:=10) rfl Qg (fun x_=>by(try simp only[hputs]);(repeat(first | refine Ay (by exact Af (by omega)) ?_ | refine hrm_skip (by omega) ?_));exact(Dt YL _ _ x_).trans (congrArg some (ZG hb (aD _ _ _) x_).symm)) (B1 (fun _=>AT _) (fun _=>AT _) h2a)),hkl,by omega⟩
  refine acf ?_;have heq:Ow (inN x (DD I (O b) x)) k=Ow (I b) k:=Yr (aA hb4);refine wk 2 ?_;refine aq 107 (Be rfl rfl hkl (by simp only[maxLen];omega)) ?_;refine wk 2 ?_;exact⟨k+1,DropK.mk' j9 (Bg (k0:=10) rfl Qg (fun x_=>by(try simp only[hputs]);exact(Ao _ _ _).trans (congrArg some (Zm (Dz (XD heq)) _))) (B1 (fun _=>AT _) (fun _=>AT _) h2a)),hkl,by omega⟩
 refine acf ?_;have hkge:nw R<=k:=by have h:=hb3;simp at h;omega
 refine wk 7 ?_;refine⟨[_],⟨rfl,trivial⟩,?_,(BQ (k0:=10) rfl Qg (fun x_=>by(try simp only[hputs]);exact(Ao _ _ _).trans (congrArg some (Zm (aE _ _ hkge) _))) JG)⟩;show AV.bool _=AV.bool _;congr 2;omega
theorem QT(f:BFunc)(hn:f.blocks.length<=100000):APure Tryz.prog 80 [.agg f.cells] (fun r=>r=AU f.nexts):=by
 refine APure.of_body (n:=40) Ah Tryz.func80 rfl rfl ?_;refine LN ?_;refine ax 1 (Fx 2 0) ?_;refine wk 7 ?_;refine ax 9 (Az Ah (n:=f.blocks.length) (m:=f.blocks.length) 1 true rfl rfl rfl (by simp) (by simp) rfl rfl rfl rfl rfl (Nat.zero_lt_succ _) rfl (Nat.le_refl _) (by show 24*f.blocks.length<=_;omega) (by simp only[maxLen];omega)) ?_;refine wk 4 ?_;refine AGo.ghost (OS 1 (es':=List.replicate f.blocks.length [.lst false []]) rfl (by simp) (WM _)) ?_;refine wk 7 ?_;refine A4 (γ:=Nat) 2 (fun k=>⟨40,(Aa (Aa (Aa (Aa A8 3 (.ref 1 f.blocks.length 0 f.blocks.length)) 11 (BZ f.blocks)) 12 (.int .i64 (f.blocks.length:Int))) 13 (.int .i64 (k:Int))),(hput (hput (Bw 2) 0 (.row false 2 [f.cells])) 1 (.row true 1 (((f.nexts.take (k)).map pathCell)++List.replicate (f.blocks.length-(k)) [.lst false []])))⟩) (fun k=>k<=f.blocks.length) (fun k=>f.blocks.length-k) 0 (Sub.mk' Dw Qf) (Nat.zero_le _) (fun _=>Ag (Ag (fun b hb=>AO hb) rfl) rfl) ?_
 intro k hk;refine wk 5 ?_;refine asp 14 (fun hb1=>?_) fun hb1=>?_
 . -- True
   refine act ?_;have hkl:k<f.blocks.length:=by simpa using hb1
   obtain⟨x,hx⟩:=Ae hkl;have hnx:=Cz hx;refine wk 6 ?_;refine aq 16 (At Ah rfl rfl rfl rfl rfl rfl (Int.natCast_nonneg _) (AC (by assumption)) rfl) ?_;refine wk 1 ?_;refine ax 5 (Ew Ah 2) ?_;refine wk 14 ?_;refine asp 20 (fun hb2=>?_) fun hb2=>?_
   . -- True
     refine wk 6 ?_;refine ax 26 (Cq Ah rfl rfl rfl rfl rfl rfl (by decide) rfl rfl rfl rfl rfl rfl) ?_;refine aq 27 (Ac Ah rfl rfl rfl rfl rfl rfl rfl (Av (AE f) (Nat.le_of_lt hkl)) rfl (Int.natCast_nonneg _) (by omega)) ?_;exact jt
   . -- False
     refine wk 6 ?_;refine asp 28 (fun hb3=>?_) fun hb3=>?_
     . -- True
       refine wk 8 ?_;refine ax 36 (Cq Ah rfl rfl rfl rfl rfl rfl (by decide) rfl rfl rfl rfl rfl rfl) ?_;refine aq 37 (Ac Ah rfl rfl rfl rfl rfl rfl rfl (Av (AE f) (Nat.le_of_lt hkl)) rfl (Int.natCast_nonneg _) (by omega)) ?_;exact jt
     . -- False
       refine wk 3 ?_;exact j6
 . -- False
   refine acf ?_;have hge:f.blocks.length<=k:=by simpa using hb1
   refine wk 2 ?_;refine AGo.ghost (.freeze 3 1 rfl rfl (Av (AE f) hk)) ?_;refine wk 4 ?_;refine Ge ⟨[_],⟨rfl,trivial⟩,?_,rfl⟩;show AV.lst false _=AV.lst false _;rw[Cf (AE f) hge];rfl
theorem R3(f:BFunc)(hs:f.sane)(R:Nat)(hRf:f.regs=(R:Int))(hR:R<=100000)(hn0:0<f.blocks.length)(hn:f.blocks.length<=100000)(hi: ∀x∈f.blocks,x.ins.length<=100000):ACall Tryz.prog 88 [.agg f.cells] hNew (fun r h'=>r= .ptr 2 1 0 0/\HSub (JV hNone (HS f R ((List.range f.blocks.length).map By) f.blocks.length (fun b=>decide (b<f.blocks.length)) (F3 (rI f.blocks.length R B0) (rI f.blocks.length R B0) (rA f.blocks.length (Au f))))) h'):=by
 refine ACall.of_body (n:=121) Ah Tryz.func88 rfl rfl ?_;refine LN ?_;refine ax 1 (Fx 2 0) ?_;refine wk 12 ?_;refine dx 16 (DX Tryz.func80 (QT _ (by assumption))) ?_;refine wk 1 ?_;refine dx 18 (Az Ah (n:=f.blocks.length) (m:=f.blocks.length) 7 false rfl rfl rfl (by simp) (by simp) rfl rfl rfl rfl rfl (Nat.zero_lt_succ _) rfl (Nat.le_refl _) (by show 24*f.blocks.length<=_;omega) (by simp only[maxLen];omega)) ?_;refine wk 1 ?_;refine dx 20 (Az Ah (n:=f.blocks.length) (m:=f.blocks.length) 5 true rfl rfl rfl (by simp) (by simp) rfl rfl rfl rfl rfl (Nat.zero_lt_succ _) rfl (Nat.le_refl _) (by show 1*f.blocks.length<=_;omega) (by simp only[maxLen];omega)) ?_;refine wk 1 ?_;refine dx 22 (Fx 8 2) ?_;refine wk 4 ?_;refine AGo.ghost (Cu 2 (es':=[nR f R 0]) rfl rfl (Ms ⟨Wk.refl _,Wk.refl _,Wk.nil _,Wk.nil _,Wk.nil _,Wk.nil _,Wk.refl _,Wk.refl _,trivial⟩)) ?_;refine AGo.ghost (Cu 7 (es':=Aw (Oj (fun _=>[])) f.blocks.length) rfl (by rw[An,List.length_replicate]) (weak_col fun b=>Wk.nil _)) ?_;refine wk 9 ?_;refine A6 (γ:=Nat) (kf 10) (fun k=>⟨121,(Aa (Aa (Aa (Aa (Aa (Aa A8 1 (.ptr 0 1 0 0)) 3 (.int .i64 (f.blocks.length:Int))) 4 (.ptr 2 1 0 0)) 26 (AU f.nexts)) 27 (.int .i64 (f.blocks.length:Int))) 28 (.int .i64 (k:Int))),(GV (nb [(.row false 2 [f.cells]),.free,(.row false 8 [nR f R k]),(Ox 1 (Aw (rG 0 (nw R)) k)),(Ox 1 (Aw (rG 1 (nw R)) k)),(.row true 1 (bC f.blocks.length (fun _=>false))),.free,(.row false 1 (Aw (Oj (aheadP f k 0)) f.blocks.length)),(Hw 1 ((f.blocks.take k).map (TU R))),(Hw 1 ((f.blocks.take k).map (TS R)))]) (F3 (rI k R B0) (rI k R B0) (rA f.blocks.length (aheadP f k 0))))⟩) (fun k=>k<=f.blocks.length) (fun k=>f.blocks.length-k) 0 (Sub.mk' ke (BQ (k0:=10) rfl (by repeat(first | exact trivial | refine⟨⟨by first | rfl | exact congrArg (fun es=>some (AObj.row true 1 es)) (GZ _ _) | exact congrArg (fun A=>some (AObj.row false 1 (Aw (Oj A) f.blocks.length))) (funext fun c=>(C4 f 0 c).symm),by first | rfl | exact Ix f R (by decide) | exact CS _ _ | exact Iv (fun _ _=>CE _ _ _ _) | exact Ad (fun _ _=>CA _ _ _)⟩,?_⟩)) (fun x_=>by rw[Sj (C4 f 0)];(try simp only[hputs]);(repeat(first | refine Ay (by exact Af (by omega)) ?_ | refine hrm_skip (by omega) ?_));exact congrArg some rI_start.symm) JG)) (Nat.zero_le _) (fun g b hb=>Bz (k0:=10) rfl hb) ?_
 intro k hk;refine wk 5 ?_;refine asp 29 (fun hb1=>?_) fun hb1=>?_
 .
  refine act ?_;have hkl:k<f.blocks.length:=by have h:=hb1;simp at h;exact h
  obtain⟨x,hx⟩:=Ae hkl;have hxm:=List.mem_of_getElem? hx;refine wk 6 ?_;refine aq 31 (At Ah rfl rfl rfl rfl rfl rfl (Int.natCast_nonneg _) (AC (Cz hx)) rfl) ?_;refine wk 12 ?_;refine A6 (γ:=Nat) (kf 10) (fun j=>⟨121,(Aa (Aa (Aa (Aa (Aa (Aa (Aa (Aa (Aa (Aa A8 1 (.ptr 0 1 0 0)) 3 (.int .i64 (f.blocks.length:Int))) 4 (.ptr 2 1 0 0)) 26 (AU f.nexts)) 27 (.int .i64 (f.blocks.length:Int))) 28 (.int .i64 (k:Int))) 5 (.int .i64 (k:Int))) 33 (AM x.nexts)) 34 (.int .i64 (x.nexts.length:Int))) 35 (.int .i64 (j:Int))),(GV (nb [(.row false 2 [f.cells]),.free,(.row false 8 [nR f R k]),(Ox 1 (Aw (rG 0 (nw R)) k)),(Ox 1 (Aw (rG 1 (nw R)) k)),(.row true 1 (bC f.blocks.length (fun _=>false))),.free,(.row false 1 (Aw (Oj (aheadP f k j)) f.blocks.length)),(Hw 1 ((f.blocks.take k).map (TU R))),(Hw 1 ((f.blocks.take k).map (TS R)))]) (F3 (rI k R B0) (rI k R B0) (rA f.blocks.length (aheadP f k j))))⟩) (fun j=>True) (fun j=>x.nexts.length-j) 0 (Sub.mk' Dw (BQ (k0:=10) rfl (by repeat(first | exact trivial | refine⟨⟨by rfl,by first | rfl | exact Ix f R (by decide) | exact CS _ _ | exact Iv (fun _ _=>CE _ _ _ _) | exact Ad (fun _ _=>CA _ _ _)⟩,?_⟩)) Fo JG)) trivial (fun g b hb=>Bz (k0:=10) rfl hb) ?_
  intro j _;refine wk 5 ?_;refine asp 36 (fun hb2=>?_) fun hb2=>?_
  .
   refine act ?_;have hjl:j<x.nexts.length:=by have h:=hb2;simp[AM]at h;exact h
   obtain⟨d,hd⟩:=Ae hjl;have hd0:=hs.next x hxm d (List.mem_of_getElem? hd);have hdn:d.toNat<f.blocks.length:=by omega
   refine wk 5 ?_;refine aq 37 (JF Ah (AC hd)) ?_;refine wk 14 ?_;refine dq 49 (Ac Ah rfl rfl rfl rfl rfl rfl rfl (An _ _).symm rfl hd0.1 (by omega)) ?_;refine dq 50 (AA Ah rfl rfl rfl (.ptr _ _ _ _ _ _ _ [Oj (aheadP f k j) d.toNat] rfl (An _ _).symm (by rw[Nat.zero_add];exact BK hdn)) rfl) ?_;refine wk 1 ?_;refine dx 52 (Cq Ah rfl rfl rfl rfl rfl rfl (by decide) rfl rfl rfl rfl rfl rfl) ?_;refine dx 53 (o_append1J Ah (b:=3*d.toNat+2+16) (es:=(aheadP f k j d.toNat).map By) rfl rfl rfl rfl rfl rfl rfl rfl ((Ao _ _ _).trans (congrArg some (ir hdn))) rfl rfl (Nat.zero_lt_succ _) (IH fun _=>rfl) (FT fun _=>rfl) rfl rfl (by rw[List.length_map];have:=F7 f k j d.toNat;show(_+1)*8<=_;omega) (by rw[List.length_map];have:=F7 f k j d.toNat;simp only[maxLen];omega)) ?_;refine dq 54 (Ac Ah rfl rfl rfl rfl rfl rfl rfl (An _ _).symm rfl hd0.1 (by omega)) ?_;refine DOps.w rfl rfl (o_store1 Ah (p:=false) (sz:=1) (es:=Aw (Oj (aheadP f k j)) f.blocks.length) (cs:=[Oj (aheadP f k j) d.toNat]) rfl rfl rfl rfl rfl rfl Bu (An _ _).symm (by rw[Nat.zero_add];exact BK hdn) (Dh _ _) (by decide) (Di _ _) (by intro h;cases h)) ?_;refine ES Da [([],[]),([],[]),([],[]),([2],[]),([],[]),([],[]),([],[]),([],[]),([2],[]),([],[]),([7],[]),([7],[]),([],[]),([],[]),([18],[18]),([7],[]),([7],[7])] kc (by kernel_rfl) ?_;refine YE ?_;refine aq 55 (Be rfl rfl hjl (by simp only[maxLen];have:=Fy x;omega)) ?_;refine wk 2 ?_;exact⟨j+1,DropK.mk' HD (Bg (k0:=10) rfl (by repeat(first | exact trivial | refine⟨⟨by first | rfl | exact congrArg (fun es=>some (AObj.row false 1 es)) (i4 (Gp hx hd hd0.1)),by first | rfl | exact Ix f R (by decide) | exact CS _ _ | exact Iv (fun _ _=>CE _ _ _ _) | exact Ad (fun _ _=>CA _ _ _)⟩,?_⟩)) (fun x_=>by(try simp only[hputs]);(repeat(first | refine Ay (by exact Af (by omega)) ?_ | refine hrm_skip (by omega) ?_));exact(Dt YL _ _ x_).trans (congrArg some (iq hdn (Gp hx hd hd0.1) x_).symm)) (B1 (fun _=>AT _) (fun _=>AT _) (fun _=>Cp _))),trivial,by omega⟩
  refine acf ?_;have hjge:x.nexts.length<=j:=by have h:=hb2;simp[AM]at h;omega
  refine wk 6 ?_;refine dq 60 (JF Ah (AC hx)) ?_;refine wk 3 ?_;refine dx 64 (KW (r:=.tup [.lst false (Bk R (I8 x)),.lst false (Bk R (fun v=>CD v x.ins))]) (hc:=hNew) (hw:=hNone) [] [] rfl Tryz.func97 (by kernel_rfl) rfl rfl rfl trivial rfl (Ce _) trivial rfl (by rw[hRf];exact RV x R hR (hi x hxm) (fun t ht=>by rw[<-hRf];exact hs.low x hxm t ht) (fun e=>by rw[<-hRf];exact hs.fin x hxm e))) ?_;refine wk 1 ?_;refine dq 65 (KR rfl rfl rfl) ?_;refine dq 66 (KR rfl rfl rfl) ?_;refine wk 11 ?_;refine ax 73 (Cq Ah rfl rfl rfl rfl rfl rfl (by decide) rfl rfl rfl rfl rfl rfl) ?_;refine ax 74 (o_append1J Ah (b:=8) (es:=(f.blocks.take k).map (TU R)) rfl rfl rfl rfl rfl rfl rfl rfl Bu rfl rfl (Nat.zero_lt_succ _) (IH fun _=>rfl) (FT fun _=>rfl) rfl rfl (by rw[List.length_map,List.length_take];show(_+1)*24<=_;omega) (by rw[List.length_map,List.length_take];simp only[maxLen];omega)) ?_;refine wk 2 ?_;refine AOps.w rfl rfl (o_store1 Ah rfl rfl rfl rfl rfl rfl rfl rfl rfl (Dh _ _) (by decide) (Di _ _) (by intro h;cases h)) ?_;refine wk 9 ?_;refine ax 83 (Cq Ah rfl rfl rfl rfl rfl rfl (by decide) rfl rfl rfl rfl rfl rfl) ?_;refine ax 84 (o_append1J Ah (b:=9) (es:=(f.blocks.take k).map (TS R)) rfl rfl rfl rfl rfl rfl rfl rfl Bu rfl rfl (Nat.zero_lt_succ _) (IH fun _=>rfl) (FT fun _=>rfl) rfl rfl (by rw[List.length_map,List.length_take];show(_+1)*24<=_;omega) (by rw[List.length_map,List.length_take];simp only[maxLen];omega)) ?_
  refine wk 2 ?_;refine AOps.w rfl rfl (o_store1 Ah rfl rfl rfl rfl rfl rfl rfl rfl rfl (Dh _ _) (by decide) (Di _ _) (by intro h;cases h)) ?_;refine wk 10 ?_;refine dx 94 (Pl (q:=Ef R (fun _=>false)) (r:=.ref (3*k+0+16) (nw R) 0 (nw R)) (3*k+0+16) rfl Tryz.func98 (by kernel_rfl) rfl rfl rfl (by(try simp only[hputs]);(repeat(first | refine Ay (by exact Af (by omega)) ?_ | refine hrm_skip (by omega) ?_));exact(Ao _ _ _).trans (congrArg some dy)) rfl (by show mem _ _=true;exact J5 _) (by rw[hRf];exact JP (3*k+0+16) R hR)) ?_;refine dx 95 (o_litRow Ah 10 false rfl rfl rfl rfl rfl rfl (by decide) Bu rfl rfl rfl (by intro h;cases h) rfl rfl) ?_;refine dx 96 (Js Ah (b:=3) (es:=Aw (rG 0 (nw R)) k) (x0:=[rG 0 (nw R) k]) rfl rfl rfl rfl rfl rfl rfl rfl Bu rfl rfl (Nat.zero_lt_succ _) (Vv (p:=false) (sz:=1) Bu rfl) rfl (by rw[An];show _*24<=_;omega) (by rw[An];simp only[maxLen];omega)) ?_
  refine wk 2 ?_;refine DOps.w rfl rfl (o_store1 Ah rfl rfl rfl rfl rfl rfl rfl rfl rfl (Dh _ _) (by decide) (Di _ _) (by intro h;cases h)) ?_;refine ES Da [([],[]),([],[]),([],[]),([],[]),([2],[]),([],[]),([0],[]),([16],[16]),([10],[10]),([3,10],[3]),([],[]),([],[]),([2],[2])] kc (by kernel_rfl) ?_;refine wk 8 ?_;refine dx 106 (Pl (q:=Ef R (fun _=>false)) (r:=.ref (3*k+1+16) (nw R) 0 (nw R)) (3*k+1+16) rfl Tryz.func98 (by kernel_rfl) rfl rfl rfl (by(try simp only[hputs]);(repeat(first | refine Ay (by exact Af (by omega)) ?_ | refine hrm_skip (by omega) ?_));exact(Ao _ _ _).trans (congrArg some dw)) rfl (by show mem _ _=true;exact J5 _) (by rw[hRf];exact JP (3*k+1+16) R hR)) ?_;refine dx 107 (o_litRow Ah 11 false rfl rfl rfl rfl rfl rfl (by decide) Bu rfl rfl rfl (by intro h;cases h) rfl rfl) ?_;refine dx 108 (Js Ah (b:=4) (es:=Aw (rG 1 (nw R)) k) (x0:=[rG 1 (nw R) k]) rfl rfl rfl rfl rfl rfl rfl rfl Bu rfl rfl (Nat.zero_lt_succ _) (Vv (p:=false) (sz:=1) Bu rfl) rfl (by rw[An];show _*24<=_;omega) (by rw[An];simp only[maxLen];omega)) ?_;refine wk 2 ?_;refine DOps.w rfl rfl (o_store1 Ah rfl rfl rfl rfl rfl rfl rfl rfl rfl (Dh _ _) (by decide) (Di _ _) (by intro h;cases h)) ?_;refine ES Da [([],[]),([],[]),([],[]),([],[]),([2],[]),([],[]),([0],[]),([17],[17]),([11],[11]),([4,11],[4]),([],[]),([],[]),([2],[2])] kc (by kernel_rfl) ?_;refine YE ?_;refine aq 111 (Be rfl rfl hkl (by simp only[maxLen];omega)) ?_;refine wk 2 ?_;exact⟨k+1,DropK.mk' HD (Bg (k0:=10) rfl (by repeat(first | exact trivial | refine⟨⟨by first | rfl | exact congrArg (fun s=>some (AObj.row false 8 [s])) (Zf hx) | exact congrArg some (Vw _ _ _).symm | exact congrArg (fun A=>some (AObj.row false 1 (Aw (Oj A) f.blocks.length))) (funext (Gq hx hjge)) | exact congrArg (fun es=>some (Hw 1 es)) (OL hx _),by first | rfl | exact Ix f R (by decide) | exact CS _ _ | exact Iv (fun _ _=>CE _ _ _ _) | exact Ad (fun _ _=>CA _ _ _)⟩,?_⟩)) (fun x_=>by rw[<-Sj (Gq hx hjge)];(try simp only[hputs]);(repeat(first | refine Ay (by exact Af (by omega)) ?_ | refine hrm_skip (by omega) ?_));refine(Dt (F:=F3 (rI (k+1) R B0) (rI k R B0) (rA f.blocks.length (aheadP f k j))) (fun y_=>?_) _ _ x_).trans (congrArg some (ZI x_).symm);(repeat(first | refine Ay (by exact Af (by omega)) ?_ | refine hrm_skip (by omega) ?_));exact(Dt (fun z_=>by(repeat(first | refine Ay (by exact Af (by omega)) ?_ | refine hrm_skip (by omega) ?_));exact Ao _ _ _) _ _ y_).trans (congrArg some (ZJ y_).symm)) (B1 (fun _=>AT _) (fun _=>AT _) (fun _=>Cp _))),hkl,by omega⟩
 refine acf ?_;have hge:f.blocks.length<=k:=by have h:=hb1;simp at h;omega
 refine wk 3 ?_;have hkn:k=f.blocks.length:=by omega
 subst hkn;rw[dg hn0,R4 hn0,R4 hn0,List.take_length,Vx hn0,Vx hn0,show aheadP f f.blocks.length 0=Au f from funext fun c=>C4 f _ c];refine AGo.ghost (.dryCell 2 0 6 6 1 true rfl rfl rfl rfl rfl (by decide)) ?_;refine wk 5 ?_;refine A6 (γ:=Nat) (kf 10) (fun k=>⟨121,(Aa (Aa (Aa (Aa (Aa A8 1 (.ptr 0 1 0 0)) 3 (.int .i64 (f.blocks.length:Int))) 4 (.ptr 2 1 0 0)) 112 (.int .i64 (f.blocks.length:Int))) 113 (.int .i64 (k:Int))),(GV (nb [(.row false 2 [f.cells]),.free,(.row false 8 [cB f ((List.range k).map By).length (k)]),(.row false 1 (Aw (rG 0 (nw R)) f.blocks.length)),(.row false 1 (Aw (rG 1 (nw R)) f.blocks.length)),(.row true 1 (bC f.blocks.length (fun b=>decide (b<k)))),(.row true 1 ((List.range k).map By)),(.row false 1 (Aw (Oj (Au f)) f.blocks.length)),(.row true 1 (f.blocks.map (TU R))),(.row true 1 (f.blocks.map (TS R)))]) (F3 (rI f.blocks.length R B0) (rI f.blocks.length R B0) (rA f.blocks.length (Au f))))⟩) (fun k=>k<=f.blocks.length) (fun k=>f.blocks.length-k) 0 (Sub.mk' Dw (BQ (k0:=10) rfl (by repeat(first | exact trivial | refine⟨⟨by first | rfl | exact congrArg (fun w=>some (AObj.row true 1 (bC _ w))) (funext fun b=>(decide_eq_false (Nat.not_lt_zero b)).symm),by first | rfl | exact Ad (fun _ _=>CE _ _ _ _) | exact Ad (fun _ _=>CA _ _ _)⟩,?_⟩)) Fo JG)) (Nat.zero_le _) (fun g b hb=>Bz (k0:=10) rfl hb) ?_
 intro k hk;refine wk 5 ?_;refine asp 114 (fun hb3=>?_) fun hb3=>?_
 .
  refine act ?_;have hkl:k<f.blocks.length:=by have h:=hb3;simp at h;exact h
  refine wk 11 ?_;refine AOps.call 118 (hn:=JV _ (HS f R ((List.range (k+1)).map By) (k+1) (fun b=>decide (b<k+1)) (F3 (rI f.blocks.length R B0) (rI f.blocks.length R B0) (rA f.blocks.length (Au f))))) (r:=.tup []) rfl rfl rfl (Nm (es:=(List.range k).map By) (len:=k) (w:=fun b=>decide (b<k)) rfl Tryz.func90 (by kernel_rfl) rfl rfl rfl RI (fun x_=>Ao _ _ _) (B1 (fun _=>AT _) (fun _=>AT _) (fun _=>Cp _)) (B1 (fun _=>AT _) (fun _=>AT _) (fun _=>Cp _)) rfl (by have h:=Vl f R ((List.range k).map By) k (fun b=>decide (b<k)) (F3 (rI f.blocks.length R B0) (rI f.blocks.length R B0) (rA f.blocks.length (Au f))) k hkl hn (by simp) (by simp;omega);rw[M9,Pw,KA]at h;exact h)) ?_;refine wk 2 ?_;refine aq 119 (Be rfl rfl hkl (by simp only[maxLen];omega)) ?_;refine wk 2 ?_;exact⟨k+1,DropK.mk' HD (Bg (k0:=10) rfl YM (fun x_=>(JU _ _ x_).trans (Ao _ _ _)) (B1 (fun _=>AT _) (fun _=>AT _) (fun _=>Cp _))),hkl,by omega⟩
 refine acf ?_;have hge:f.blocks.length<=k:=by have h:=hb3;simp at h;omega
 refine wk 7 ?_;have hkn:k=f.blocks.length:=by omega
 subst hkn;exact⟨[_],⟨rfl,trivial⟩,rfl,iG RI (fun x_=>by dsimp only;exact Ao _ _ _)⟩
theorem d7(f:BFunc)(hs:f.sane)(hn0:0<f.blocks.length)(hn:f.blocks.length<=100000)(hr:f.regs<=100000)(hi: ∀x∈f.blocks,x.ins.length<=100000):APure Tryz.prog 62 [.agg f.cells] (fun r=>r= .agg [MU (Hk f),MU (Hf f)]):=by
 have hr0:=hs.regs;obtain⟨R,hRf⟩: ∃R:Nat,f.regs=(R:Int):=⟨f.regs.toNat,by omega⟩
 have hRt:R=f.regs.toNat:=by omega
 have hR:R<=100000:=by omega
 refine APure.of_body (n:=103) Ah Tryz.func62 rfl rfl ?_;refine LN ?_;refine ax 1 (Fx 2 0) ?_;refine ax 2 (Ew Ah 1) ?_;refine wk 4 ?_;refine AOps.call 11 (hn:=JV _ (HS f R ((List.range f.blocks.length).map By) f.blocks.length (fun b=>decide (b<f.blocks.length)) (F3 (rI f.blocks.length R B0) (rI f.blocks.length R B0) (rA f.blocks.length (Au f))))) (r:=.ptr 2 1 0 0) rfl rfl rfl (J3 (hc:=hNew) (hw:=JV hNone (HS f R ((List.range f.blocks.length).map By) f.blocks.length (fun b=>decide (b<f.blocks.length)) (F3 (rI f.blocks.length R B0) (rI f.blocks.length R B0) (rA f.blocks.length (Au f))))) kS rfl Tryz.func88 (by kernel_rfl) rfl rfl rfl (fun b hb=>⟨.free,by have:=Mc hb;(try simp only[hputs]);(repeat(first | refine Ay (by exact Af (by omega)) ?_ | refine hrm_skip (by omega) ?_));rfl,rfl⟩) (funext fun b=>by unfold D3;cases e:kS b with
  | false=>rfl
  | true=>(have:=Mc e;(try simp only[hputs]);show _=some AObj.free;(repeat(first | refine Ay (by exact Af (by omega)) ?_ | refine hrm_skip (by omega) ?_));rfl)) (fun b hb=>QM hb) (fun b hb=>by obtain⟨q,q1,q2⟩:=Ol (f:=f) (R:=R) (es:=(List.range f.blocks.length).map By) (len:=f.blocks.length) (w:=fun b=>decide (b<f.blocks.length)) (F:=(F3 (rI f.blocks.length R B0) (rI f.blocks.length R B0) (rA f.blocks.length (Au f)))) (B1 (fun _=>AT _) (fun _=>AT _) (fun _=>Cp _)) hb;exact⟨q,(GM hb).trans q1,(GM hb).trans q1,q2⟩) rfl (R3 f hs R hRf hR hn0 hn hi)) ?_
 refine wk 4 ?_;refine A6 (γ:=LQ) (kf 10) (fun q=>⟨103,(Aa (Aa (Aa A8 1 (.ptr 0 1 0 0)) 2 (.ptr 1 1 0 0)) 3 (.ptr 2 1 0 0)),(GV (nb [(.row false 2 [f.cells]),(.row false 2 [[.nil,.nil]]),(.row false 8 [cB f (q.es).length (q.ws.length)]),(.row false 1 (Aw (rG 0 (nw R)) f.blocks.length)),(.row false 1 (Aw (rG 1 (nw R)) f.blocks.length)),(.row true 1 (bC f.blocks.length (q.w))),(.row true 1 (q.es)),(.row false 1 (Aw (Oj (Au f)) f.blocks.length)),(.row true 1 (f.blocks.map (TU R))),(.row true 1 (f.blocks.map (TS R)))]) (F3 (rI f.blocks.length R q.I) (rI f.blocks.length R q.O) (rA f.blocks.length (Au f))))⟩) (fun q=>LQI f R q) (fun q=>qM f R q) (qA f.blocks.length) (Sub.mk' Cw (BQ (k0:=10) rfl (by repeat(first | exact trivial | refine⟨⟨by first | rfl | exact GM rfl |(show some (AObj.row false 8 [cB f ((List.range f.blocks.length).map By).length f.blocks.length])=some (AObj.row false 8 [cB f ((List.range f.blocks.length).map By).length (List.range f.blocks.length).length]);rw[List.length_range]),by first | rfl | exact Ad (fun _ _=>CE _ _ _ _) | exact Ad (fun _ _=>CA _ _ _)⟩,?_⟩)) (fun x_=>(JU _ _ x_).trans (Ao _ _ _)) JG)) (LQI.first f R) (fun g b hb=>Bz (k0:=10) rfl hb) ?_
 intro q hQ;obtain⟨I,O,w,ws,es⟩:=q;dsimp only at hQ |-;refine wk 10 ?_;refine asp 17 (fun hb1=>?_) fun hb1=>?_
 .
  refine act ?_;obtain⟨ws',b,hws⟩: ∃ws' b,ws=ws'++[b]:=by
   rcases ED ws with h | h
   . have h2:=hb1;rw[h]at h2;simp at h2
   . exact h
  subst hws;have hpop:=hQ.wt.pop;have hb:=hpop.2.1;obtain⟨x,hx⟩:=Ae hb;have hxm:=List.mem_of_getElem? hx;have hle:=hQ.wt.le;have hgr:=hQ.k.grow hs hx hRt;refine wk 9 ?_;refine aq 23 (Bx (r:=.int .i64 (ws'.length:Int)) rfl rfl rfl (JZ (by have:=hQ.wt.le;simp at this;omega))) ?_;refine wk 9 ?_;refine aq 29 (Ac Ah rfl rfl rfl rfl rfl rfl rfl rfl rfl (Int.natCast_nonneg _) (by simp;omega)) ?_;refine aq 30 (AA Ah rfl rfl rfl (.ptr _ _ _ _ _ _ _ (By b) rfl rfl (by rw[Nat.zero_add,Int.toNat_natCast];exact hQ.st.get)) rfl) ?_;refine wk 10 ?_;refine aq 37 (E2 Ah (es:=es) (m:=ws'.length) rfl rfl rfl rfl rfl rfl rfl rfl rfl (by simp)) ?_;refine wk 11 ?_;refine aq 45 (Ac Ah rfl rfl rfl rfl rfl rfl rfl (An _ _).symm rfl (Int.natCast_nonneg _) (by omega)) ?_;refine AOps.w rfl rfl (o_store Ah rfl rfl rfl rfl rfl rfl (An _ _).symm Kz rfl (by decide) rfl Ee) ?_;refine wk 5 ?_;refine AOps.call 48 (hn:=JV _ (HS f R es ws'.length (Cj w b false) (F3 (rI f.blocks.length R (AS I b (inN x (DD I (O b) x)))) (rI f.blocks.length R (AS O b (DD I (O b) x))) (rA f.blocks.length (Au f))))) (r:=.bool (chg (inN x (DD I (O b) x)) (I b) (nw R))) rfl rfl rfl (Nm (es:=es) (len:=ws'.length) (w:=Cj w b false) rfl Tryz.func89 (by kernel_rfl) rfl rfl rfl (by repeat(first | exact trivial | refine⟨by first | rfl | exact congrArg (fun es=>some (AObj.row true 1 es)) (Hr false),?_⟩)) cM (B1 (fun _=>AT _) (fun _=>AT _) (fun _=>Cp _)) (B1 (fun _=>AT _) (fun _=>AT _) (fun _=>Cp _)) rfl (eE f hs R hR es ws'.length (Cj w b false) I O (rA f.blocks.length (Au f)) (fun _=>Cp _) b x hx hn)) ?_
  refine an ?_;refine asp 48 (fun hb2=>?_) fun hb2=>?_
  .
   refine act ?_;have hch:chg (inN x (DD I (O b) x)) (I b) (nw R)=true:=hb2;refine wk 7 ?_;refine aq 54 (Ac Ah rfl rfl rfl rfl rfl rfl rfl (An _ _).symm rfl (Int.natCast_nonneg _) (by omega)) ?_;refine aq 55 (AA Ah rfl rfl rfl (.ptr _ _ _ _ _ _ _ [Oj (Au f) b] rfl (An _ _).symm Kz) rfl) ?_;refine aq 56 (Ff Ah rfl rfl rfl rfl) ?_;refine wk 3 ?_;refine A6 (γ:=LP) (kf 10) (fun p=>⟨103,(Aa (Aa (Aa (Aa (Aa (Aa (Aa A8 1 (.ptr 0 1 0 0)) 2 (.ptr 1 1 0 0)) 3 (.ptr 2 1 0 0)) 5 (.int .i64 (b:Int))) 55 (Oj (Au f) b)) 56 (.int .i64 ((Au f b).length:Int))) 57 (.int .i64 (p.j:Int))),(GV (nb [(.row false 2 [f.cells]),(.row false 2 [[.nil,.nil]]),(.row false 8 [cB f (p.es).length (p.ws.length)]),(.row false 1 (Aw (rG 0 (nw R)) f.blocks.length)),(.row false 1 (Aw (rG 1 (nw R)) f.blocks.length)),(.row true 1 (bC f.blocks.length (p.w))),(.row true 1 (p.es)),(.row false 1 (Aw (Oj (Au f)) f.blocks.length)),(.row true 1 (f.blocks.map (TU R))),(.row true 1 (f.blocks.map (TS R)))]) (F3 (rI f.blocks.length R (AS I b (inN x (DD I (O b) x)))) (rI f.blocks.length R (AS O b (DD I (O b) x))) (rA f.blocks.length (Au f))))⟩) (fun p=>LPI f R (AS I b (inN x (DD I (O b) x))) (AS O b (DD I (O b) x)) b p) (fun p=>(Au f b).length-p.j) ⟨Cj w b false,ws',es,0⟩ (Sub.mk' (by repeat(first | exact ESub.new _ | refine ESub.put ?_ (by first | rfl | exact congrArg (fun m:Nat=>some (AV.int .i64 (m:Int))) (by simp)))) (BQ (k0:=10) rfl YM (fun x_=>(JU _ _ x_).trans (Ao _ _ _)) JG)) ⟨by have h:=hgr.1;rw[hch]at h;exact h,hpop.1,hQ.st.pop⟩ (fun g b hb=>Bz (k0:=10) rfl hb) ?_
   intro p hP;refine wk 5 ?_;refine asp 58 (fun hb3=>?_) fun hb3=>?_
   .
    refine act ?_;have hjl:p.j<(Au f b).length:=by have h:=hb3;simp at h;exact h
    obtain⟨a,ha⟩:=Ae hjl;have ha2:=IY (List.mem_of_getElem? ha);refine wk 5 ?_;refine aq 59 (HU Ah (b:=3*b+2+16) (es:=(Au f b).map By) rfl rfl rfl rfl rfl rfl ((Ao _ _ _).trans (congrArg some (ir hb))) rfl (Int.natCast_nonneg _) (by rw[List.length_map];omega)) ?_;refine aq 60 (AA Ah rfl rfl rfl (.ptr _ _ _ _ true 1 ((Au f b).map By) (By a) ((Ao _ _ _).trans (congrArg some ((ir hb).trans (Qv (k:=p.j) (by rw[List.length_map];omega))))) rfl (by rw[Int.toNat_natCast,List.getElem?_map,ha];rfl)) rfl) ?_;refine wk 5 ?_;refine AOps.call 63 (hn:=JV _ (HS f R (CQ p.w p.es p.ws.length a) (GF p.w p.ws a).length (I3 p.w a) (F3 (rI f.blocks.length R (AS I b (inN x (DD I (O b) x)))) (rI f.blocks.length R (AS O b (DD I (O b) x))) (rA f.blocks.length (Au f))))) (r:=.tup []) rfl rfl rfl (Nm (es:=p.es) (len:=p.ws.length) (w:=p.w) rfl Tryz.func90 (by kernel_rfl) rfl rfl rfl RI cM (B1 (fun _=>AT _) (fun _=>AT _) (fun _=>Cp _)) (B1 (fun _=>AT _) (fun _=>AT _) (fun _=>Cp _)) rfl (by have h:=Vl f R p.es p.ws.length p.w (F3 (rI f.blocks.length R (AS I b (inN x (DD I (O b) x)))) (rI f.blocks.length R (AS O b (DD I (O b) x))) (rA f.blocks.length (Au f))) a ha2 hn hP.st.le hP.st.max;rw[Mt]at h;exact h)) ?_
    refine wk 2 ?_;refine aq 64 (Be rfl rfl hjl (by have:=JE f b;simp only[maxLen];omega)) ?_;refine wk 2 ?_;exact⟨⟨I3 p.w a,GF p.w p.ws a,CQ p.w p.es p.ws.length a,p.j+1⟩,DropK.mk' (by repeat(first | exact EDropK.new _ _ | refine EDropK.put ?_ (by first | rfl) (by first | rfl | exact CA _ _ _))) (Bg (k0:=10) rfl YM (fun x_=>(JU _ _ x_).trans (Ao _ _ _)) (B1 (fun _=>AT _) (fun _=>AT _) (fun _=>Cp _))),(hP.next ha),(by show(Au f b).length-(p.j+1)<(Au f b).length-p.j;omega)⟩
   refine acf ?_;have hjge:(Au f b).length<=p.j:=by have h:=hb3;simp at h;omega
   refine wk 1 ?_;exact⟨⟨(AS I b (inN x (DD I (O b) x))),(AS O b (DD I (O b) x)),p.w,p.ws,p.es⟩,DropK.mk' HD (Bg (k0:=10) rfl YM cM (B1 (fun _=>AT _) (fun _=>AT _) (fun _=>Cp _))),(hP.done hjge),(dV (hgr.2.1 hch) hP.wt.le)⟩
  refine acf ?_;have hch:chg (inN x (DD I (O b) x)) (I b) (nw R)=false:=hb2;refine fa ?_;exact⟨⟨(AS I b (inN x (DD I (O b) x))),(AS O b (DD I (O b) x)),Cj w b false,ws',es⟩,DropK.mk' HD (Bg (k0:=10) rfl YM cM (B1 (fun _=>AT _) (fun _=>AT _) (fun _=>Cp _))),⟨by have h:=hgr.1;rw[hch]at h;exact h,hpop.1,hQ.st.pop⟩,(dW hgr.2.2 (by simp))⟩
 refine acf ?_;have hws:ws=[]:=by
  rcases ED ws with h |⟨L,b,h⟩
  . exact h
  . have h2:=hb1;rw[h]at h2;simp at h2
 subst hws;have hK:=hQ.k;have hW:=hQ.wt;refine wk 3 ?_;refine ax 8 (Ew Ah 10) ?_;refine wk 3 ?_;refine AGo.ghost (Cu 10 (es':=[[D1 11 [],D1 12 []]]) rfl rfl (Ms ⟨Wk.nil _,Wk.nil _,trivial⟩)) ?_;refine wk 7 ?_;refine A6 (γ:=Nat) (kf 13) (fun k=>⟨103,(Aa (Aa (Aa (Aa (Aa (Aa A8 1 (.ptr 0 1 0 0)) 2 (.ptr 1 1 0 0)) 3 (.ptr 2 1 0 0)) 8 (.ptr 10 1 0 0)) 67 (.int .i64 (f.blocks.length:Int))) 68 (.int .i64 (k:Int))),(GV (nb [(.row false 2 [f.cells]),(.row false 2 [[.nil,.nil]]),(.row false 8 [cB f (es).length (0)]),(.row false 1 (Aw (rG 0 (nw R)) f.blocks.length)),(.row false 1 (Aw (rG 1 (nw R)) f.blocks.length)),(.row true 1 (bC f.blocks.length (w))),(.row true 1 (es)),(.row false 1 (Aw (Oj (Au f)) f.blocks.length)),(.row true 1 (f.blocks.map (TU R))),(.row true 1 (f.blocks.map (TS R))),(.row false 2 [[D1 11 (((Hk f).take k).map CO),D1 12 (((Hf f).take k).map CO)]]),(Hw 1 (((Hk f).take k).map CO)),(Hw 1 (((Hf f).take k).map CO))]) (F3 (rI f.blocks.length R I) (rI f.blocks.length R O) (rA f.blocks.length (Au f))))⟩) (fun k=>k<=f.blocks.length) (fun k=>f.blocks.length-k) 0 (Sub.mk' Dw (BQ (k0:=13) rfl (by repeat(first | exact trivial | refine⟨⟨by rfl,by first | rfl | exact Lu (by decide) | exact CS _ _ | exact Ad (fun _ _=>CE _ _ _ _) | exact Ad (fun _ _=>CA _ _ _)⟩,?_⟩)) Fo j8)) (Nat.zero_le _) (fun g b hb=>Bz (k0:=13) rfl hb) ?_
 intro k hk;refine wk 5 ?_;refine asp 69 (fun hb4=>?_) fun hb4=>?_
 .
  refine act ?_;have hkl:k<f.blocks.length:=by have h:=hb4;simp at h;exact h
  obtain⟨x,hx⟩:=Ae hkl;have hxm:=List.mem_of_getElem? hx;refine wk 17 ?_;refine dq 78 (Ac Ah rfl rfl rfl rfl rfl rfl rfl (An _ _).symm rfl (Int.natCast_nonneg _) (by omega)) ?_;refine dq 79 (AA Ah rfl rfl rfl (.ptr _ _ _ _ _ _ _ [rG 0 (nw R) k] rfl (An _ _).symm (by rw[Nat.zero_add,Int.toNat_natCast];exact BK hkl)) rfl) ?_;refine wk 2 ?_;refine dx 82 (KV (q:=AObj.row true 1 (Bk R (I k))) (r:=Ch (V9 f k)) (3*k+0+16) rfl Tryz.func91 (by kernel_rfl) rfl rfl (by simp only[List.all_cons,List.all_nil,Bool.and_true];exact Og (by show mem _ _=true;exact J5 _) rfl) (by(try simp only[hputs]);(repeat(first | refine Ay (by exact Af (by omega)) ?_ | refine hrm_skip (by omega) ?_));exact(Ao _ _ _).trans (congrArg some (dz hkl))) rfl rfl (by have h:=MS (3*k+0) R (I k) hR;rw[hK.inRow hs hRt hW hkl]at h;rw[hRf];exact h)) ?_;refine dx 83 (Cq Ah rfl rfl rfl rfl rfl rfl (by decide) rfl rfl rfl rfl rfl rfl) ?_
  refine dx 84 (o_append1J Ah (b:=11) (es:=((Hk f).take k).map CO) rfl rfl rfl rfl rfl rfl rfl rfl Bu rfl rfl (Nat.zero_lt_succ _) (IH fun _=>rfl) (FT fun _=>rfl) rfl rfl (by rw[List.length_map,List.length_take];show(_+1)*24<=_;omega) (by rw[List.length_map,List.length_take];simp only[maxLen];omega)) ?_;refine wk 1 ?_;refine DOps.w rfl rfl (o_store1 Ah rfl rfl rfl rfl rfl rfl rfl rfl rfl (Dh _ _) (by decide) (Di _ _) (by intro h;cases h)) ?_;refine ES Da [([],[]),([10],[]),([],[]),([],[]),([],[]),([2],[]),([],[]),([3],[]),([3],[]),([],[]),([0],[]),([16],[]),([],[]),([11],[11]),([],[]),([10],[10])] kc (by kernel_rfl) ?_;refine wk 8 ?_;refine dq 93 (Ac Ah rfl rfl rfl rfl rfl rfl rfl (An _ _).symm rfl (Int.natCast_nonneg _) (by omega)) ?_;refine dq 94 (AA Ah rfl rfl rfl (.ptr _ _ _ _ _ _ _ [rG 1 (nw R) k] rfl (An _ _).symm (by rw[Nat.zero_add,Int.toNat_natCast];exact BK hkl)) rfl) ?_
  refine wk 2 ?_;refine dx 97 (KV (q:=AObj.row true 1 (Bk R (O k))) (r:=Ch (QR f x)) (3*k+1+16) rfl Tryz.func91 (by kernel_rfl) rfl rfl (by simp only[List.all_cons,List.all_nil,Bool.and_true];exact Og (by show mem _ _=true;exact J5 _) rfl) (by(try simp only[hputs]);(repeat(first | refine Ay (by exact Af (by omega)) ?_ | refine hrm_skip (by omega) ?_));exact(Ao _ _ _).trans (congrArg some (nv hkl))) rfl rfl (by have h:=MS (3*k+1) R (O k) hR;rw[hK.outRow hs hRt hW hx]at h;rw[hRf];exact h)) ?_;refine dx 98 (Cq Ah rfl rfl rfl rfl rfl rfl (by decide) rfl rfl rfl rfl rfl rfl) ?_;refine dx 99 (o_append1J Ah (b:=12) (es:=((Hf f).take k).map CO) rfl rfl rfl rfl rfl rfl rfl rfl Bu rfl rfl (Nat.zero_lt_succ _) (IH fun _=>rfl) (FT fun _=>rfl) rfl rfl (by rw[List.length_map,List.length_take];show(_+1)*24<=_;omega) (by rw[List.length_map,List.length_take];simp only[maxLen];omega)) ?_
  refine wk 1 ?_;refine DOps.w rfl rfl (o_store1 Ah rfl rfl rfl rfl rfl rfl rfl rfl rfl (Dh _ _) (by decide) (Di _ _) (by intro h;cases h)) ?_;refine ES Da [([],[]),([10],[]),([],[]),([],[]),([],[]),([2],[]),([],[]),([4],[]),([4],[]),([],[]),([0],[]),([17],[]),([],[]),([12],[12]),([],[]),([10],[10])] kc (by kernel_rfl) ?_;refine YE ?_;refine aq 101 (Be rfl rfl hkl (by simp only[maxLen];omega)) ?_;refine wk 2 ?_;exact⟨k+1,DropK.mk' HD (Bg (k0:=13) rfl (by repeat(first | exact trivial | refine⟨⟨by first | rfl | exact congrArg (fun es=>some (Hw 1 es)) (EX (NI hkl)) | exact congrArg (fun es=>some (Hw 1 es)) (EX (Lz hx)) |(rw[<-EX (NI hkl),<-EX (Lz hx)];rfl),by first | rfl | exact Lu (by decide) | exact CS _ _ | exact Ad (fun _ _=>CE _ _ _ _) | exact Ad (fun _ _=>CA _ _ _)⟩,?_⟩)) Fo (B1 (fun _=>AT _) (fun _=>AT _) (fun _=>Cp _))),hkl,by omega⟩
 refine acf ?_;have hge:f.blocks.length<=k:=by have h:=hb4;simp at h;omega
 refine wk 2 ?_;have hkn:k=f.blocks.length:=by omega
 subst hkn;refine AGo.ghost (.endCell 10 0 11 rfl rfl rfl (by decide)) ?_;refine AGo.ghost (.endCell 10 1 12 rfl rfl rfl (by decide)) ?_;refine wk 5 ?_;refine⟨[_],⟨⟨_,_,_,_,rfl,rfl,.ptr _ _ _ _ _ _ _ _ rfl rfl rfl,rfl⟩,trivial⟩,?_,rfl⟩;show AV.agg [AV.lst false _,AV.lst false _]=AV.agg [AV.lst false _,AV.lst false _];rw[List.take_of_length_le (by simp[Hk]),List.take_of_length_le (by simp[Hf])];rfl
theorem Tw(f:BFunc)(R:Nat)(S:CK)(G:GG)(es:List (List AV))(len:Nat)(w:Nat->Bool)(b:Nat)(hb:b<R)(hR:R<=100000)(hl:len<=es.length)(he:es.length<=R):ACall Tryz.prog 83 [.ptr 2 1 0 0,.int .i64 (b:Int)] (DH (HG f R S (es) (len) (w)) (DF f R S G)) (fun r h'=>r= .tup []/\HSub (Ey hNone (DH (HG f R S (CQ w es len b) (Ds w len b) (Cj w b true)) (DF f R S G))) h'):=by
 refine ACall.of_body (n:=28) Ah Tryz.func83 rfl rfl ?_;refine wk 7 ?_;refine aq 9 (Ac Ah rfl rfl rfl rfl rfl rfl rfl (An _ _).symm rfl (Int.natCast_nonneg _) (by omega)) ?_;refine aq 10 (AA Ah rfl rfl rfl (.ptr _ _ _ _ _ _ _ [.bool (w b)] rfl (An _ _).symm Kz) rfl) ?_;refine wk 2 ?_;refine asp 11 (fun hb1=>?_) fun hb1=>?_
 .
  refine act ?_;have hwb:w b=false:=by have h:=hb1;simpa using h
  refine wk 7 ?_;refine aq 17 (Ac Ah rfl rfl rfl rfl rfl rfl rfl (An _ _).symm rfl (Int.natCast_nonneg _) (by omega)) ?_;refine AOps.w rfl rfl (o_store Ah rfl rfl rfl rfl rfl rfl (An _ _).symm Kz rfl (by decide) rfl Ee) ?_;refine wk 8 ?_;refine ax 24 (Cq Ah rfl rfl rfl rfl rfl rfl (by decide) rfl rfl rfl rfl rfl rfl) ?_;refine ax 25 (KU Ah (es:=es) rfl rfl rfl rfl rfl rfl rfl rfl rfl rfl hl rfl rfl (Nat.zero_lt_succ _) (.lst _ _) rfl (fun _=>rfl) (by show _*8<=_;omega) (by simp only[maxLen];omega)) ?_;refine wk 4 ?_;have e1:CQ w es len b=CN es len (By b):=by unfold CQ;rw[hwb];rfl
  have e2:Ds w len b=len+1:=by unfold Ds;rw[hwb];rfl
  rw[e1,e2];exact⟨[],trivial,rfl,(Lf rfl (by repeat(first | exact trivial | refine⟨by first | rfl | exact congrArg (fun es=>some (AObj.row true 1 es)) (Hr true),?_⟩)) Gt)⟩
 refine acf ?_;have hwb:w b=true:=by have h:=hb1;simpa using h
 refine fa ?_;have e1:CQ w es len b=es:=by unfold CQ;rw[hwb];rfl
 have e2:Ds w len b=len:=by unfold Ds;rw[hwb];rfl
 rw[e1,e2,GH hwb];exact cJ
theorem Ty(f:BFunc)(R:Nat)(S:CK)(G:GG)(es:List (List AV))(len:Nat)(w:Nat->Bool)(b:Nat)(x:Block)(hx:f.blocks[b]?=some x)(s:Site)(hat:s.at_<=x.ins.length):ACall Tryz.prog 85 [.ptr 2 1 0 0,.int .i64 (b:Int),.agg (Gx s)] (DH (HG f R S (es) (len) (w)) (DF f R S G)) (fun r h'=>r= .bool (leftS (G b) x.ins.length s)/\HSub (Ey hNone (DH (HG f R S (es) (len) (w)) (DF f R S G))) h'):=by
 have hb:b<f.blocks.length:=(List.getElem?_eq_some_iff.1 hx).1;refine ACall.of_body (n:=34) Ah Tryz.func85 rfl rfl ?_;refine LN ?_;refine ax 5 (Fx 3 8) ?_;refine wk 12 ?_;refine dq 15 (JF Ah (AC hx)) ?_;refine wk 5 ?_;refine DOps.split 20 rfl (fun hb1=>?_) (fun hb1=>?_)
 .
  refine wk 12 ?_;refine dq 33 (E3 true rfl rfl rfl rfl) ?_;exact jU
 have hc0:=hb1;have hne: ¬s.at_=x.ins.length:=by have h:=hc0;simp at h;omega
 refine wk 5 ?_;refine dq 26 (Ac Ah rfl rfl rfl rfl rfl rfl rfl (An _ _).symm rfl (Int.natCast_nonneg _) (by omega)) ?_;refine dq 27 (AA Ah rfl rfl rfl (.ptr _ _ _ _ _ _ _ [gR f b] rfl (An _ _).symm Kz) rfl) ?_;refine wk 2 ?_;refine dq 30 (Ac Ah rfl rfl rfl rfl rfl rfl cL (by rw[An,Cl hx]) rfl (Int.natCast_nonneg _) (by rw[Cl hx];omega)) ?_;refine dq 31 (AA Ah rfl rfl rfl (.ptr _ _ _ _ true 1 (bC x.ins.length (G b)) [.bool (G b s.at_)] cL (by rw[An,Cl hx]) (by rw[Nat.zero_add,Int.toNat_natCast];exact BK (by omega))) rfl) ?_;refine dq 32 (M5 rfl rfl) ?_;refine dq 33 (Ek false rfl rfl rfl rfl) ?_;exact jU
theorem Yc(f:BFunc)(R:Nat)(S:CK)(G:GG)(es:List (List AV))(ws:List Nat)(w:Nat->Bool)(b p:Nat)(x:Block)(hx:f.blocks[b]?=some x)(hp:p<x.ins.length)(t:Tac)(ht: ∀u∈t.uses,0<=u/\u<R)(hR:R<=100000)(hq:QId R ⟨G,w,ws,es⟩):ACall Tryz.prog 87 [.ptr 2 1 0 0,.int .i64 (b:Int),.int .i64 (p:Int),.agg t.cells] (DH (HG f R S (es) (ws.length) (w)) (DF f R S G)) (fun r h'=>r= .tup []/\HSub (Ey hNone (DH (HG f R S (BM b p t.uses ⟨G,w,ws,es⟩).es (BM b p t.uses ⟨G,w,ws,es⟩).ws.length (BM b p t.uses ⟨G,w,ws,es⟩).w) (DF f R S (BM b p t.uses ⟨G,w,ws,es⟩).G))) h'):=by
 have hb:b<f.blocks.length:=(List.getElem?_eq_some_iff.1 hx).1;refine ACall.of_body (n:=30) Ah Tryz.func87 rfl rfl ?_;refine LN ?_;refine ax 7 (Fx 8 0) ?_;refine wk 8 ?_;refine aq 15 (Ac Ah rfl rfl rfl rfl rfl rfl rfl (An _ _).symm rfl (Int.natCast_nonneg _) (by omega)) ?_;refine aq 16 (AA Ah rfl rfl rfl (.ptr _ _ _ _ _ _ _ [gR f b] rfl (An _ _).symm Kz) rfl) ?_;refine wk 1 ?_;refine aq 18 (Ac Ah rfl rfl rfl rfl rfl rfl cL (by rw[An,Cl hx]) rfl (Int.natCast_nonneg _) (by rw[Cl hx];omega)) ?_;refine AOps.w rfl rfl (o_store Ah (es:=bC x.ins.length (G b)) (cs:=[.bool (G b p)]) rfl rfl rfl rfl rfl cL (by rw[An,Cl hx]) (by rw[Nat.zero_add,Int.toNat_natCast];exact BK hp) rfl (by decide) rfl (fun _=>rfl)) ?_;refine wk 4 ?_;refine ax 20 (DX Tryz.func81 (Od _)) ?_;refine wk 4 ?_;refine A6 (γ:=Nat) (kf 8) (fun k=>⟨30,(Aa (Aa (Aa (Aa A8 0 (.ptr 2 1 0 0)) 20 (AM t.uses)) 21 (.int .i64 (t.uses.length:Int))) 22 (.int .i64 (k:Int))),(GV (nb [(.row false 8 [t.cells]),.free,(.row false 8 [RF f R (((t.uses.take k).foldl (fun st u=>FQ st u.toNat) (⟨Dv G b p,w,ws,es⟩:RSd)).es).length (((t.uses.take k).foldl (fun st u=>FQ st u.toNat) (⟨Dv G b p,w,ws,es⟩:RSd)).ws.length)]),(.row false 1 (Aw (aR (Au f)) f.blocks.length)),(.row false 1 (Aw (oR f.blocks.length R S) R)),(.row false 1 (Aw (gR f) f.blocks.length)),(.row true 1 (((t.uses.take k).foldl (fun st u=>FQ st u.toNat) (⟨Dv G b p,w,ws,es⟩:RSd)).es)),(.row true 1 (bC R (((t.uses.take k).foldl (fun st u=>FQ st u.toNat) (⟨Dv G b p,w,ws,es⟩:RSd)).w)))]) (DF f R S (Dv G b p)))⟩) (fun k=>QId R ((t.uses.take k).foldl (fun st u=>FQ st u.toNat) (⟨Dv G b p,w,ws,es⟩:RSd))/\k<=t.uses.length) (fun k=>t.uses.length-k) 0 (Sub.mk' Dw (BQ (k0:=8) rfl gr (fun x_=>by(try simp only[hputs]);(repeat(first | refine Ay (by exact Af (by omega)) ?_ | refine hrm_skip (by omega) ?_));exact(Dt YL _ _ x_).trans (congrArg some (jc hb hx x_).symm)) cx)) ⟨⟨hq.wt,hq.st⟩,Nat.zero_le _⟩ (fun g b hb=>Bz (k0:=8) rfl hb) ?_
 intro k hQ;generalize hqe:((t.uses.take k).foldl (fun st u=>FQ st u.toNat) (⟨Dv G b p,w,ws,es⟩:RSd))=q at hQ |-;refine wk 5 ?_;refine asp 23 (fun hb1=>?_) fun hb1=>?_
 .
  refine act ?_;have hkl:k<t.uses.length:=by have h:=hb1;simp[AM]at h;exact h
  obtain⟨u,hu⟩:=Ae hkl;have hub:=ht u (List.mem_of_getElem? hu);refine wk 5 ?_;refine aq 24 (JF Ah (AC hu)) ?_;refine wk 6 ?_;refine AOps.call 28 (hn:=Ey _ (DH (HG f R S (CQ q.w q.es q.ws.length u.toNat) ((GF q.w q.ws u.toNat).length) (I3 q.w u.toNat)) (DF f R S (Dv G b p)))) (r:=.tup []) rfl rfl rfl (D2 (HG f R S (q.es) (q.ws.length) (q.w)) (HG f R S (CQ q.w q.es q.ws.length u.toNat) ((GF q.w q.ws u.toNat).length) (I3 q.w u.toNat)) (DF f R S (Dv G b p)) rfl Tryz.func83 (by kernel_rfl) rfl rfl rfl rfl rfl (B5 _ _ _ _ _ _) (B5 _ _ _ _ _ _) Qe Gt (A7 Cs f R _ _) (A7 Cs f R _ _) rfl (by have h:=Tw f R S (Dv G b p) q.es q.ws.length q.w u.toNat (by omega) hR hQ.1.st.le hQ.1.st.max;rw[Mt,Int.toNat_of_nonneg hub.1]at h;exact h)) ?_;refine wk 2 ?_;refine aq 29 (Be rfl rfl hkl (by have:=JK t;simp only[maxLen];omega)) ?_;refine wk 2 ?_;exact⟨k+1,DropK.mk' HD (Bg (k0:=8) rfl (by repeat(first | exact trivial | refine⟨⟨by first | rfl | exact BI rfl |(rw[Lx hu,hqe];first | rfl | exact BI rfl),by first | rfl | exact Ad (fun _ _=>A9 (Aq _) _ _) | exact Ad (fun _ _=>A0 (Aq _) _ _ _ _) | exact Ad (fun _ _=>BP (Aq _) _ _)⟩,?_⟩)) Gt (A7 (Aq _) f R _ _)),⟨by rw[Lx hu,hqe];exact hQ.1.push (by omega),hkl⟩,by omega⟩
 refine acf ?_;have hge:t.uses.length<=k:=by have h:=hb1;simp[AM]at h;omega
 refine wk 1 ?_;have hk:k=t.uses.length:=by omega
 subst hk;rw[List.take_length]at hqe;have e1:BM b p t.uses ⟨G,w,ws,es⟩=q:=hqe;have e2:q.G=Dv G b p:=by rw[<-e1];exact L7 _ _ _ _
 rw[e1,e2];exact cJ
theorem Tx(f:BFunc)(hs:f.sane)(R:Nat)(G:GG)(es:List (List AV))(len:Nat)(w:Nat->Bool)(v:Nat)(hv:v<R)(hn:f.blocks.length<=100000)(hR:R<=100000)(hi: ∀x∈f.blocks,x.ins.length<=100000):ACall Tryz.prog 84 [.ptr 2 1 0 0,.int .i64 (v:Int)] (DH (HG f R (SB f) (es) (len) (w)) (DF f R (SB f) G)) (fun r h'=>r=Ch (Gz f.blocks.length (fun b=>UM (Cg f G) v b))/\HSub (Ey hNone (DH (HG f R (SB f) (es) (len) (w)) (DF f R (SB f) G))) h'):=by
 refine ACall.of_body (n:=122) Ah Tryz.func84 rfl rfl ?_;refine wk 12 ?_;refine ax 21 (Az Ah (n:=f.blocks.length) (m:=f.blocks.length) 0 true rfl rfl rfl ((by simp)) ((by simp)) rfl rfl rfl rfl rfl (Nat.zero_lt_succ _) rfl (Nat.le_refl _) (by show 8*f.blocks.length<=_;omega) (by simp only[maxLen];omega)) ?_;refine wk 10 ?_;refine ax 28 (Az Ah (n:=f.blocks.length) (m:=f.blocks.length) 1 true rfl rfl rfl ((by simp)) ((by simp)) rfl rfl rfl rfl rfl (Nat.zero_lt_succ _) rfl (Nat.le_refl _) (by show 1*f.blocks.length<=_;omega) (by simp only[maxLen];omega)) ?_;refine wk 8 ?_;refine AGo.ghost (.dry 7 8 1 true rfl rfl rfl (by decide)) ?_;refine wk 6 ?_;refine aq 34 (Ac Ah rfl rfl rfl rfl rfl rfl Bu (An _ _).symm rfl (Int.natCast_nonneg _) (by omega)) ?_;refine aq 35 (AA Ah rfl rfl rfl (.ptr _ _ _ _ _ _ _ [oR f.blocks.length R (SB f) v] Bu (An _ _).symm WD) rfl) ?_;refine aq 36 (Ff Ah rfl rfl rfl rfl) ?_;refine wk 3 ?_;refine A6 (γ:=Nat×List (List AV)) (kf 9) (fun q=>⟨122,(Aa (Aa (Aa (Aa (Aa (Aa (Aa (Aa A8 0 (.ptr 2 1 0 0)) 1 (.int .i64 (v:Int))) 5 (.ref 0 f.blocks.length 0 f.blocks.length)) 6 (.ref 1 f.blocks.length 0 f.blocks.length)) 7 (.ref 8 q.2.length 0 (todoK f G v q.1).length)) 35 (oR f.blocks.length R (SB f) v)) 36 (.int .i64 ((Ja f.blocks.length R (SB f) v).length:Int))) 37 (.int .i64 (q.1:Int))),(GV (nb [(.row true 1 (iC f.blocks.length (Hl f G v q.1))),(.row true 1 (bC f.blocks.length (RD f G v q.1))),(.row false 8 [RF f R (es).length (len)]),(.row false 1 (Aw (aR (Au f)) f.blocks.length)),(.row false 1 (Aw (oR f.blocks.length R (SB f)) R)),(.row false 1 (Aw (gR f) f.blocks.length)),(.row true 1 (es)),(.row true 1 (bC R (w))),(.row true 1 q.2)]) (DF f R (SB f) G))⟩) (fun q=>q.1<=(Fb f v).length/\StackI f.blocks.length q.2 (todoK f G v q.1)) (fun q=>(Fb f v).length-q.1) (0,[]) (Sub.mk' (by repeat(first | exact ESub.new _ | refine ESub.put ?_ (by first | rfl))) (BQ (k0:=9) rfl (by repeat(first | exact trivial | refine⟨⟨by first | rfl | exact congrArg (fun es=>some (AObj.row true 1 es)) ((GZ _ _).trans (by rw[PS];rfl)) | exact congrArg (fun es=>some (AObj.row true 1 es)) ((GZ _ _).trans (by unfold RD;rw[PS];rfl)) |((try simp only[hputs]);repeat(first | rfl | exact Ap _ _ _ | refine Ay (by exact Af (by omega)) ?_ | refine hrm_skip (by omega) ?_ | refine(Ct _ OA).trans ?_)),by first | rfl | exact Ad (fun _ _=>A9 (Aq _) _ _) | exact Ad (fun _ _=>A0 (Aq _) _ _ _ _) | exact Ad (fun _ _=>BP (Aq _) _ _) | exact Eo _⟩,?_⟩)) Fo jd)) ⟨Nat.zero_le _,by unfold todoK;exact StackI.none _⟩ (fun g b hb=>Bz (k0:=9) rfl hb) ?_
 intro q hq;refine wk 5 ?_;refine asp 38 (fun hb1=>?_) fun hb1=>?_
 .
  refine act ?_;have hkl:q.1<(Fb f v).length:=by have h:=hb1;rw[DT]at h;simp only[decide_eq_true_eq]at h;exact Int.ofNat_lt.1 h
  obtain⟨i,hgi⟩:=Ae hkl;have hig:i<f.blocks.length/\0<(SB f i v).length:=Ra (S:=SB f) hgi;obtain⟨x,hx⟩:=Ae hig.1;refine wk 5 ?_;refine aq 39 (M7 Ah rfl rfl rfl rfl rfl rfl ((Ao _ _ _).trans (congrArg some (Ry hv))) rfl (Int.natCast_nonneg _) (by rw[DT];exact Int.ofNat_lt.2 hkl)) ?_;refine aq 40 (AA Ah rfl rfl rfl (.ptr _ _ _ _ false 2 (Ja f.blocks.length R (SB f) v) (Tf R (SB f) v i) ((Ao _ _ _).trans (congrArg some ((Ry hv).trans (Qu (k:=q.1) (by rw[DT];exact hkl))))) rfl (by rw[Int.toNat_natCast];show((Fb f v).map (Tf R (SB f) v))[_]?=_;rw[List.getElem?_map,hgi];rfl)) rfl) ?_;refine ax 9 (Hg Ah 9 rfl rfl Bu rfl (Nat.zero_lt_succ _) rfl) ?_;refine wk 10 ?_;refine A6 (γ:=Nat) (kf 10) (fun j=>⟨122,(Aa (Aa (Aa (Aa (Aa (Aa (Aa (Aa (Aa (Aa (Aa (Aa A8 0 (.ptr 2 1 0 0)) 1 (.int .i64 (v:Int))) 5 (.ref 0 f.blocks.length 0 f.blocks.length)) 6 (.ref 1 f.blocks.length 0 f.blocks.length)) 7 (.ref 8 q.2.length 0 (todoK f G v q.1).length)) 35 (oR f.blocks.length R (SB f) v)) 36 (.int .i64 ((Ja f.blocks.length R (SB f) v).length:Int))) 37 (.int .i64 (q.1:Int))) 9 (.ptr 9 1 0 0)) 42 (.ref (4*(v+R*i)+3+16) (GK f v i).length 0 (GK f v i).length)) 43 (.int .i64 ((GK f v i).length:Int))) 44 (.int .i64 (j:Int))),(GV (nb [(.row true 1 (iC f.blocks.length (Hl f G v q.1))),(.row true 1 (bC f.blocks.length (RD f G v q.1))),(.row false 8 [RF f R (es).length (len)]),(.row false 1 (Aw (aR (Au f)) f.blocks.length)),(.row false 1 (Aw (oR f.blocks.length R (SB f)) R)),(.row false 1 (Aw (gR f) f.blocks.length)),(.row true 1 (es)),(.row true 1 (bC R (w))),(.row true 1 q.2),(.row false 2 [Tf R (SB f) v i])]) (DF f R (SB f) G))⟩) (fun j=>CZ (G i) x.ins.length ((GK f v i).drop j)=firstG f G v i/\j<=(GK f v i).length) (fun j=>(GK f v i).length-j) 0 (Sub.mk' Dw (BQ (k0:=10) rfl oe Fo JG)) ⟨by rw[List.drop_zero,Do hx,FC hx],Nat.zero_le _⟩ (fun g b hb=>Bz (k0:=10) rfl hb) ?_
  intro j hF;refine wk 5 ?_;refine asp 45 (fun hb2=>?_) fun hb2=>?_
  .
   refine act ?_;have hjl:j<(GK f v i).length:=by have h:=hb2;simp at h;exact h
   obtain⟨s,hsj⟩:=Ae hjl;have hat:=Vz hx hsj;refine wk 5 ?_;refine aq 46 (Ac Ah rfl rfl rfl rfl rfl rfl ((Ao _ _ _).trans (congrArg some (Mo hv hig.2))) (List.length_map _).symm rfl (Int.natCast_nonneg _) (by omega)) ?_;refine aq 47 (AA Ah rfl rfl rfl (.ptr _ _ _ _ true 3 ((GK f v i).map Gx) (Gx s) ((Ao _ _ _).trans (congrArg some (Mo hv hig.2))) (List.length_map _).symm (by rw[Nat.zero_add,Int.toNat_natCast,List.getElem?_map,hsj];rfl)) rfl) ?_;refine ax 11 (Hg Ah 10 rfl rfl Bu rfl (Nat.zero_lt_succ _) rfl) ?_;refine wk 9 ?_;refine AOps.call 52 (hn:=Ey _ (DH (HG f R (SB f) (es) (len) (w)) (DF f R (SB f) G))) (r:=.bool (leftS (G i) x.ins.length s)) rfl rfl rfl (D2 (HG f R (SB f) (es) (len) (w)) (HG f R (SB f) (es) (len) (w)) (DF f R (SB f) G) rfl Tryz.func85 (by kernel_rfl) rfl rfl rfl rfl rfl (B5 _ _ _ _ _ _) (B5 _ _ _ _ _ _) Qe Gt (A7 Cs f R _ _) (A7 Cs f R _ _) rfl (Ty f R (SB f) G es len w i x hx s hat)) ?_
   refine wk 2 ?_;refine asp 53 (fun hb3=>?_) fun hb3=>?_
   .
    refine act ?_;have hlf:leftS (G i) x.ins.length s=false:=by have h:=hb3;simpa using h
    refine wk 2 ?_;refine aq 73 (Be rfl rfl hjl (by have:=L2 hx (v:=v);have:=hi x (List.mem_of_getElem? hx);simp only[maxLen];omega)) ?_;refine wk 2 ?_;exact⟨j+1,DropK.mk' (by repeat(first | exact EDropK.new _ _ | refine EDropK.put ?_ (by first | rfl | exact congrArg (fun(n:Nat)=>some (AV.int .i64 (n:Int))) (by simp)) (by first | rfl | exact A0 (Aq _) _ _ _ _ | exact SZ _ _))) (Bg (k0:=10) rfl qt Gt (A7 (Aq _) f R _ _)),⟨by rw[<-first_skip hsj hlf];exact hF.1,hjl⟩,(by omega)⟩
   refine acf ?_;have hlf:leftS (G i) x.ins.length s=true:=by have h:=hb3;simpa using h
   refine wk 6 ?_;refine aq 57 (Ac Ah rfl rfl rfl rfl rfl rfl Bu (An _ _).symm rfl (Int.natCast_nonneg _) (by omega)) ?_;refine AOps.w rfl rfl (o_store Ah rfl rfl rfl rfl rfl Bu (An _ _).symm (by rw[Nat.zero_add,Int.toNat_natCast];exact BK hig.1) rfl (by decide) rfl (fun _=>rfl)) ?_;refine wk 7 ?_;refine asp 59 (fun hb4=>?_) fun hb4=>?_
   .
    refine act ?_;have hfg:firstG f G v i=1:=by rw[<-hF.1,NR hsj hlf,show s.r=true from hb4];rfl
    refine wk 5 ?_;refine aq 63 (Ac Ah rfl rfl rfl rfl rfl rfl Bu (by rw[List.length_set];exact(An _ _).symm) rfl (Int.natCast_nonneg _) (by omega)) ?_;refine AOps.w rfl rfl (o_store Ah rfl rfl rfl rfl rfl Bu (by rw[List.length_set];exact(An _ _).symm) (List.getElem?_set_self (by rw[An];omega)) rfl (by decide) rfl (fun _=>rfl)) ?_;refine wk 6 ?_;refine aq 67 (Ac Ah rfl rfl rfl rfl rfl rfl Bu (An _ _).symm rfl (Int.natCast_nonneg _) (by omega)) ?_;refine AOps.w rfl rfl (o_store Ah rfl rfl rfl rfl rfl Bu (An _ _).symm (by rw[Nat.zero_add,Int.toNat_natCast];exact BK hig.1) rfl (by decide) rfl (fun _=>rfl)) ?_;refine wk 5 ?_;refine ax 71 (Cq Ah rfl rfl rfl rfl rfl rfl (by decide) rfl rfl rfl rfl rfl rfl) ?_;refine ax 72 (KU Ah (es:=q.2) rfl rfl rfl rfl rfl rfl rfl rfl Bu rfl hq.2.le rfl rfl (Nat.zero_lt_succ _) (.lst _ _) rfl (fun _=>rfl) (by have:=hq.2.max;show _*8<=_;omega) (by have:=hq.2.max;simp only[maxLen];omega)) ?_
    refine wk 4 ?_;refine aq 74 (Be rfl rfl hkl gp) ?_;refine wk 2 ?_;exact⟨(q.1+1,CN q.2 (todoK f G v q.1).length (By i)),DropK.mk' qr (Bg (k0:=9) rfl qw Gt (A7 (Aq _) f R _ _)),⟨hkl,by rw[<-Mz hgi hfg];exact hq.2.push (Nat.lt_of_le_of_lt (WX f G v q.1) (Nat.lt_of_lt_of_le hkl (Q9 (SB f) f.blocks.length v)))⟩,(by show(Fb f v).length-(q.1+1)<(Fb f v).length-q.1;omega)⟩
   refine acf ?_;have hfg:firstG f G v i=2:=by rw[<-hF.1,NR hsj hlf,show s.r=false from hb4];rfl
   refine wk 3 ?_;exact j7
  refine acf ?_;have hjge:(GK f v i).length<=j:=by have h:=hb2;simp at h;omega
  have hfg:firstG f G v i=0:=by rw[<-hF.1,List.drop_eq_nil_iff.2 hjge];rfl
  refine wk 2 ?_;exact j7
 refine acf ?_;have hkge:(Fb f v).length<=q.1:=by have h:=hb1;rw[DT]at h;simp only[decide_eq_false_iff_not]at h;exact Nat.le_of_not_lt fun e=>h (Int.ofNat_lt.2 e)
 refine wk 3 ?_;refine A6 (γ:=MQ) (kf 9) (fun m=>⟨122,(Aa (Aa (Aa (Aa (Aa A8 0 (.ptr 2 1 0 0)) 1 (.int .i64 (v:Int))) 5 (.ref 0 f.blocks.length 0 f.blocks.length)) 6 (.ref 1 f.blocks.length 0 f.blocks.length)) 7 (.ref 8 m.es.length 0 m.todo.length)),(GV (nb [(.row true 1 (iC f.blocks.length (firstG f G v))),(.row true 1 (bC f.blocks.length m.inn)),(.row false 8 [RF f R (es).length (len)]),(.row false 1 (Aw (aR (Au f)) f.blocks.length)),(.row false 1 (Aw (oR f.blocks.length R (SB f)) R)),(.row false 1 (Aw (gR f) f.blocks.length)),(.row true 1 (es)),(.row true 1 (bC R (w))),(.row true 1 m.es)]) (DF f R (SB f) G))⟩) (fun m=>BfI f G v m.inn m.todo 0 []/\StackI f.blocks.length m.es m.todo) (fun m=>2*Lg f.blocks.length m.inn+m.todo.length) ⟨RD f G v q.1,todoK f G v q.1,q.2⟩ (Sub.mk' Cw (BQ (k0:=9) rfl (by repeat(first | exact trivial | refine⟨⟨by first | rfl | exact congrArg (fun w=>some (AObj.row true 1 (iC _ w))) (Ti hkge),by first | rfl | exact Ad (fun _ _=>A9 (Aq _) _ _) | exact Ad (fun _ _=>A0 (Aq _) _ _ _ _) | exact Ad (fun _ _=>BP (Aq _) _ _) | exact Eo _⟩,?_⟩)) Fo jd)) ⟨BfI.first hkge,hq.2⟩ (fun g b hb=>Bz (k0:=9) rfl hb) ?_
 intro m hM;obtain⟨inn,todo,es'⟩:=m;dsimp only at hM |-;refine wk 7 ?_;refine asp 77 (fun hb5=>?_) fun hb5=>?_
 .
  refine act ?_;obtain⟨todo',b,htd⟩: ∃todo' b,todo=todo'++[b]:=by
   rcases ED todo with h | h
   . have h2:=hb5;rw[h]at h2;simp at h2
   . exact h
  subst htd;have hib:=hM.1.tod b (List.mem_append.2 (.inr (List.mem_singleton.2 rfl)));have hb:=(hM.1.sound b hib).1;refine wk 7 ?_;refine aq 81 (Bx (r:=.int .i64 (todo'.length:Int)) rfl rfl rfl (JZ (by have:=hM.1.cnt;simp at this;omega))) ?_;refine aq 82 (Ac Ah rfl rfl rfl rfl rfl rfl Bu rfl rfl (Int.natCast_nonneg _) (by simp;omega)) ?_;refine aq 83 (AA Ah rfl rfl rfl (.ptr _ _ _ _ _ _ _ (By b) Bu rfl (by rw[Nat.zero_add,Int.toNat_natCast];exact hM.2.get)) rfl) ?_;refine wk 7 ?_;refine aq 87 (Bx (r:=.int .i64 (todo'.length:Int)) rfl rfl rfl (JZ (by have:=hM.1.cnt;simp at this;omega))) ?_;refine aq 88 (E2 Ah (es:=es') (m:=todo'.length) rfl rfl rfl rfl rfl rfl Bu rfl rfl (by simp)) ?_;refine wk 9 ?_;refine aq 94 (Ac Ah rfl rfl rfl rfl rfl rfl Bu (An _ _).symm rfl (Int.natCast_nonneg _) (by omega)) ?_;refine aq 95 (AA Ah rfl rfl rfl (.ptr _ _ _ _ _ _ _ [aR (Au f) b] Bu (An _ _).symm Kz) rfl) ?_
  refine aq 96 (Ff Ah rfl rfl rfl rfl) ?_;refine wk 3 ?_;refine A6 (γ:=MP) (kf 9) (fun p=>⟨122,(Aa (Aa (Aa (Aa (Aa (Aa (Aa (Aa (Aa A8 0 (.ptr 2 1 0 0)) 1 (.int .i64 (v:Int))) 5 (.ref 0 f.blocks.length 0 f.blocks.length)) 6 (.ref 1 f.blocks.length 0 f.blocks.length)) 7 (.ref 8 p.es.length 0 p.todo.length)) 12 (.int .i64 (b:Int))) 95 (aR (Au f) b)) 96 (.int .i64 ((Au f b).length:Int))) 97 (.int .i64 (p.j:Int))),(GV (nb [(.row true 1 (iC f.blocks.length (firstG f G v))),(.row true 1 (bC f.blocks.length p.inn)),(.row false 8 [RF f R (es).length (len)]),(.row false 1 (Aw (aR (Au f)) f.blocks.length)),(.row false 1 (Aw (oR f.blocks.length R (SB f)) R)),(.row false 1 (Aw (gR f) f.blocks.length)),(.row true 1 (es)),(.row true 1 (bC R (w))),(.row true 1 p.es)]) (DF f R (SB f) G))⟩) (fun p=>MPI f G v b (2*Lg f.blocks.length inn+todo'.length) p) (fun p=>(Au f b).length-p.j) ⟨inn,todo',es',0⟩ (Sub.mk' (by repeat(first | exact ESub.new _ | refine ESub.put ?_ (by first | rfl | exact congrArg (fun m:Nat=>some (AV.int .i64 (m:Int))) (by simp)))) (BQ (k0:=9) rfl gv Fo jd)) ⟨hM.1.pop,hib,hM.2.pop,Nat.le_refl _⟩ (fun g b hb=>Bz (k0:=9) rfl hb) ?_
  intro p hP;refine wk 5 ?_;refine asp 98 (fun hb6=>?_) fun hb6=>?_
  .
   refine act ?_;have hjl:p.j<(Au f b).length:=by have h:=hb6;simp at h;exact h
   obtain⟨a,ha⟩:=Ae hjl;have ha2:=IY (List.mem_of_getElem? ha);refine wk 5 ?_;refine aq 99 (HU Ah (b:=4*b+0+16) (es:=(Au f b).map By) rfl rfl rfl rfl rfl rfl ((Ao _ _ _).trans (congrArg some (fU hb))) rfl (Int.natCast_nonneg _) (by rw[List.length_map];omega)) ?_;refine aq 100 (AA Ah rfl rfl rfl (.ptr _ _ _ _ true 1 ((Au f b).map By) (By a) ((Ao _ _ _).trans (congrArg some ((fU hb).trans (Qv (k:=p.j) (by rw[List.length_map];omega))))) rfl (by rw[Int.toNat_natCast,List.getElem?_map,ha];rfl)) rfl) ?_;refine wk 6 ?_;refine aq 103 (Ac Ah rfl rfl rfl rfl rfl rfl Bu (An _ _).symm rfl (Int.natCast_nonneg _) (by omega)) ?_;refine aq 104 (AA Ah rfl rfl rfl (.ptr _ _ _ _ _ _ _ [.int .i64 (firstG f G v a:Int)] Bu (An _ _).symm (by rw[Nat.zero_add,Int.toNat_natCast];exact BK ha2)) rfl) ?_;refine wk 2 ?_;refine Ex 106 (fun hb7=>?_) fun hb7=>?_
   .
    refine wk 1 ?_;have hz:=hb7;refine wk 1 ?_;refine aq 109 (Ac Ah rfl rfl rfl rfl rfl rfl Bu (An _ _).symm rfl (Int.natCast_nonneg _) (by omega)) ?_;refine aq 110 (AA Ah rfl rfl rfl (.ptr _ _ _ _ _ _ _ [.bool (p.inn a)] Bu (An _ _).symm (by rw[Nat.zero_add,Int.toNat_natCast];exact BK ha2)) rfl) ?_;refine wk 3 ?_;refine asp 112 (fun hb8=>?_) fun hb8=>?_
    .
     refine act ?_;have h0:firstG f G v a=0:=by have h:=hz;simp at h;omega
     have hni:p.inn a=false:=by have h:=hb8;simpa using h
     refine wk 4 ?_;refine aq 115 (Ac Ah rfl rfl rfl rfl rfl rfl Bu (An _ _).symm rfl (Int.natCast_nonneg _) (by omega)) ?_;refine AOps.w rfl rfl (o_store Ah rfl rfl rfl rfl rfl Bu (An _ _).symm (by rw[Nat.zero_add,Int.toNat_natCast];exact BK ha2) rfl (by decide) rfl (fun _=>rfl)) ?_;refine wk 4 ?_;refine ax 118 (Cq Ah rfl rfl rfl rfl rfl rfl (by decide) rfl rfl rfl rfl rfl rfl) ?_;refine ax 119 (KU Ah (es:=p.es) rfl rfl rfl rfl rfl rfl rfl rfl Bu rfl hP.st.le rfl rfl (Nat.zero_lt_succ _) (.lst _ _) rfl (fun _=>rfl) (by have:=hP.st.max;show _*8<=_;omega) (by have:=hP.st.max;simp only[maxLen];omega)) ?_;refine wk 3 ?_;refine aq 120 (Be rfl rfl hjl (by have:=JE f b;simp only[maxLen];omega)) ?_;refine wk 2 ?_;exact⟨⟨Cj p.inn a true,p.todo++[a],CN p.es p.todo.length (By a),p.j+1⟩,DropK.mk' kh (Bg (k0:=9) rfl qv Fo (A7 (Aq _) f R _ _)),(hP.push ha h0 hni),(by show(Au f b).length-(p.j+1)<(Au f b).length-p.j;omega)⟩
    refine acf ?_;have hno: ¬(firstG f G v a=0/\p.inn a=false):=fun e=>by
     have h:=hz;have h2:=hb8;simp[e.1,e.2]at h h2
    exact zt16
   refine wk 1 ?_;have hz:=hb7;refine wk 7 ?_;have hno: ¬(firstG f G v a=0/\p.inn a=false):=fun e=>by
    have h:=hz;have h2:=hb7;simp[e.1,e.2]at h h2
   exact zt16
  refine acf ?_;have hjge:(Au f b).length<=p.j:=by have h:=hb6;simp at h;omega
  refine wk 1 ?_;exact⟨⟨p.inn,p.todo,p.es⟩,DropK.mk' HD (Bg (k0:=9) rfl gv Fo (A7 (Aq _) f R _ _)),⟨(by have h:=hP.k;rw[List.drop_eq_nil_iff.2 hjge]at h;exact h.any),hP.st⟩,(Nat.lt_of_le_of_lt hP.mu (by show 2*Lg f.blocks.length inn+todo'.length<2*Lg f.blocks.length inn+(todo'++[b]).length;simp))⟩
 refine acf ?_;have htd:todo=[]:=by
  rcases ED todo with h |⟨L,b,h⟩
  . exact h
  . have h2:=hb5;rw[h]at h2;simp at h2
 subst htd;refine wk 2 ?_;refine AGo.ghost (.freezeA 6 1 rfl rfl (An _ _).symm) ?_;refine wk 5 ?_;refine⟨[_],⟨rfl,trivial⟩,?_,(Lf rfl (by repeat(first | exact trivial | refine⟨by first | rfl |((try simp only[hputs]);repeat(first | rfl | exact Ap _ _ _ | refine Ay (by exact Af (by omega)) ?_ | refine hrm_skip (by omega) ?_ | refine(Ct _ OA).trans ?_)),?_⟩)) (fun x_=>by dsimp only;rw[EL _ (by omega)];exact Ao _ _ _))⟩;show AV.lst false (bC f.blocks.length inn)=_;rw[bY];exact congrArg Ch (Jt fun b hb=>hM.1.done hs hb)
theorem bw(t:Tac):APure Tryz.prog 86 [.agg t.cells] (fun r=>r= .bool t.pure):=by
 refine APure.of_body (n:=19) Ah Tryz.func86 rfl rfl ?_;refine LN ?_;refine ax 1 (Fx 8 0) ?_;refine wk 15 ?_;refine asp 5 (fun hb1=>?_) fun hb1=>?_
 .
  refine wk 7 ?_;exact Wx
 refine wk 6 ?_;refine asp 5 (fun hb2=>?_) fun hb2=>?_
 .
  refine wk 7 ?_;exact Wx
 refine wk 5 ?_;refine asp 5 (fun hb3=>?_) fun hb3=>?_
 .
  refine wk 5 ?_;exact Wx
 refine wk 6 ?_;refine asp 9 (fun hb4=>?_) fun hb4=>?_
 .
  refine wk 7 ?_;refine Ex 14 (fun hb5=>?_) fun hb5=>?_
  .
   refine wk 6 ?_;exact Wx
  refine wk 6 ?_;exact Wx
 refine wk 6 ?_;exact Wx
theorem Rh(f:BFunc)(hs:f.sane)(R:Nat)(hRf:f.regs=(R:Int))(st:RSd)(hq:QId R st)(v:Nat)(hv:v<R)(hn:f.blocks.length<=100000)(hR:R<=100000)(hi: ∀x∈f.blocks,x.ins.length<=100000):ACall Tryz.prog 59 [.ptr 2 1 0 0,.int .i64 (v:Int)] (DH (HG f R (SB f) (st.es) (st.ws.length) (st.w)) (DF f R (SB f) st.G)) (fun r h'=>r= .tup []/\HSub (Ey hNone (DH (HG f R (SB f) (G9 f v st).es (G9 f v st).ws.length (G9 f v st).w) (DF f R (SB f) (G9 f v st).G))) h'):=by
 obtain⟨inn,hinn⟩: ∃inn:Nat->Bool,inn=fun b=>UM (Cg f st.G) v b:=⟨_,rfl⟩
 refine ACall.of_body (n:=109) Ah Tryz.func59 rfl rfl ?_;refine wk 8 ?_;refine aq 18 (Ac Ah rfl rfl rfl rfl rfl rfl rfl (An _ _).symm rfl (Int.natCast_nonneg _) (by omega)) ?_;refine aq 19 (AA Ah rfl rfl rfl (.ptr _ _ _ _ _ _ _ [oR f.blocks.length R (SB f) v] Bu (An _ _).symm WD) rfl) ?_;refine aq 20 (Ff Ah rfl rfl rfl rfl) ?_;refine wk 2 ?_;refine asp 21 (fun hb1=>?_) fun hb1=>?_
 .
  refine act ?_;have hz0:(Fb f v).length=0:=by have h:=hb1;rw[DT]at h;simp only[beq_iff_eq]at h;exact Int.ofNat_inj.1 h
  refine Ge ?_;rw[Xd hz0];exact cJ
 refine acf ?_
 skip
 refine wk 5 ?_;refine AOps.call 24 (hn:=Ey _ (DH (HG f R (SB f) (st.es) (st.ws.length) (st.w)) (DF f R (SB f) st.G))) (r:=Ch (Gz f.blocks.length inn)) rfl rfl rfl (D2 (HG f R (SB f) (st.es) (st.ws.length) (st.w)) (HG f R (SB f) (st.es) (st.ws.length) (st.w)) (DF f R (SB f) st.G) rfl Tryz.func84 (by kernel_rfl) rfl rfl rfl rfl rfl (B5 _ _ _ _ _ _) (B5 _ _ _ _ _ _) Qe Gt (A7 Cs f R _ _) (A7 Cs f R _ _) rfl (by rw[hinn];exact Tx f hs R st.G st.es st.ws.length st.w v hv hn hR hi)) ?_;refine wk 9 ?_;refine aq 30 (Ac Ah rfl rfl rfl rfl rfl rfl Bu (An _ _).symm rfl (Int.natCast_nonneg _) (by omega)) ?_;refine aq 31 (AA Ah rfl rfl rfl (.ptr _ _ _ _ _ _ _ [oR f.blocks.length R (SB f) v] Bu (An _ _).symm WD) rfl) ?_;refine aq 32 (Ff Ah rfl rfl rfl rfl) ?_;refine wk 3 ?_;refine A6 (γ:=Nat) (kf 8) (fun k=>⟨109,(Aa (Aa (Aa (Aa (Aa (Aa A8 0 (.ptr 2 1 0 0)) 1 (.int .i64 (v:Int))) 4 (Ch (Gz f.blocks.length inn))) 31 (oR f.blocks.length R (SB f) v)) 32 (.int .i64 ((Ja f.blocks.length R (SB f) v).length:Int))) 33 (.int .i64 (k:Int))),(GV (nb [.free,.free,(.row false 8 [RF f R ((Jo f inn v st k).es).length ((Jo f inn v st k).ws.length)]),(.row false 1 (Aw (aR (Au f)) f.blocks.length)),(.row false 1 (Aw (oR f.blocks.length R (SB f)) R)),(.row false 1 (Aw (gR f) f.blocks.length)),(.row true 1 ((Jo f inn v st k).es)),(.row true 1 (bC R ((Jo f inn v st k).w)))]) (DF f R (SB f) (Jo f inn v st k).G))⟩) (fun k=>k<=(Fb f v).length/\QId R (Jo f inn v st k)) (fun k=>(Fb f v).length-k) 0 (Sub.mk' (by repeat(first | exact ESub.new _ | refine ESub.put ?_ (by first | rfl))) (BQ (k0:=8) rfl qt Gt cx)) ⟨Nat.zero_le _,hq⟩ (fun g b hb=>Bz (k0:=8) rfl hb) ?_
 intro k hQ;generalize hK:(Jo f inn v st k)=q at hQ |-;refine wk 5 ?_;refine asp 34 (fun hb2=>?_) fun hb2=>?_
 .
  refine act ?_;have hkl:k<(Fb f v).length:=by have h:=hb2;rw[DT]at h;simp only[decide_eq_true_eq]at h;exact Int.ofNat_lt.1 h
  obtain⟨i,hgi⟩:=Ae hkl;have hig:i<f.blocks.length/\0<(SB f i v).length:=Ra (S:=SB f) hgi;obtain⟨x,hx⟩:=Ae hig.1;have hxm:=List.mem_of_getElem? hx;refine wk 5 ?_;refine aq 35 (M7 Ah rfl rfl rfl rfl rfl rfl ((Ao _ _ _).trans (congrArg some (Ry hv))) rfl (Int.natCast_nonneg _) (by rw[DT];exact Int.ofNat_lt.2 hkl)) ?_;refine aq 36 (AA Ah rfl rfl rfl (.ptr _ _ _ _ false 2 (Ja f.blocks.length R (SB f) v) (Tf R (SB f) v i) ((Ao _ _ _).trans (congrArg some ((Ry hv).trans (Qu (k:=k) (by rw[DT];exact hkl))))) rfl (by rw[Int.toNat_natCast];show((Fb f v).map (Tf R (SB f) v))[_]?=_;rw[List.getElem?_map,hgi];rfl)) rfl) ?_;refine ax 6 (Hg Ah 8 rfl rfl Bu rfl (Nat.zero_lt_succ _) rfl) ?_;refine wk 15 ?_;refine dq 43 (At Ah rfl rfl rfl rfl rfl rfl (Int.natCast_nonneg _) (AC (Cz hx)) rfl) ?_;refine wk 5 ?_;refine A6 (γ:=Nat) (kf 9) (fun j=>⟨109,(Aa (Aa (Aa (Aa (Aa (Aa (Aa (Aa (Aa (Aa (Aa A8 0 (.ptr 2 1 0 0)) 1 (.int .i64 (v:Int))) 4 (Ch (Gz f.blocks.length inn))) 31 (oR f.blocks.length R (SB f) v)) 32 (.int .i64 ((Ja f.blocks.length R (SB f) v).length:Int))) 33 (.int .i64 (k:Int))) 6 (.ptr 8 1 0 0)) 7 (.bool (TF inn x j))) 44 (AM x.nexts)) 45 (.int .i64 (x.nexts.length:Int))) 46 (.int .i64 (j:Int))),(GV (nb [.free,.free,(.row false 8 [RF f R (q.es).length (q.ws.length)]),(.row false 1 (Aw (aR (Au f)) f.blocks.length)),(.row false 1 (Aw (oR f.blocks.length R (SB f)) R)),(.row false 1 (Aw (gR f) f.blocks.length)),(.row true 1 (q.es)),(.row true 1 (bC R (q.w))),(.row false 2 [Tf R (SB f) v i])]) (DF f R (SB f) q.G))⟩) (fun j=>True) (fun j=>x.nexts.length-j) 0 (Sub.mk' Dw (BQ (k0:=9) rfl oe Fo jd)) trivial (fun g b hb=>Bz (k0:=9) rfl hb) ?_
  intro j _;refine wk 5 ?_;refine asp 47 (fun hb3=>?_) fun hb3=>?_
  .
   refine act ?_;have hjl:j<x.nexts.length:=by have h:=hb3;simp[AM]at h;exact h
   obtain⟨d,hd⟩:=Ae hjl;have hd0:=hs.next x hxm d (List.mem_of_getElem? hd);have hdn:d.toNat<f.blocks.length:=by omega
   refine wk 5 ?_;refine aq 48 (JF Ah (AC hd)) ?_;refine wk 6 ?_;refine Ex 51 (fun hb4=>?_) fun hb4=>?_
   .
    refine wk 8 ?_;exact jY
   refine wk 2 ?_;have hz9:=hb4;refine aq 54 (At Ah rfl rfl rfl rfl rfl rfl hd0.1 (AC (SM hdn)) rfl) ?_;refine wk 5 ?_;exact jY
  refine acf ?_;have hjge:x.nexts.length<=j:=by have h:=hb3;simp[AM]at h;omega
  refine wk 6 ?_;refine aq 61 (Bx (r:=.int .i64 ((((GK f v i).length-0:Nat):Int)-1)) rfl rfl rfl (Xb (by have h1:(SB f i v).length<=x.ins.length+1:=L2 hx;have:=hi x hxm;omega))) ?_;refine wk 3 ?_;refine A6 (γ:=Nat) (kf 9) (fun m=>⟨109,(Aa (Aa (Aa (Aa (Aa (Aa (Aa (Aa (Aa A8 0 (.ptr 2 1 0 0)) 1 (.int .i64 (v:Int))) 4 (Ch (Gz f.blocks.length inn))) 31 (oR f.blocks.length R (SB f) v)) 32 (.int .i64 ((Ja f.blocks.length R (SB f) v).length:Int))) 33 (.int .i64 (k:Int))) 6 (.ptr 8 1 0 0)) 7 (.bool (Cx inn v x i q m).2)) 10 (.int .i64 ((((GK f v i).length-m:Nat):Int)-1))),(GV (nb [.free,.free,(.row false 8 [RF f R ((Cx inn v x i q m).1.es).length ((Cx inn v x i q m).1.ws.length)]),(.row false 1 (Aw (aR (Au f)) f.blocks.length)),(.row false 1 (Aw (oR f.blocks.length R (SB f)) R)),(.row false 1 (Aw (gR f) f.blocks.length)),(.row true 1 ((Cx inn v x i q m).1.es)),(.row true 1 (bC R ((Cx inn v x i q m).1.w))),(.row false 2 [Tf R (SB f) v i])]) (DF f R (SB f) (Cx inn v x i q m).1.G))⟩) (fun m=>m<=(GK f v i).length/\QId R (Cx inn v x i q m).1) (fun m=>(GK f v i).length-m) 0 (Sub.mk' (by repeat(first | exact ESub.new _ | refine ESub.put ?_ (by first | rfl | exact congrArg (fun z=>some (AV.bool z)) (cb hjge) | exact congrArg (fun(n:Nat)=>some (AV.int .i64 (n:Int))) (by simp)))) (BQ (k0:=9) rfl oe Fo jd)) ⟨Nat.zero_le _,hQ.2⟩ (fun g b hb=>Bz (k0:=9) rfl hb) ?_
  intro m hF;generalize hS2:(Cx inn v x i q m)=S2 at hF |-;refine wk 6 ?_;refine asp 63 (fun hb5=>?_) fun hb5=>?_
  .
   refine act ?_;obtain⟨kk,hkk⟩: ∃kk,m+kk+1=(GK f v i).length:=⟨(GK f v i).length-m-1,by have h:=hb5;simp at h;omega⟩
   obtain⟨s,hsk⟩:=Ae (l:=GK f v i) (k:=kk) (by omega);have hat:=Vz hx hsk;rw[show(((GK f v i).length-m:Nat):Int)-1=(kk:Int) by omega];refine wk 8 ?_;refine aq 69 (Ac Ah rfl rfl rfl rfl rfl rfl ((Ao _ _ _).trans (congrArg some (Mo hv hig.2))) (List.length_map _).symm rfl (Int.natCast_nonneg _) (by show((kk:Nat):Int)<((GK f v i).length:Int);omega)) ?_;refine aq 70 (AA Ah rfl rfl rfl (.ptr _ _ _ _ true 3 ((GK f v i).map Gx) (Gx s) ((Ao _ _ _).trans (congrArg some (Mo hv hig.2))) (List.length_map _).symm (by rw[Nat.zero_add,Int.toNat_natCast,List.getElem?_map,hsk];rfl)) rfl) ?_;refine ax 11 (Hg Ah 9 rfl rfl Bu rfl (Nat.zero_lt_succ _) rfl) ?_;refine wk 9 ?_;refine AOps.call 75 (hn:=Ey _ (DH (HG f R (SB f) (S2.1.es) (S2.1.ws.length) (S2.1.w)) (DF f R (SB f) S2.1.G))) (r:=.bool (leftS (S2.1.G i) x.ins.length s)) rfl rfl rfl (D2 (HG f R (SB f) (S2.1.es) (S2.1.ws.length) (S2.1.w)) (HG f R (SB f) (S2.1.es) (S2.1.ws.length) (S2.1.w)) (DF f R (SB f) S2.1.G) rfl Tryz.func85 (by kernel_rfl) rfl rfl rfl rfl rfl (B5 _ _ _ _ _ _) (B5 _ _ _ _ _ _) Qe Gt (A7 Cs f R _ _) (A7 Cs f R _ _) rfl (Ty f R (SB f) S2.1.G S2.1.es S2.1.ws.length S2.1.w i x hx s hat)) ?_
   refine wk 2 ?_;refine asp 76 (fun hb6=>?_) fun hb6=>?_
   .
    refine act ?_;have hlf:leftS (S2.1.G i) x.ins.length s=false:=by have h:=hb6;simpa using h
    have hnx2:Cx inn v x i q (m+1)=S2:=by rw[E1 (by rw[<-Do hx];exact hsk) (by rw[<-Do hx];exact hkk),hS2];exact Uf hlf
    refine wk 3 ?_;exact od
   refine acf ?_;have hlf:leftS (S2.1.G i) x.ins.length s=true:=by have h:=hb6;simpa using h
   refine wk 7 ?_;refine asp 78 (fun hb7=>?_) fun hb7=>?_
   .
    refine act ?_;have hss:s.s=true:=hb7;obtain⟨t,ht⟩:=Za hx hsk hss;have htu: ∀u∈t.uses,0<=u/\u<R:=fun u hu=>by have:=(hs.low x hxm t (List.mem_of_getElem? ht)).2 u hu;rw[hRf]at this;exact this
    refine wk 10 ?_;refine dq 86 (JF Ah (AC hx)) ?_;refine wk 4 ?_;refine dq 91 (JF Ah (AC ht)) ?_;refine wk 1 ?_;refine dx 12 (Hg Ah 10 rfl rfl Bu rfl (Nat.zero_lt_succ _) rfl) ?_;refine wk 7 ?_;refine Ex 95 (fun hb8=>?_) fun hb8=>?_
    .
     refine wk 1 ?_;have hz:=hb8;refine ax 97 (DX Tryz.func86 (bw _)) ?_;refine wk 2 ?_;refine asp 98 (fun hb9=>?_) fun hb9=>?_
     .
      refine act ?_;have hnx2:Cx inn v x i q (m+1)=(BM i s.at_ t.uses S2.1,S2.2):=by rw[E1 (by rw[<-Do hx];exact hsk) (by rw[<-Do hx];exact hkk),hS2];exact R6 hlf ht hss (by have h:=hz;simpa using h) hb9
      refine wk 8 ?_;refine AOps.call 105 (hn:=Ey _ (DH (HG f R (SB f) ((BM i s.at_ t.uses S2.1).es) ((BM i s.at_ t.uses S2.1).ws.length) ((BM i s.at_ t.uses S2.1).w)) (DF f R (SB f) (BM i s.at_ t.uses S2.1).G))) (r:=.tup []) rfl rfl rfl (D2 (HG f R (SB f) (S2.1.es) (S2.1.ws.length) (S2.1.w)) (HG f R (SB f) ((BM i s.at_ t.uses S2.1).es) ((BM i s.at_ t.uses S2.1).ws.length) ((BM i s.at_ t.uses S2.1).w)) (DF f R (SB f) (BM i s.at_ t.uses S2.1).G) rfl Tryz.func87 (by kernel_rfl) rfl rfl rfl rfl rfl (B5 _ _ _ _ _ _) (B5 _ _ _ _ _ _) Qe Gt (A7 Cs f R _ _) (A7 Cs f R _ _) rfl (Yc f R (SB f) S2.1.G S2.1.es S2.1.ws S2.1.w i s.at_ x hx (List.getElem?_eq_some_iff.1 ht).1 t htu hR hF.2)) ?_;refine wk 4 ?_;refine aq 65 (Bx (r:=.int .i64 ((((GK f v i).length-(m+1):Nat):Int)-1)) rfl rfl rfl (fv hkk (by have:=L2 hx (v:=v);have:=hi x hxm;omega))) ?_;refine wk 2 ?_;exact⟨m+1,DropK.mk' kd (Bg (k0:=9) rfl qu ki (A7 (Aq _) f R _ _)),⟨by omega,by rw[hnx2];exact hF.2.leaveR htu⟩,(by omega)⟩
     refine acf ?_;have hk2:s.s=true->∀t,x.ins[s.at_]?=some t->(!S2.2&&t.pure)=false:=fun _ t' e=>by
      rw[ht]at e;cases e;first |(rw[show t.pure=false from hb9];exact Bool.and_false _) |(rw[hz];rfl)
     refine wk 9 ?_;refine asp 107 (fun hb10=>?_) fun hb10=>?_
     .
      refine act ?_;have hr:s.r=true:=hb10;exact gd
     refine acf ?_;have hr:s.r=false:=hb10;exact gc
    refine wk 1 ?_;have hz:=hb8;refine wk 4 ?_;have hk2:s.s=true->∀t,x.ins[s.at_]?=some t->(!S2.2&&t.pure)=false:=fun _ t' e=>by
     rw[ht]at e;cases e;first |(rw[show t.pure=false from hb8];exact Bool.and_false _) |(rw[hz];rfl)
    refine wk 9 ?_;refine asp 107 (fun hb11=>?_) fun hb11=>?_
    .
     refine act ?_;have hr:s.r=true:=hb11;exact gd
    refine acf ?_;have hr:s.r=false:=hb11;exact gc
   refine acf ?_;have hss:s.s=false:=hb7;have hk2:s.s=true->∀t,x.ins[s.at_]?=some t->(!S2.2&&t.pure)=false:=fun e=>by rw[hss]at e;cases e
   refine wk 6 ?_;refine asp 107 (fun hb12=>?_) fun hb12=>?_
   .
    refine act ?_;have hr:s.r=true:=hb12;exact gd
   refine acf ?_;have hr:s.r=false:=hb12;exact gc
  refine acf ?_;have hmge:(GK f v i).length<=m:=by have h:=hb5;simp at h;omega
  have hnx:Jo f inn v st (k+1)=S2.1:=by rw[<-Xe hgi hx hmge,hK,hS2]
  refine wk 2 ?_;refine aq 108 (Be rfl rfl hkl gp) ?_;refine wk 2 ?_;exact⟨k+1,DropK.mk' (by repeat(first | exact EDropK.new _ _ | refine EDropK.put ?_ (by first | rfl | exact congrArg (fun(n:Nat)=>some (AV.int .i64 (n:Int))) (by simp)) (by first | rfl | exact A0 (Aq _) _ _ _ _))) (Bg (k0:=8) rfl (by repeat(first | exact trivial | refine⟨⟨by first | rfl | exact BI rfl |(rw[hnx];first | rfl | exact BI rfl),by first | rfl | exact Ad (fun _ _=>A9 (Aq _) _ _) | exact Ad (fun _ _=>A0 (Aq _) _ _ _ _) | exact Ad (fun _ _=>BP (Aq _) _ _) | exact Eo _⟩,?_⟩)) (fun x_=>by rw[hnx];(try simp only[hputs]);(try dsimp only);first | exact Ao _ _ _ | exact(El _ _ x_).trans (Ao _ _ _)) (A7 (Aq _) f R _ _)),⟨hkl,by rw[hnx];exact hF.2⟩,(by omega)⟩
 refine acf ?_;have hkge:(Fb f v).length<=k:=by have h:=hb2;rw[DT]at h;simp only[decide_eq_false_iff_not]at h;exact Nat.le_of_not_lt fun e=>h (Int.ofNat_lt.2 e)
 refine wk 1 ?_;have hkk0:k=(Fb f v).length:=by omega
 have hreg:G9 f v st=q:=by rw[<-hK,hkk0,hinn];rfl
 rw[hreg];exact cJ
theorem N2(n R:Nat)(S:CK)(v i p:Nat)(hv:v<R)(hi0:i<n)(hlast: ∀j,i<j->S j v=[])(hlen:(S i v).length<=1000000)(hn:n<=100000)(c0 c1 c2 c3 c5 c6 c7:AV)(r3 r5 r6 r7:AObj)(r0 r1:Nat->AObj):ACall Tryz.prog 82 [.ptr 2 1 0 0,.int .i64 (v:Int),.int .i64 (i:Int),.int .i64 (p:Int)] (DH [(.row false 8 [[c0,c1,c2,c3,.ref 4 R 0 R,c5,c6,c7]]),r3,(.row false 1 (Aw (oR n R S) R)),r5,r6,r7] (F4 r0 r1 (M4 n R S) (LW R S))) (fun r h'=>r= .ptr (4*(v+R*i)+3+16) (A2 (S i v) p).length ((A2 (S i v) p).length-1) 0/\HSub (Ey hNone (DH [(.row false 8 [[c0,c1,c2,c3,.ref 4 R 0 R,c5,c6,c7]]),r3,(.row false 1 (Aw (oR n R (Ca S i v (A2 (S i v) p))) R)),r5,r6,r7] (F4 r0 r1 (M4 n R (Ca S i v (A2 (S i v) p))) (LW R (Ca S i v (A2 (S i v) p)))))) h'):=by
 have hpl:=Xp S i v;have hgl:=Q9 S n v;refine ACall.of_body (n:=94) Ah Tryz.func82 rfl rfl ?_;refine wk 11 ?_;refine aq 16 (Ac Ah rfl rfl rfl rfl rfl rfl rfl (An _ _).symm rfl (Int.natCast_nonneg _) (by omega)) ?_;refine aq 17 (AA Ah rfl rfl rfl (.ptr _ _ _ _ _ _ _ [oR n R S v] rfl (An _ _).symm WD) rfl) ?_;refine wk 6 ?_;refine aq 19 (Ff Ah rfl rfl rfl rfl) ?_;refine wk 2 ?_;refine Ex 21 (fun hb1=>?_) fun hb1=>?_
 .
  refine wk 11 ?_;refine AGo.join (γ:=Unit) (fun _u=>⟨94,(Aa (Aa (Aa (Aa (Aa A8 0 (.ptr 2 1 0 0)) 1 (.int .i64 (v:Int))) 2 (.int .i64 (i:Int))) 3 (.int .i64 (p:Int))) 9 (.ref (4*v+2+16) ((B6 S i v).length+1) 0 ((B6 S i v).length+1))),(DH [(.row false 8 [[c0,c1,c2,c3,.ref 4 R 0 R,c5,c6,c7]]),r3,(.row false 1 (Aw (oX n R S v i) R)),r5,r6,r7] (F4 r0 r1 (O9 n R S v i (S i v)) (LW R S)))⟩) (fun _u=>True) ?_ ?_
  .
   refine act ?_;have hS0:S i v=[]:=by
    first
    | exact note_new2 hi0 hlast hj0 (by omega) (by have h:=hb1;simp at h;omega)
    | exact Po hi0 hlast (D4 hb1)
   exact qq
  intro _ _;refine wk 5 ?_;refine aq 47 (Bx (r:=.int .i64 (((B6 S i v).length:Nat):Int)) rfl rfl rfl (O1 (L:=(B6 S i v).length+1) (Nat.succ_pos _) (by omega))) ?_;refine aq 48 (Ac Ah rfl rfl rfl rfl rfl rfl ((Ao _ _ _).trans (congrArg some (Fe))) LS rfl (Int.natCast_nonneg _) (by omega)) ?_;refine wk 8 ?_;refine dq 52 (AA Ah rfl rfl rfl (.ptr _ _ _ _ false 2 (Cd R S v i++[IT R v i (S i v)]) (IT R v i (S i v)) ((Ao _ _ _).trans (congrArg some (Fe))) LS OB) rfl) ?_;refine dq 53 (Ff Ah rfl rfl rfl rfl) ?_;refine wk 2 ?_;refine DOps.split 55 rfl (fun hb2=>?_) (fun hb2=>?_)
  .
   refine wk 15 ?_;refine dq 71 (E3 true rfl rfl rfl rfl) ?_;refine wk 1 ?_;refine AGo.join (γ:=Unit) (fun _u=>⟨94,(Aa A8 10 (.ptr (4*v+2+16) ((B6 S i v).length+1) (0+(((B6 S i v).length:Nat):Int).toNat) 0)),(DH [(.row false 8 [[c0,c1,c2,c3,.ref 4 R 0 R,c5,c6,c7]]),r3,(.row false 1 (Aw (oX n R S v i) R)),r5,r6,r7] (F4 r0 r1 (O9 n R S v i (A2 (S i v) p)) (Xi R S v i (A2 (S i v) p))))⟩) (fun _u=>True) ?_ ?_
   .
    refine act ?_;have hnl:A2 (S i v) p=S i v++[⟨p,false,false⟩]:=by
     first
     | exact IJ hs0 (by omega) (by have h:=hb2;simp at h;omega)
     |(have h0:(S i v).length=0:=(by have h:=hb2;first | exact D4 h |(rw[List.length_map]at h;exact D4 h));rw[L6 h0];rfl)
    exact n8
   exact n7
  have hs1:0<(S i v).length:=by have h:=hb2;rw[List.length_map]at h;exact Re h
  obtain⟨s0,hs0⟩:=Ae (l:=S i v) (k:=(S i v).length-1) (by omega);refine wk 3 ?_;refine dq 59 (AA Ah rfl rfl rfl (.ptr _ _ _ _ false 2 (Cd R S v i++[IT R v i (S i v)]) (IT R v i (S i v)) ((Ao _ _ _).trans (congrArg some (Fe))) LS OB) rfl) ?_;refine wk 3 ?_;refine dq 63 (AA Ah rfl rfl rfl (.ptr _ _ _ _ false 2 (Cd R S v i++[IT R v i (S i v)]) (IT R v i (S i v)) ((Ao _ _ _).trans (congrArg some (Fe))) LS OB) rfl) ?_;refine dq 64 (Ff Ah rfl rfl rfl rfl) ?_;refine dq 65 (Bx (r:=.int .i64 (((S i v).length-1:Nat):Int)) rfl rfl rfl (by rw[List.length_map];exact O1 hs1 (by omega))) ?_;refine dq 66 (HU Ah (b:=(4*(v+R*i)+3+16)) (es:=(S i v).map Gx) rfl rfl rfl rfl rfl rfl ((Ao _ _ _).trans (congrArg some (O8 hv))) rfl (Int.natCast_nonneg _) (by rw[List.length_map];omega)) ?_;refine wk 1 ?_;refine dq 68 (AA Ah rfl rfl rfl (.ptr _ _ _ _ true 3 ((S i v).map Gx) (Gx s0) ((Ao _ _ _).trans (congrArg some ((O8 hv).trans (L3 hs1)))) rfl (by rw[Int.toNat_natCast,List.getElem?_map,hs0];rfl)) rfl) ?_
  refine wk 2 ?_;refine dq 71 (Ek false rfl rfl rfl rfl) ?_;refine wk 1 ?_;refine AGo.join (γ:=Unit) (fun _u=>⟨94,(Aa A8 10 (.ptr (4*v+2+16) ((B6 S i v).length+1) (0+(((B6 S i v).length:Nat):Int).toNat) 0)),(DH [(.row false 8 [[c0,c1,c2,c3,.ref 4 R 0 R,c5,c6,c7]]),r3,(.row false 1 (Aw (oX n R S v i) R)),r5,r6,r7] (F4 r0 r1 (O9 n R S v i (A2 (S i v) p)) (Xi R S v i (A2 (S i v) p))))⟩) (fun _u=>True) ?_ ?_
  .
   refine asp 71 (fun hb3=>?_) fun hb3=>?_
   .
    refine act ?_;have hnl:A2 (S i v) p=S i v++[⟨p,false,false⟩]:=by
     first
     | exact IJ hs0 (by omega) (by have h:=hb3;simp at h;omega)
     |(have h0:(S i v).length=0:=(by have h:=hb3;first | exact D4 h |(rw[List.length_map]at h;exact D4 h));rw[L6 h0];rfl)
    exact n8
   refine acf ?_;have hnl:A2 (S i v) p=S i v:=Pp hs0 (by omega) (by have h:=hb3;simp at h;omega);exact jO
  exact n7
 have hg0:0<(Me S n v).length:=by have h:=hb1;rw[DT]at h;exact Re h
 obtain⟨j0,hj0⟩:=Ae (l:=Me S n v) (k:=(Me S n v).length-1) (by omega);refine wk 2 ?_;refine aq 24 (Ff Ah rfl rfl rfl rfl) ?_;refine aq 25 (Bx (r:=.int .i64 (((Me S n v).length-1:Nat):Int)) rfl rfl rfl (by rw[DT];exact O1 hg0 (by omega))) ?_;refine aq 26 (M7 Ah rfl rfl rfl rfl rfl rfl ((Ao _ _ _).trans (congrArg some (Um hv))) rfl (Int.natCast_nonneg _) (by rw[DT];omega)) ?_;refine wk 1 ?_;refine aq 28 (AA Ah rfl rfl rfl (.ptr _ _ _ _ false 2 (Ja n R S v) (Tf R S v j0) ((Ao _ _ _).trans (congrArg some ((Um hv).trans (Qu (k:=(Me S n v).length-1) (by rw[DT];omega))))) rfl (by rw[Int.toNat_natCast];show((Me S n v).map (Tf R S v))[_]?=_;rw[List.getElem?_map,hj0];rfl)) rfl) ?_;refine wk 4 ?_;refine AGo.join (γ:=Unit) (fun _u=>⟨94,(Aa (Aa (Aa (Aa (Aa A8 0 (.ptr 2 1 0 0)) 1 (.int .i64 (v:Int))) 2 (.int .i64 (i:Int))) 3 (.int .i64 (p:Int))) 9 (.ref (4*v+2+16) ((B6 S i v).length+1) 0 ((B6 S i v).length+1))),(DH [(.row false 8 [[c0,c1,c2,c3,.ref 4 R 0 R,c5,c6,c7]]),r3,(.row false 1 (Aw (oX n R S v i) R)),r5,r6,r7] (F4 r0 r1 (O9 n R S v i (S i v)) (LW R S)))⟩) (fun _u=>True) ?_ ?_
 .
  refine asp 31 (fun hb4=>?_) fun hb4=>?_
  .
   refine act ?_;have hS0:S i v=[]:=by
    first
    | exact note_new2 hi0 hlast hj0 (by omega) (by have h:=hb4;simp at h;omega)
    | exact Po hi0 hlast (D4 hb4)
   exact qq
  refine acf ?_;have hji:j0=i:=by have h:=hb4;simp at h;omega
  rw[hji]at hj0;have hS1:0<(S i v).length:=au hi0 hlast hj0;refine fa ?_;exact⟨(),Sub.mk' (by repeat(first | exact ESub.new _ | refine ESub.put ?_ (by first | rfl | exact congrArg some (ap hi0 hlast hS1) |(rw[GJ,Ec];rfl)))) (Mi rfl rfl rfl (by repeat(first | exact trivial | refine⟨by first | rfl | exact congrArg (fun es=>some (AObj.row false 1 es)) ((dO hi0 hlast hS1).symm),?_⟩)) (fun x_=>(Ao _ _ _).trans (congrArg some (by rw[ZC hv hi0 hlast hS1]))) cx),trivial⟩
 intro _ _;refine wk 5 ?_;refine aq 47 (Bx (r:=.int .i64 (((B6 S i v).length:Nat):Int)) rfl rfl rfl (O1 (L:=(B6 S i v).length+1) (Nat.succ_pos _) (by omega))) ?_;refine aq 48 (Ac Ah rfl rfl rfl rfl rfl rfl ((Ao _ _ _).trans (congrArg some (Fe))) LS rfl (Int.natCast_nonneg _) (by omega)) ?_;refine wk 8 ?_;refine dq 52 (AA Ah rfl rfl rfl (.ptr _ _ _ _ false 2 (Cd R S v i++[IT R v i (S i v)]) (IT R v i (S i v)) ((Ao _ _ _).trans (congrArg some (Fe))) LS OB) rfl) ?_;refine dq 53 (Ff Ah rfl rfl rfl rfl) ?_;refine wk 2 ?_;refine DOps.split 55 rfl (fun hb5=>?_) (fun hb5=>?_)
 .
  refine wk 15 ?_;refine dq 71 (E3 true rfl rfl rfl rfl) ?_;refine wk 1 ?_;refine AGo.join (γ:=Unit) (fun _u=>⟨94,(Aa A8 10 (.ptr (4*v+2+16) ((B6 S i v).length+1) (0+(((B6 S i v).length:Nat):Int).toNat) 0)),(DH [(.row false 8 [[c0,c1,c2,c3,.ref 4 R 0 R,c5,c6,c7]]),r3,(.row false 1 (Aw (oX n R S v i) R)),r5,r6,r7] (F4 r0 r1 (O9 n R S v i (A2 (S i v) p)) (Xi R S v i (A2 (S i v) p))))⟩) (fun _u=>True) ?_ ?_
  .
   refine act ?_;have hnl:A2 (S i v) p=S i v++[⟨p,false,false⟩]:=by
    first
    | exact IJ hs0 (by omega) (by have h:=hb5;simp at h;omega)
    |(have h0:(S i v).length=0:=(by have h:=hb5;first | exact D4 h |(rw[List.length_map]at h;exact D4 h));rw[L6 h0];rfl)
   exact n8
  exact n7
 have hs1:0<(S i v).length:=by have h:=hb5;rw[List.length_map]at h;exact Re h
 obtain⟨s0,hs0⟩:=Ae (l:=S i v) (k:=(S i v).length-1) (by omega);refine wk 3 ?_;refine dq 59 (AA Ah rfl rfl rfl (.ptr _ _ _ _ false 2 (Cd R S v i++[IT R v i (S i v)]) (IT R v i (S i v)) ((Ao _ _ _).trans (congrArg some (Fe))) LS OB) rfl) ?_;refine wk 3 ?_;refine dq 63 (AA Ah rfl rfl rfl (.ptr _ _ _ _ false 2 (Cd R S v i++[IT R v i (S i v)]) (IT R v i (S i v)) ((Ao _ _ _).trans (congrArg some (Fe))) LS OB) rfl) ?_;refine dq 64 (Ff Ah rfl rfl rfl rfl) ?_;refine dq 65 (Bx (r:=.int .i64 (((S i v).length-1:Nat):Int)) rfl rfl rfl (by rw[List.length_map];exact O1 hs1 (by omega))) ?_;refine dq 66 (HU Ah (b:=(4*(v+R*i)+3+16)) (es:=(S i v).map Gx) rfl rfl rfl rfl rfl rfl ((Ao _ _ _).trans (congrArg some (O8 hv))) rfl (Int.natCast_nonneg _) (by rw[List.length_map];omega)) ?_;refine wk 1 ?_;refine dq 68 (AA Ah rfl rfl rfl (.ptr _ _ _ _ true 3 ((S i v).map Gx) (Gx s0) ((Ao _ _ _).trans (congrArg some ((O8 hv).trans (L3 hs1)))) rfl (by rw[Int.toNat_natCast,List.getElem?_map,hs0];rfl)) rfl) ?_
 refine wk 2 ?_;refine dq 71 (Ek false rfl rfl rfl rfl) ?_;refine wk 1 ?_;refine AGo.join (γ:=Unit) (fun _u=>⟨94,(Aa A8 10 (.ptr (4*v+2+16) ((B6 S i v).length+1) (0+(((B6 S i v).length:Nat):Int).toNat) 0)),(DH [(.row false 8 [[c0,c1,c2,c3,.ref 4 R 0 R,c5,c6,c7]]),r3,(.row false 1 (Aw (oX n R S v i) R)),r5,r6,r7] (F4 r0 r1 (O9 n R S v i (A2 (S i v) p)) (Xi R S v i (A2 (S i v) p))))⟩) (fun _u=>True) ?_ ?_
 .
  refine asp 71 (fun hb6=>?_) fun hb6=>?_
  .
   refine act ?_;have hnl:A2 (S i v) p=S i v++[⟨p,false,false⟩]:=by
    first
    | exact IJ hs0 (by omega) (by have h:=hb6;simp at h;omega)
    |(have h0:(S i v).length=0:=(by have h:=hb6;first | exact D4 h |(rw[List.length_map]at h;exact D4 h));rw[L6 h0];rfl)
   exact n8
  refine acf ?_;have hnl:A2 (S i v) p=S i v:=Pp hs0 (by omega) (by have h:=hb6;simp at h;omega);exact jO
 exact n7
theorem QU(f:BFunc)(hs:f.sane)(R:Nat)(hRf:f.regs=(R:Int))(hR:R<=100000)(hn:f.blocks.length<=100000)(hi: ∀x∈f.blocks,x.ins.length<=100000):ACall Tryz.prog 58 [.agg f.cells] hNew (fun r h'=>r= .ptr 2 1 0 0/\HSub (Ey hNone (DH (HG f R (SB f) ((List.range R).map By) (R) (fun b=>decide (b<R))) (DF f R (SB f) G0))) h'):=by
 refine ACall.of_body (n:=152) Ah Tryz.func58 rfl rfl ?_;refine LN ?_;refine ax 1 (Fx 2 0) ?_;refine wk 6 ?_;refine dx 18 (DX Tryz.func80 (QT _ (by assumption))) ?_;refine wk 3 ?_;refine dx 22 (Az Ah (n:=f.blocks.length) (m:=f.blocks.length) 3 false rfl rfl rfl (by simp) (by simp) rfl rfl rfl rfl rfl (Nat.zero_lt_succ _) rfl (Nat.le_refl _) (by show 24*f.blocks.length<=_;omega) (by simp only[maxLen];omega)) ?_;refine wk 2 ?_;refine dx 25 (Az Ah (n:=R) (m:=R) 4 false rfl rfl rfl hRf hRf rfl rfl rfl rfl rfl (Nat.zero_lt_succ _) rfl (Nat.le_refl _) (by show 24*R<=_;omega) (by simp only[maxLen];omega)) ?_;refine wk 3 ?_;refine dx 29 (Az Ah (n:=f.blocks.length) (m:=f.blocks.length) 5 false rfl rfl rfl (by simp) (by simp) rfl rfl rfl rfl rfl (Nat.zero_lt_succ _) rfl (Nat.le_refl _) (by show 24*f.blocks.length<=_;omega) (by simp only[maxLen];omega)) ?_;refine wk 1 ?_;refine dx 31 (Fx 8 2) ?_;refine wk 4 ?_;refine AGo.ghost (Cu 3 (es':=Aw (aR (fun _=>[])) f.blocks.length) rfl (by rw[An,List.length_replicate]) (weak_col fun b=>Wk.nil _)) ?_;refine AGo.ghost (Cu 4 (es':=Aw (oR f.blocks.length R S0) R) rfl (by rw[An,List.length_replicate]) (weak_col fun b=>by rw[dP];exact Wk.nil _)) ?_
 refine wk 9 ?_;refine A6 (γ:=Nat) (kf 8) (fun k=>⟨152,(Aa (Aa (Aa (Aa (Aa A8 1 (.ptr 0 1 0 0)) 3 (.ptr 2 1 0 0)) 35 (AU f.nexts)) 36 (.int .i64 (f.blocks.length:Int))) 37 (.int .i64 (k:Int))),(GV (nb [(.row false 2 [f.cells]),.free,(.row false 8 [jg f R]),(.row false 1 (Aw (aR (aheadP f k 0)) f.blocks.length)),(.row false 1 (Aw (oR f.blocks.length R S0) R)),(.row false 1 (Aw (gK f 0) f.blocks.length)),.free,.free]) (F4 (QK f.blocks.length (aheadP f k 0)) (Oy f 0 G0) (M4 f.blocks.length R S0) (LW R S0)))⟩) (fun k=>k<=f.blocks.length) (fun k=>f.blocks.length-k) 0 (Sub.mk' ke (BQ (k0:=8) rfl (by repeat(first | exact trivial | refine⟨⟨by first | rfl | exact congrArg (fun A=>some (AObj.row false 1 (Aw (aR A) f.blocks.length))) (funext fun c=>(C4 f 0 c).symm) | exact congrArg (fun es=>some (AObj.row false 1 es)) (eG f f.blocks.length),by first | rfl | exact Ad (fun _ _=>A9 (Aq _) _ _) | exact Ad (fun _ _=>A0 (Aq _) _ _ _ _) | exact Ad (fun _ _=>DG (Aq _) _ _ _)⟩,?_⟩)) (fun x_=>by rw[Pb (C4 f 0)];(try simp only[hputs]);(repeat(first | refine Ay (by exact Af (by omega)) ?_ | refine hrm_skip (by omega) ?_));exact congrArg some F4_start.symm) cx)) (Nat.zero_le _) (fun g b hb=>Bz (k0:=8) rfl hb) ?_
 intro k hk;refine wk 5 ?_;refine asp 38 (fun hb1=>?_) fun hb1=>?_
 .
  refine act ?_;have hkl:k<f.blocks.length:=by have h:=hb1;simp at h;exact h
  obtain⟨x,hx⟩:=Ae hkl;have hxm:=List.mem_of_getElem? hx;refine wk 6 ?_;refine aq 40 (At Ah rfl rfl rfl rfl rfl rfl (Int.natCast_nonneg _) (AC (Cz hx)) rfl) ?_;refine wk 11 ?_;refine A6 (γ:=Nat) (kf 8) (fun j=>⟨152,(Aa (Aa (Aa (Aa (Aa (Aa (Aa (Aa (Aa A8 1 (.ptr 0 1 0 0)) 3 (.ptr 2 1 0 0)) 35 (AU f.nexts)) 36 (.int .i64 (f.blocks.length:Int))) 37 (.int .i64 (k:Int))) 4 (.int .i64 (k:Int))) 42 (AM x.nexts)) 43 (.int .i64 (x.nexts.length:Int))) 44 (.int .i64 (j:Int))),(GV (nb [(.row false 2 [f.cells]),.free,(.row false 8 [jg f R]),(.row false 1 (Aw (aR (aheadP f k j)) f.blocks.length)),(.row false 1 (Aw (oR f.blocks.length R S0) R)),(.row false 1 (Aw (gK f 0) f.blocks.length)),.free,.free]) (F4 (QK f.blocks.length (aheadP f k j)) (Oy f 0 G0) (M4 f.blocks.length R S0) (LW R S0)))⟩) (fun j=>True) (fun j=>x.nexts.length-j) 0 (Sub.mk' Dw (BQ (k0:=8) rfl gt Fo cx)) trivial (fun g b hb=>Bz (k0:=8) rfl hb) ?_
  intro j _;refine wk 5 ?_;refine asp 45 (fun hb2=>?_) fun hb2=>?_
  .
   refine act ?_;have hjl:j<x.nexts.length:=by have h:=hb2;simp[AM]at h;exact h
   obtain⟨d,hd⟩:=Ae hjl;have hd0:=hs.next x hxm d (List.mem_of_getElem? hd);have hdn:d.toNat<f.blocks.length:=by omega
   refine wk 5 ?_;refine aq 46 (JF Ah (AC hd)) ?_;refine wk 14 ?_;refine dq 58 (Ac Ah rfl rfl rfl rfl rfl rfl rfl (An _ _).symm rfl hd0.1 (by omega)) ?_;refine dq 59 (AA Ah rfl rfl rfl (.ptr _ _ _ _ _ _ _ [aR (aheadP f k j) d.toNat] rfl (An _ _).symm (by rw[Nat.zero_add];exact BK hdn)) rfl) ?_;refine wk 1 ?_;refine dx 61 (Cq Ah rfl rfl rfl rfl rfl rfl (by decide) rfl rfl rfl rfl rfl rfl) ?_;refine dx 62 (o_append1J Ah (b:=4*d.toNat+0+16) (es:=(aheadP f k j d.toNat).map By) rfl rfl rfl rfl rfl rfl rfl rfl ((Ao _ _ _).trans (congrArg some (nx hdn))) rfl rfl (Nat.zero_lt_succ _) (IH fun _=>rfl) (FT fun _=>rfl) rfl rfl (by rw[List.length_map];have:=F7 f k j d.toNat;show(_+1)*8<=_;omega) (by rw[List.length_map];have:=F7 f k j d.toNat;simp only[maxLen];omega)) ?_;refine dq 63 (Ac Ah rfl rfl rfl rfl rfl rfl Bu (An _ _).symm rfl hd0.1 (by omega)) ?_;refine DOps.w rfl rfl (o_store1 Ah (p:=false) (sz:=1) (es:=Aw (aR (aheadP f k j)) f.blocks.length) (cs:=[aR (aheadP f k j) d.toNat]) rfl rfl rfl rfl rfl rfl Bu (An _ _).symm (by rw[Nat.zero_add];exact BK hdn) (Dh _ _) (by decide) (Di _ _) (by intro h;cases h)) ?_;refine ES Df [([],[]),([],[]),([],[]),([2],[]),([],[]),([],[]),([],[]),([],[]),([2],[]),([],[]),([3],[]),([3],[]),([],[]),([],[]),([16],[16]),([3],[]),([3],[3])] qx (by kernel_rfl) ?_;refine YE ?_;refine aq 64 (Be rfl rfl hjl (by simp only[maxLen];have:=Fy x;omega)) ?_;refine wk 2 ?_;exact⟨j+1,DropK.mk' HD (Bg (k0:=8) rfl (by repeat(first | exact trivial | refine⟨⟨by first | rfl | exact congrArg (fun es=>some (AObj.row false 1 es)) (i5 (Gp hx hd hd0.1)),by first | rfl | exact Ad (fun _ _=>A9 (Aq _) _ _) | exact Ad (fun _ _=>A0 (Aq _) _ _ _ _) | exact Ad (fun _ _=>DG (Aq _) _ _ _)⟩,?_⟩)) (fun x_=>by(try simp only[hputs]);(repeat(first | refine Ay (by exact Af (by omega)) ?_ | refine hrm_skip (by omega) ?_));exact(Dt YL _ _ x_).trans (congrArg some (dC hdn (Gp hx hd hd0.1) x_).symm)) (Kv (fun _=>IC _) (fun _=>IB _) (fun _=>IA (Aq _) _) (fun _=>Iz _))),trivial,by omega⟩
  refine acf ?_;have hjge:x.nexts.length<=j:=by have h:=hb2;simp[AM]at h;omega
  refine wk 2 ?_;refine aq 65 (Be rfl rfl hkl (by simp only[maxLen];omega)) ?_;refine wk 2 ?_;exact⟨k+1,DropK.mk' HD (Bg (k0:=8) rfl (by repeat(first | exact trivial | refine⟨⟨by first | rfl | exact congrArg (fun A=>some (AObj.row false 1 (Aw (aR A) f.blocks.length))) (funext (Gq hx hjge)),by first | rfl | exact Ad (fun _ _=>A9 (Aq _) _ _) | exact Ad (fun _ _=>A0 (Aq _) _ _ _ _) | exact Ad (fun _ _=>DG (Aq _) _ _ _)⟩,?_⟩)) (fun x_=>by rw[<-Pb (Gq hx hjge)];exact Ao _ _ _) (Kv (fun _=>IC _) (fun _=>IB _) (fun _=>IA (Aq _) _) (fun _=>Iz _))),hkl,by omega⟩
 refine acf ?_;have hge:f.blocks.length<=k:=by have h:=hb1;simp at h;omega
 refine wk 3 ?_;have hkn:k=f.blocks.length:=by omega
 subst hkn;rw[show aheadP f f.blocks.length 0=Au f from funext fun c=>C4 f _ c,Xn f];refine wk 7 ?_;refine A6 (γ:=Nat) (kf 8) (fun k=>⟨152,(Aa (Aa (Aa (Aa (Aa A8 1 (.ptr 0 1 0 0)) 3 (.ptr 2 1 0 0)) 67 (BZ f.blocks)) 68 (.int .i64 (f.blocks.length:Int))) 69 (.int .i64 (k:Int))),(GV (nb [(.row false 2 [f.cells]),.free,(.row false 8 [jg f R]),(.row false 1 (Aw (aR (Au f)) f.blocks.length)),(.row false 1 (Aw (oR f.blocks.length R (CV f k (fun _=>[]))) R)),(.row false 1 (Aw (gK f k) f.blocks.length)),.free,.free]) (YF f R (CV f k (fun _=>[])) k))⟩) (fun k=>k<=f.blocks.length) (fun k=>f.blocks.length-k) 0 (Sub.mk' Dw (BQ (k0:=8) rfl gt Fo cx)) (Nat.zero_le _) (fun g b hb=>Bz (k0:=8) rfl hb) ?_;intro k hk;refine wk 5 ?_;refine asp 70 (fun hb3=>?_) fun hb3=>?_
 .
  refine act ?_;have hkl:k<f.blocks.length:=by have h:=hb3;simp at h;exact h
  obtain⟨x,hx⟩:=Ae hkl;have hxm:=List.mem_of_getElem? hx;have hix:=hi x hxm;refine wk 6 ?_;refine aq 72 (JF Ah (AC hx)) ?_;refine wk 1 ?_;refine ax 9 (Ew Ah 8) ?_;refine wk 13 ?_;refine dx 82 (Az Ah (n:=x.ins.length) (m:=x.ins.length) (4*k+1+16) true rfl rfl rfl (by simp) (by simp) rfl rfl rfl (by(try simp only[hputs]);(repeat(first | refine Ay (by exact Af (by omega)) ?_ | refine hrm_skip (by omega) ?_));exact(Ao _ _ _).trans (congrArg some dB)) rfl (Nat.zero_lt_succ _) rfl (Nat.le_refl _) (by show 1*x.ins.length<=_;omega) (by simp only[maxLen];omega)) ?_;refine dq 83 (Ac Ah rfl rfl rfl rfl rfl rfl Bu (An _ _).symm rfl (Int.natCast_nonneg _) (by omega)) ?_;refine DOps.w rfl rfl (o_store1 Ah (p:=false) (sz:=1) (es:=Aw (gK f k) f.blocks.length) (cs:=[gK f k k]) rfl rfl rfl rfl rfl rfl Bu (An _ _).symm (by rw[Nat.zero_add,Int.toNat_natCast];exact BK hkl) rfl (by decide) rfl (by intro h;cases h)) ?_
  refine ES Df [([],[]),([],[]),([],[]),([2],[]),([],[]),([],[]),([8],[]),([],[]),([17],[17]),([5],[]),([5],[5])] qx (by kernel_rfl) ?_;refine wk 4 ?_;refine aq 85 (AA Ah rfl rfl rfl (.ptr _ _ _ _ _ _ _ _ Bu rfl rfl) rfl) ?_;refine wk 4 ?_;refine A6 (γ:=Nat) (kf 9) (fun j=>⟨152,(Aa (Aa (Aa (Aa (Aa (Aa (Aa (Aa (Aa (Aa A8 1 (.ptr 0 1 0 0)) 3 (.ptr 2 1 0 0)) 67 (BZ f.blocks)) 68 (.int .i64 (f.blocks.length:Int))) 69 (.int .i64 (k:Int))) 8 (.int .i64 (k:Int))) 9 (.ptr 8 1 0 0)) 85 (DY x.ins)) 86 (.int .i64 (x.ins.length:Int))) 87 (.int .i64 (j:Int))),(GV (nb [(.row false 2 [f.cells]),.free,(.row false 8 [jg f R]),(.row false 1 (Aw (aR (Au f)) f.blocks.length)),(.row false 1 (Aw (oR f.blocks.length R (CV f k (Bl x j []))) R)),(.row false 1 (Aw (gK f (k+1)) f.blocks.length)),.free,.free,(.row false 5 [x.cells])]) (YF f R (CV f k (Bl x j [])) (k+1)))⟩) (fun j=>j<=x.ins.length) (fun j=>x.ins.length-j) 0 (Sub.mk' Dw (BQ (k0:=9) rfl (by repeat(first | exact trivial | refine⟨⟨by first | rfl | exact congrArg (fun S=>some (AObj.row false 1 (Aw (oR _ R S) R))) (Pf f k x) | exact congrArg (fun es=>some (AObj.row false 1 es)) (iJ (Cl hx)) |((try simp only[hputs]);repeat(first | rfl | exact Ap _ _ _ | refine Ay (by exact Af (by omega)) ?_ | refine hrm_skip (by omega) ?_ | refine(Ct _ OA).trans ?_)),by first | rfl | exact Ad (fun _ _=>A9 (Aq _) _ _) | exact Ad (fun _ _=>A0 (Aq _) _ _ _ _) | exact Ad (fun _ _=>DG (Aq _) _ _ _)⟩,?_⟩)) (fun x_=>by(try simp only[hputs]);rw[<-Pf f k x];(repeat(first | refine Ay (by exact Af (by omega)) ?_ | refine hrm_skip (by omega) ?_));exact(Dt (fun y_=>by(try simp only[hputs]);(repeat(first | refine Ay (by exact Af (by omega)) ?_ | refine hrm_skip (by omega) ?_));exact Ao _ _ _) _ _ x_).trans (congrArg some (ZL (Cl hx) x_).symm)) jd)) (Nat.zero_le _) (fun g b hb=>Bz (k0:=9) rfl hb) ?_
  intro j hj;refine wk 5 ?_;refine asp 88 (fun hb4=>?_) fun hb4=>?_
  .
   refine act ?_;have hjl:j<x.ins.length:=by have h:=hb4;simp at h;exact h
   obtain⟨t,ht⟩:=Ae hjl;have hin:=hs.low x hxm t (List.mem_of_getElem? ht);refine wk 6 ?_;refine aq 90 (JF Ah (AC ht)) ?_;refine wk 1 ?_;refine ax 11 (Ew Ah 9) ?_;refine wk 7 ?_;refine ax 93 (DX Tryz.func81 (Od _)) ?_;refine wk 4 ?_;refine A6 (γ:=Nat) (kf 10) (fun q=>⟨152,(Aa (Aa (Aa (Aa (Aa (Aa (Aa (Aa (Aa (Aa (Aa (Aa (Aa (Aa (Aa A8 1 (.ptr 0 1 0 0)) 3 (.ptr 2 1 0 0)) 67 (BZ f.blocks)) 68 (.int .i64 (f.blocks.length:Int))) 69 (.int .i64 (k:Int))) 8 (.int .i64 (k:Int))) 9 (.ptr 8 1 0 0)) 85 (DY x.ins)) 86 (.int .i64 (x.ins.length:Int))) 87 (.int .i64 (j:Int))) 10 (.int .i64 (j:Int))) 11 (.ptr 9 1 0 0)) 93 (AM t.uses)) 94 (.int .i64 (t.uses.length:Int))) 95 (.int .i64 (q:Int))),(GV (nb [(.row false 2 [f.cells]),.free,(.row false 8 [jg f R]),(.row false 1 (Aw (aR (Au f)) f.blocks.length)),(.row false 1 (Aw (oR f.blocks.length R (CV f k (Bl x j (t.uses.take q)))) R)),(.row false 1 (Aw (gK f (k+1)) f.blocks.length)),.free,.free,(.row false 5 [x.cells]),(.row false 8 [t.cells])]) (YF f R (CV f k (Bl x j (t.uses.take q))) (k+1)))⟩) (fun q=>True) (fun q=>t.uses.length-q) 0 (Sub.mk' Dw (BQ (k0:=10) rfl gt Fo JG)) trivial (fun g b hb=>Bz (k0:=10) rfl hb) ?_
   intro q _;refine wk 5 ?_;refine asp 96 (fun hb5=>?_) fun hb5=>?_
   .
    refine act ?_;have hql:q<t.uses.length:=by have h:=hb5;simp[AM]at h;exact h
    obtain⟨u,hu⟩:=Ae hql;have hub:=hin.2 u (List.mem_of_getElem? hu);have hub2:u.toNat<R:=by omega
    refine wk 5 ?_;refine aq 97 (JF Ah (AC hu)) ?_;refine wk 8 ?_;refine AOps.call 103 (hn:=Ey _ (DH (cn f R (Ca (CV f k (Bl x j (t.uses.take q))) k u.toNat (A2 (CV f k (Bl x j (t.uses.take q)) k u.toNat) j)) (k+1)) (YF f R (Ca (CV f k (Bl x j (t.uses.take q))) k u.toNat (A2 (CV f k (Bl x j (t.uses.take q)) k u.toNat) j)) (k+1)))) (r:=.ptr (4*(u.toNat+R*k)+3+16) (A2 (CV f k (Bl x j (t.uses.take q)) k u.toNat) j).length ((A2 (CV f k (Bl x j (t.uses.take q)) k u.toNat) j).length-1) 0) rfl rfl rfl (D2 (cn f R (CV f k (Bl x j (t.uses.take q))) (k+1)) (cn f R (Ca (CV f k (Bl x j (t.uses.take q))) k u.toNat (A2 (CV f k (Bl x j (t.uses.take q)) k u.toNat) j)) (k+1)) (YF f R (Ca (CV f k (Bl x j (t.uses.take q))) k u.toNat (A2 (CV f k (Bl x j (t.uses.take q)) k u.toNat) j)) (k+1)) rfl Tryz.func82 (by kernel_rfl) rfl rfl rfl rfl rfl (FE _ _ _ _) (FE _ _ _ _) Qe Gt (C1 Cs f R _ _) (C1 Cs f R _ _) (by simp[AV.avoid,AV.flat,Cs]) (by have h:=N2 f.blocks.length R (CV f k (Bl x j (t.uses.take q))) u.toNat k j hub2 hkl (Nc f k _ _) (Uv (by omega)) hn (.int .i64 f.regs) (BZ f.blocks) (AU f.nexts) (.ref 3 f.blocks.length 0 f.blocks.length) (.ref 5 f.blocks.length 0 f.blocks.length) .nil .nil (.row false 1 (Aw (aR (Au f)) f.blocks.length)) (.row false 1 (Aw (gK f (k+1)) f.blocks.length)) .free .free (QK f.blocks.length (Au f)) (Oy f (k+1) G0);rw[Int.toNat_of_nonneg hub.1]at h;first | exact h |(rw[List.length_map];exact h))) ?_
    obtain⟨s,hs1,hs2,hs3⟩:=si_last (Ck (CV f k (Bl x j (t.uses.take q)) k u.toNat) j);refine wk 2 ?_;refine AOps.w rfl rfl (o_store Ah (es:=(A2 (CV f k (Bl x j (t.uses.take q)) k u.toNat) j).map Gx) (cs:=Gx s) rfl rfl rfl rfl rfl (by(try simp only[hputs]);exact(El _ _ _).trans ((Ao _ _ _).trans (congrArg some (NN hub2 (Ck _ _))))) (List.length_map _).symm (by rw[List.getElem?_map,hs1];rfl) rfl (by decide) rfl (fun _=>rfl)) ?_;refine wk 2 ?_;refine aq 106 (Be rfl rfl hql (by have:=JK t;simp only[maxLen];omega)) ?_;refine wk 2 ?_;exact⟨q+1,DropK.mk' HD (Bg (k0:=10) rfl (by repeat(first | exact trivial | refine⟨⟨by first | rfl | exact congrArg (fun es=>some (AObj.row false 1 es)) (IZ FB (Ut hu hub.1)) |(refine(BI rfl).trans ?_;exact congrArg (fun es=>some (AObj.row false 1 es)) (IZ FB (Ut hu hub.1))) | exact BI rfl |((try simp only[hputs]);repeat(first | rfl | exact Ap _ _ _ | refine Ay (by exact Af (by omega)) ?_ | refine hrm_skip (by omega) ?_ | refine(Ct _ OA).trans ?_)),by first | rfl | exact Ad (fun _ _=>A9 (Aq _) _ _) | exact Ad (fun _ _=>A0 (Aq _) _ _ _ _) | exact Ad (fun _ _=>DG (Aq _) _ _ _)⟩,?_⟩)) (fun x_=>(Dt (fun y_=>(El _ _ y_).trans (Ao _ _ _)) _ _ x_).trans (congrArg some (Ru hub2 FB (Ck _ _) (Ut hu hub.1) hs2 x_).symm)) (C1 (Aq _) f R _ _)),trivial,by omega⟩
   refine acf ?_;have hqge:t.uses.length<=q:=by have h:=hb5;simp[AM]at h;omega
   rw[List.take_of_length_le hqge];refine wk 4 ?_;refine ax 108 (DX Tryz.func77 (Kr _)) ?_;refine wk 7 ?_;refine asp 110 (fun hb6=>?_) fun hb6=>?_
   .
    refine act ?_;have hsp:0<=t.sets:=by simpa using hb6
    have hs2_:t.sets.toNat<R:=by have:=hin.1 (Ei (by simpa using hb6));rw[<-Iw (Ei (by simpa using hb6))]at this;omega
    refine wk 5 ?_;refine AOps.call 115 (hn:=Ey _ (DH (cn f R (Ca (CV f k (Bl x j t.uses)) k t.sets.toNat (A2 (CV f k (Bl x j t.uses) k t.sets.toNat) j)) (k+1)) (YF f R (Ca (CV f k (Bl x j t.uses)) k t.sets.toNat (A2 (CV f k (Bl x j t.uses) k t.sets.toNat) j)) (k+1)))) (r:=.ptr (4*(t.sets.toNat+R*k)+3+16) (A2 (CV f k (Bl x j t.uses) k t.sets.toNat) j).length ((A2 (CV f k (Bl x j t.uses) k t.sets.toNat) j).length-1) 0) rfl rfl rfl (D2 (cn f R (CV f k (Bl x j t.uses)) (k+1)) (cn f R (Ca (CV f k (Bl x j t.uses)) k t.sets.toNat (A2 (CV f k (Bl x j t.uses) k t.sets.toNat) j)) (k+1)) (YF f R (Ca (CV f k (Bl x j t.uses)) k t.sets.toNat (A2 (CV f k (Bl x j t.uses) k t.sets.toNat) j)) (k+1)) rfl Tryz.func82 (by kernel_rfl) rfl rfl rfl rfl rfl (FE _ _ _ _) (FE _ _ _ _) Qe Gt (C1 Cs f R _ _) (C1 Cs f R _ _) (by simp[AV.avoid,AV.flat,Cs]) (by have h:=N2 f.blocks.length R (CV f k (Bl x j t.uses)) t.sets.toNat k j hs2_ hkl (Nc f k _ _) (Uv (by omega)) hn (.int .i64 f.regs) (BZ f.blocks) (AU f.nexts) (.ref 3 f.blocks.length 0 f.blocks.length) (.ref 5 f.blocks.length 0 f.blocks.length) .nil .nil (.row false 1 (Aw (aR (Au f)) f.blocks.length)) (.row false 1 (Aw (gK f (k+1)) f.blocks.length)) .free .free (QK f.blocks.length (Au f)) (Oy f (k+1) G0);rw[Int.toNat_of_nonneg hsp]at h;first | exact h |(rw[List.length_map];exact h))) ?_
    obtain⟨s,hs1,hs2,hs3⟩:=si_last (Ck (CV f k (Bl x j t.uses) k t.sets.toNat) j);refine wk 2 ?_;refine AOps.w rfl rfl (o_store Ah (es:=(A2 (CV f k (Bl x j t.uses) k t.sets.toNat) j).map Gx) (cs:=Gx s) rfl rfl rfl rfl rfl (by(try simp only[hputs]);exact(El _ _ _).trans ((Ao _ _ _).trans (congrArg some (NN hs2_ (Ck _ _))))) (List.length_map _).symm (by rw[List.getElem?_map,hs1];rfl) rfl (by decide) rfl (fun _=>rfl)) ?_;refine wk 2 ?_;refine aq 118 (Be rfl rfl hjl (by simp only[maxLen];omega)) ?_;refine wk 2 ?_;exact⟨j+1,DropK.mk' HD (Bg (k0:=9) rfl (by repeat(first | exact trivial | refine⟨⟨by first | rfl | exact congrArg (fun es=>some (AObj.row false 1 es)) (IZ K9 (Uu ht hsp)) |(refine(BI rfl).trans ?_;exact congrArg (fun es=>some (AObj.row false 1 es)) (IZ K9 (Uu ht hsp))) | exact BI rfl |((try simp only[hputs]);repeat(first | rfl | exact Ap _ _ _ | refine Ay (by exact Af (by omega)) ?_ | refine hrm_skip (by omega) ?_ | refine(Ct _ OA).trans ?_)),by first | rfl | exact Ad (fun _ _=>A9 (Aq _) _ _) | exact Ad (fun _ _=>A0 (Aq _) _ _ _ _) | exact Ad (fun _ _=>DG (Aq _) _ _ _)⟩,?_⟩)) (fun x_=>(Dt (fun y_=>(El _ _ y_).trans (Ao _ _ _)) _ _ x_).trans (congrArg some (Ru hs2_ K9 (Ck _ _) (Uu ht hsp) hs3 x_).symm)) (C1 (Aq _) f R _ _)),hjl,by omega⟩
   refine acf ?_;have hsp: ¬0<=t.sets:=by simpa using hb6
   refine wk 2 ?_;refine aq 118 (Be rfl rfl hjl (by simp only[maxLen];omega)) ?_;refine wk 2 ?_;exact⟨j+1,DropK.mk' HD (Bg (k0:=9) rfl (by repeat(first | exact trivial | refine⟨⟨by first | rfl | exact congrArg (fun S=>some (AObj.row false 1 (Aw (oR _ R S) R))) (Sy ht hsp),by first | rfl | exact Ad (fun _ _=>A9 (Aq _) _ _) | exact Ad (fun _ _=>A0 (Aq _) _ _ _ _) | exact Ad (fun _ _=>DG (Aq _) _ _ _)⟩,?_⟩)) (fun x_=>by rw[<-Sy ht hsp];exact Ao _ _ _) (C1 (Aq _) f R _ _)),hjl,by omega⟩
  refine acf ?_;have hje:j=x.ins.length:=by have h:=hb4;simp at h;omega
  subst hje;refine wk 7 ?_;refine asp 121 (fun hb7=>?_) fun hb7=>?_
  .
   refine act ?_;have hfin:x.fin=2:=by simpa using hb7
   have hv2:=hs.fin x hxm hfin;have hv3:x.v.toNat<R:=by omega
   refine wk 8 ?_;refine AOps.call 129 (hn:=Ey _ (DH (cn f R (Ca (CV f k (Bl x x.ins.length [])) k x.v.toNat (A2 (CV f k (Bl x x.ins.length []) k x.v.toNat) x.ins.length)) (k+1)) (YF f R (Ca (CV f k (Bl x x.ins.length [])) k x.v.toNat (A2 (CV f k (Bl x x.ins.length []) k x.v.toNat) x.ins.length)) (k+1)))) (r:=.ptr (4*(x.v.toNat+R*k)+3+16) (A2 (CV f k (Bl x x.ins.length []) k x.v.toNat) x.ins.length).length ((A2 (CV f k (Bl x x.ins.length []) k x.v.toNat) x.ins.length).length-1) 0) rfl rfl rfl (D2 (cn f R (CV f k (Bl x x.ins.length [])) (k+1)) (cn f R (Ca (CV f k (Bl x x.ins.length [])) k x.v.toNat (A2 (CV f k (Bl x x.ins.length []) k x.v.toNat) x.ins.length)) (k+1)) (YF f R (Ca (CV f k (Bl x x.ins.length [])) k x.v.toNat (A2 (CV f k (Bl x x.ins.length []) k x.v.toNat) x.ins.length)) (k+1)) rfl Tryz.func82 (by kernel_rfl) rfl rfl rfl rfl rfl (FE _ _ _ _) (FE _ _ _ _) Qe Gt (C1 Cs f R _ _) (C1 Cs f R _ _) (by simp[AV.avoid,AV.flat,Cs]) (by have h:=N2 f.blocks.length R (CV f k (Bl x x.ins.length [])) x.v.toNat k x.ins.length hv3 hkl (Nc f k _ _) (Uv (by omega)) hn (.int .i64 f.regs) (BZ f.blocks) (AU f.nexts) (.ref 3 f.blocks.length 0 f.blocks.length) (.ref 5 f.blocks.length 0 f.blocks.length) .nil .nil (.row false 1 (Aw (aR (Au f)) f.blocks.length)) (.row false 1 (Aw (gK f (k+1)) f.blocks.length)) .free .free (QK f.blocks.length (Au f)) (Oy f (k+1) G0);rw[Int.toNat_of_nonneg hv2.1]at h;first | exact h |(rw[List.length_map];exact h))) ?_
   obtain⟨s,hs1,hs2,hs3⟩:=si_last (Ck (CV f k (Bl x x.ins.length []) k x.v.toNat) x.ins.length);refine wk 2 ?_;refine AOps.w rfl rfl (o_store Ah (es:=(A2 (CV f k (Bl x x.ins.length []) k x.v.toNat) x.ins.length).map Gx) (cs:=Gx s) rfl rfl rfl rfl rfl (by(try simp only[hputs]);exact(El _ _ _).trans ((Ao _ _ _).trans (congrArg some (NN hv3 (Ck _ _))))) (List.length_map _).symm (by rw[List.getElem?_map,hs1];rfl) rfl (by decide) rfl (fun _=>rfl)) ?_;refine wk 2 ?_;refine aq 132 (Be rfl rfl hkl (by simp only[maxLen];omega)) ?_;refine wk 2 ?_;exact⟨k+1,DropK.mk' HD (Bg (k0:=8) rfl (by repeat(first | exact trivial | refine⟨⟨by first | rfl | exact congrArg (fun es=>some (AObj.row false 1 es)) (IZ FB (Uw hx hfin hv2.1)) |(refine(BI rfl).trans ?_;exact congrArg (fun es=>some (AObj.row false 1 es)) (IZ FB (Uw hx hfin hv2.1))) | exact BI rfl |((try simp only[hputs]);repeat(first | rfl | exact Ap _ _ _ | refine Ay (by exact Af (by omega)) ?_ | refine hrm_skip (by omega) ?_ | refine(Ct _ OA).trans ?_)),by first | rfl | exact Ad (fun _ _=>A9 (Aq _) _ _) | exact Ad (fun _ _=>A0 (Aq _) _ _ _ _) | exact Ad (fun _ _=>DG (Aq _) _ _ _)⟩,?_⟩)) (fun x_=>(Dt (fun y_=>(El _ _ y_).trans (Ao _ _ _)) _ _ x_).trans (congrArg some (Ru hv3 FB (Ck _ _) (Uw hx hfin hv2.1) hs2 x_).symm)) (C1 (Aq _) f R _ _)),hkl,by omega⟩
  refine acf ?_;have hfin: ¬x.fin=2:=by simpa using hb7
  refine wk 2 ?_;refine aq 132 (Be rfl rfl hkl (by simp only[maxLen];omega)) ?_;refine wk 2 ?_;exact⟨k+1,DropK.mk' HD (Bg (k0:=8) rfl (by repeat(first | exact trivial | refine⟨⟨by first | rfl | exact congrArg (fun S=>some (AObj.row false 1 (Aw (oR _ R S) R))) (Sz hx hfin),by first | rfl | exact Ad (fun _ _=>A9 (Aq _) _ _) | exact Ad (fun _ _=>A0 (Aq _) _ _ _ _) | exact Ad (fun _ _=>DG (Aq _) _ _ _)⟩,?_⟩)) (fun x_=>by rw[<-Sz hx hfin];exact Ao _ _ _) (C1 (Aq _) f R _ _)),hkl,by omega⟩
 refine acf ?_;have hge:f.blocks.length<=k:=by have h:=hb3;simp at h;omega
 refine wk 2 ?_;have hkn:k=f.blocks.length:=by omega
 subst hkn;rw[dG,iK];refine wk 4 ?_;refine ax 136 (Az Ah (n:=R) (m:=R) 7 true rfl rfl rfl hRf hRf rfl rfl rfl rfl rfl (Nat.zero_lt_succ _) rfl (Nat.le_refl _) (by show 1*R<=_;omega) (by simp only[maxLen];omega)) ?_;refine wk 6 ?_;refine AGo.ghost (.dryCell 2 0 6 6 1 true rfl rfl rfl rfl rfl (by decide)) ?_;refine wk 9 ?_;refine A6 (γ:=Nat) (kf 8) (fun k=>⟨152,(Aa (Aa (Aa (Aa A8 1 (.ptr 0 1 0 0)) 3 (.ptr 2 1 0 0)) 143 (.int .i64 (R:Int))) 144 (.int .i64 (k:Int))),(GV (nb [(.row false 2 [f.cells]),.free,(.row false 8 [RF f R ((List.range k).map By).length (k)]),(.row false 1 (Aw (aR (Au f)) f.blocks.length)),(.row false 1 (Aw (oR f.blocks.length R (SB f)) R)),(.row false 1 (Aw (gR f) f.blocks.length)),(.row true 1 ((List.range k).map By)),(.row true 1 (bC R (fun b=>decide (b<k))))]) (DF f R (SB f) G0))⟩) (fun k=>k<=R) (fun k=>R-k) 0 (Sub.mk' Dw (BQ (k0:=8) rfl (by repeat(first | exact trivial | refine⟨⟨by first | rfl | exact congrArg (fun es=>some (AObj.row true 1 es)) (bX R),by first | rfl | exact Ad (fun _ _=>A9 (Aq _) _ _) | exact Ad (fun _ _=>A0 (Aq _) _ _ _ _) | exact Ad (fun _ _=>BP (Aq _) _ _)⟩,?_⟩)) Fo cx)) (Nat.zero_le _) (fun g b hb=>Bz (k0:=8) rfl hb) ?_
 intro k hk;refine wk 5 ?_;refine asp 145 (fun hb8=>?_) fun hb8=>?_
 .
  refine act ?_;have hkl:k<R:=by have h:=hb8;simp at h;exact h
  refine wk 11 ?_;refine AOps.call 149 (hn:=Ey _ (DH (HG f R (SB f) ((List.range (k+1)).map By) (k+1) (fun b=>decide (b<k+1))) (DF f R (SB f) G0))) (r:=.tup []) rfl rfl rfl (D2 (HG f R (SB f) ((List.range k).map By) (k) (fun b=>decide (b<k))) (HG f R (SB f) ((List.range (k+1)).map By) (k+1) (fun b=>decide (b<k+1))) (DF f R (SB f) G0) rfl Tryz.func83 (by kernel_rfl) rfl rfl rfl rfl rfl (B5 _ _ _ _ _ _) (B5 _ _ _ _ _ _) Qe Gt (A7 Cs f R _ _) (A7 Cs f R _ _) rfl (by have h:=Tw f R (SB f) G0 ((List.range k).map By) k (fun b=>decide (b<k)) k hkl hR (by simp) (by simp;omega);rw[M9,Pw,KA]at h;exact h)) ?_;refine wk 2 ?_;refine aq 150 (Be rfl rfl hkl (by simp only[maxLen];omega)) ?_;refine wk 2 ?_;exact⟨k+1,DropK.mk' HD (Bg (k0:=8) rfl kg (fun x_=>(El _ _ x_).trans (Ao _ _ _)) (A7 (Aq _) f R _ _)),hkl,by omega⟩
 refine acf ?_;have hge:R<=k:=by have h:=hb8;simp at h;omega
 refine wk 7 ?_;have hkn:k=R:=by omega
 subst hkn;exact⟨[_],⟨rfl,trivial⟩,rfl,(Lf rfl RI Gt)⟩
theorem eF(f:BFunc)(R:Nat)(S:CK)(G:GG)(es:List (List AV))(len:Nat)(w:Nat->Bool)(i:Nat)(x:Block)(hx:f.blocks[i]?=some x)(j:Nat)(hj:j<x.ins.length):ACall Tryz.prog 61 [.int .i64 (j:Int),.ptr 8 1 0 0,.ptr 12 1 0 0] (WS f R S G es len w i) (fun r h'=>r= .bool (G i j)/\HSub (JW kW hNone (WS f R S G es len w i)) h'):=by
 have hb:i<f.blocks.length:=(List.getElem?_eq_some_iff.1 hx).1;refine ACall.of_body (n:=15) Ah Tryz.func61 rfl rfl ?_;refine wk 11 ?_;refine dq 10 (Ac Ah rfl rfl rfl rfl rfl rfl rfl (An _ _).symm rfl (Int.natCast_nonneg _) (by omega)) ?_;refine dq 11 (AA Ah rfl rfl rfl (.ptr _ _ _ _ _ _ _ [gR f i] rfl (An _ _).symm Kz) rfl) ?_;refine wk 1 ?_;refine dq 13 (Ac Ah rfl rfl rfl rfl rfl rfl ((Ao _ _ _).trans (congrArg some (Uo hb hx))) (by rw[An,Cl hx]) rfl (Int.natCast_nonneg _) (by rw[Cl hx];omega)) ?_;refine dq 14 (AA Ah rfl rfl rfl (.ptr _ _ _ _ true 1 (bC x.ins.length (G i)) [.bool (G i j)] ((Ao _ _ _).trans (congrArg some (Uo hb hx))) (by rw[An,Cl hx]) (by rw[Nat.zero_add,Int.toNat_natCast];exact BK hj)) rfl) ?_;refine wk 3 ?_;exact⟨[_],⟨rfl,trivial⟩,rfl,St (Wr rfl rfl rfl rfl rfl rfl rfl rfl (fun x_=>by dsimp only;exact Ao _ _ _))⟩
theorem T2(f:BFunc)(R:Nat)(S:CK)(G:GG)(es:List (List AV))(len:Nat)(w:Nat->Bool)(i:Nat)(x:Block)(hx:f.blocks[i]?=some x)(hi:x.ins.length<=100000):ACall Tryz.prog 60 [DY x.ins,(.fn (.func 61) [] [.ptr 8 1 0 0,.ptr 12 1 0 0])] (WS f R S G es len w i) (fun r h'=>r=DY (D5 (G i) x.ins 0)/\HSub (JW kW hNone (WS f R S G es len w i)) h'):=by
 refine ACall.of_body (n:=28) Ah Tryz.func60 rfl rfl ?_;refine wk 8 ?_;refine ax 10 (Az Ah (n:=0) (m:=x.ins.length) 9 true rfl rfl rfl (rfl) (by simp) rfl rfl rfl rfl rfl (Nat.zero_lt_succ _) rfl (Nat.zero_le _) (by show 64*x.ins.length<=_;omega) (by simp only[maxLen];omega)) ?_;refine wk 10 ?_;refine A6 (γ:=Nat) (kf 13) (fun j=>⟨28,(Aa (Aa (Aa (Aa (Aa A8 1 (.fn (.func 61) [] [.ptr 8 1 0 0,.ptr 12 1 0 0])) 5 (.ref 9 (D5 (G i) (x.ins.take j) 0).length 0 (D5 (G i) (x.ins.take j) 0).length)) 11 (DY x.ins)) 12 (.int .i64 (x.ins.length:Int))) 13 (.int .i64 (j:Int))),(GV (nb [.free,.free,(.row false 8 [RF f R (es).length (len)]),(.row false 1 (Aw (aR (Au f)) f.blocks.length)),(.row false 1 (Aw (oR f.blocks.length R S) R)),(.row false 1 (Aw (gR f) f.blocks.length)),(.row true 1 (es)),(.row true 1 (bC R (w))),ArW,(.row true 8 ((D5 (G i) (x.ins.take j) 0).map Tac.cells)),.free,.free,(qC i)]) (DF f R S G))⟩) (fun j=>j<=x.ins.length) (fun j=>x.ins.length-j) 0 (Sub.mk' Dw (BQ (k0:=13) rfl gr Fo j8)) (Nat.zero_le _) (fun g b hb=>Bz (k0:=13) rfl hb) ?_
 intro j hj;refine wk 5 ?_;refine asp 14 (fun hb1=>?_) fun hb1=>?_
 .
  refine act ?_;have hjl:j<x.ins.length:=by have h:=hb1;simp at h;exact h
  obtain⟨t,ht⟩:=Ae hjl;refine wk 6 ?_;refine aq 16 (JF Ah (AC ht)) ?_;refine wk 1 ?_;refine ax 7 (Ew Ah 13) ?_;refine wk 7 ?_;refine AOps.call 20 (hn:=_) (r:=.bool (G i j)) rfl rfl rfl (ai (W:=(WS f R S G es len w i)) kW rfl rfl Tryz.func61 (by kernel_rfl) rfl rfl rfl (Wr Bu Bu Bu Bu Bu Bu Bu Bu (fun x_=>by(try simp only[hputs]);(try dsimp only);first | exact Ao _ _ _ |((repeat(first | refine Ay (by exact Af (by omega)) ?_ | refine hrm_skip (by omega) ?_));exact Ao _ _ _))) (TG f R S G es len w i) Ws rfl (eF f R S G es len w i x hx j hjl)) ?_;refine wk 2 ?_;refine asp 21 (fun hb2=>?_) fun hb2=>?_
  .
   refine act ?_;have hg:G i j=false:=by have h:=hb2;simpa using h
   refine wk 3 ?_;refine ax 24 (Cq Ah rfl rfl rfl rfl rfl rfl (by decide) rfl rfl rfl rfl rfl rfl) ?_;refine ax 25 (o_append Ah (n:=(D5 (G i) (x.ins.take j) 0).length) (m:=1) (es:=(D5 (G i) (x.ins.take j) 0).map Tac.cells) rfl rfl rfl rfl rfl rfl rfl rfl rfl (by rw[List.length_map]) rfl rfl (Nat.zero_lt_succ _) (.lst _ _) (by intro cs h;simp[partVals]at h;subst h;rfl) (fun _ cs h=>by simp[partVals]at h;subst h;rfl) rfl (by have h1:=Mb (G i) (x.ins.take j) 0;rw[List.length_take]at h1;simp[partVals];omega) (by have h1:=Mb (G i) (x.ins.take j) 0;rw[List.length_take]at h1;simp[partVals];simp only[maxLen];omega)) ?_;refine wk 3 ?_;exact j4
  refine acf ?_;have hg:G i j=true:=by have h:=hb2;simpa using h
  refine wk 2 ?_;exact j4
 refine acf ?_;have hje:j=x.ins.length:=by have h:=hb1;simp at h;omega
 subst hje;refine wk 2 ?_;refine AGo.ghost (.freeze 5 9 rfl rfl (by rw[List.length_map])) ?_;refine wk 5 ?_;refine⟨[_],⟨rfl,trivial⟩,?_,St (Wr Bu Bu Bu Bu Bu Bu Bu Bu (fun x_=>by dsimp only;rw[EL _ (by omega)];exact Ao _ _ _))⟩;show AV.lst false _=AV.lst false _;rw[List.take_length,List.drop_zero,List.take_of_length_le (by rw[List.length_map];exact Nat.le_refl _)]
end Go.Proofs.YtbbfelelocccmaaGreat.Sv
