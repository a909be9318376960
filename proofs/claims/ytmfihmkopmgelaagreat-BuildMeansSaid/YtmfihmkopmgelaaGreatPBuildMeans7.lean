/-
  The law BuildMeans of the given program answers true for every input, and leaves its arguments as they were. There is no condition. Own work.
-/
import Derived.Test.YtmfihmkopmgelaaGreatPBuildMeans6
import Derived.Test.YtmfihmkopmgelaaGreatPBuildMeans2
import Derived.Test.YtmfihmkopmgelaaGreatPBuildMeans3
import Derived.Test.YtmfihmkopmgelaaGreatPBuildMeans5
set_option linter.unusedVariables false
set_option linter.unusedSimpArgs false
set_option maxRecDepth 100000
set_option maxHeartbeats 2000000
namespace Go.Proofs.YtmfihmkopmgelaaGreat.Sv
open Go
theorem L3(l:List PE)(left deep:Int)(h1: -1000000<=left)(h2:left<=1000000)(h3: -1000<=deep)(h4:deep<=1000)(hrec:0<deep->∀x∈l,∀a:Int,-1<=a->a<=1000000->Pu Tryz.prog 32 [(.lst false (x.kids.map PE.cells)),.int .i64 a,.int .i64 (deep-1)] (.int .i64 (PE.leftL x.kids a (deep-1)))):Pu Tryz.prog 32 [(.lst false (l.map PE.cells)),.int .i64 left,.int .i64 deep] (.int .i64 (PE.leftL l left deep)):=by
 refine APure.of_body (n:=41) Aj Tryz.func32 rfl rfl ?_;refine wk 1 ?_;refine AGo.slot 0 (φ:=l.length<=maxLen) rfl (fun H ι v h=>by have:=B5 h;simpa using this) fun hlen=>?_
 refine wk 9 ?_;refine Aw (γ:=Nat×Int) 0 (fun q=>⟨41,(Ad (Ad (Ad (Ad AM 0 (.lst false (l.map PE.cells))) 1 (.int .i64 q.2)) 2 (.int .i64 deep)) 7 (iN q.1)),(AE 0)⟩) (fun q=>PE.leftL (l.drop q.1) q.2 deep=PE.leftL l left deep/\ -1000000<=q.2/\q.2<=1000000) (fun q=>l.length-q.1) (0,left) (Sub.mk' AT Bn) ⟨rfl,h1,h2⟩ (fun _=>fun b hb=>BO hb) ?_;intro q hF;refine wk 8 ?_;refine BC 12 (fun hb1=>?_) fun hb1=>?_
 .
  refine wk 4 ?_;refine asp 15 (fun hb2=>?_) fun hb2=>?_
  .
   refine wk 1 ?_;have hkl:q.1<l.length:=Ao hb1;obtain⟨x,hx⟩:=Ah hkl;have hq0:0<=q.2:=by simpa using hb2
   refine wk 6 ?_;refine aq 19 (AG (r:=.int .i64 (q.2-1)) rfl rfl rfl DL) ?_;refine wk 4 ?_;refine AK (γ:=Bool) (fun c=>⟨41,(Ad (Ad (Ad (Ad (Ad AM 0 (.lst false (l.map PE.cells))) 1 (.int .i64 (q.2-1))) 2 (.int .i64 deep)) 7 (iN q.1)) 30 (.bool c)),(AE 0)⟩) (fun c=>c=(decide (deep<=0)||decide ((x.name.size:Int)>60))) ?_ ?_
   .
    refine wk 4 ?_;refine BC 22 (fun hb3=>?_) fun hb3=>?_
    .
     refine wk 9 ?_;exact YK
    refine wk 2 ?_;refine aq 25 (Ae Aj rfl rfl rfl rfl rfl rfl (Int.natCast_nonneg _) (Dg hx) rfl) ?_;refine wk 6 ?_;exact YK
   intro c hc;refine asp 30 (fun hb4=>?_) fun hb4=>?_
   .
    refine wk 1 ?_;have hst:(decide (deep<=0)||decide ((x.name.size:Int)>60))=true:=by rw[<-hc];exact hb4
    refine wk 5 ?_;refine⟨[_],⟨rfl,trivial⟩,?_,rfl⟩;rw[<-hF.1,NX hx hq0,PE.left_eq,hst];exact congrArg (AV.int .i64) (L4 Ab _).symm
   refine wk 1 ?_;have hgo:(decide (deep<=0)||decide ((x.name.size:Int)>60))=false:=by rw[<-hc];exact hb4
   have hi1:=J3 (l:=x.kids) (left:=q.2-1) (deep:=deep-1) Aa;refine wk 4 ?_;refine aq 33 (Ae Aj rfl rfl rfl rfl rfl rfl (Int.natCast_nonneg _) (Dg hx) rfl) ?_;refine wk 4 ?_;refine aq 38 (AG (r:=.int .i64 (deep-1)) rfl rfl rfl DL) ?_;refine ax 39 (Bs Tryz.func32 (hrec (by have h:=hgo;simp at h;exact h.1) x (List.mem_of_getElem? hx) (q.2-1) Aa Aa)) ?_;refine wk 4 ?_;refine aq 17 (A8 rfl rfl hkl hlen) ?_;refine wk 2 ?_;exact⟨(q.1+1,PE.leftL x.kids (q.2-1) (deep-1)),Drop.mk' FSq FT,⟨by rw[<-hF.1,NX hx hq0,PE.left_eq,hgo];rfl,by have:=hi1.1;show(-1000000:Int)<=PE.leftL x.kids (q.2-1) (deep-1);omega,by have:=hi1.2;show PE.leftL x.kids (q.2-1) (deep-1)<=1000000;omega⟩,YX⟩
  refine wk 8 ?_;exact bN
 refine wk 12 ?_;exact bN
theorem QA:∀(n:Nat) (l:List PE) (left deep:Int),deep<=n-> -1000000<=left->left<=1000000-> -1000<=deep->deep<=1000->Pu Tryz.prog 32 [(.lst false (l.map PE.cells)),.int .i64 left,.int .i64 deep] (.int .i64 (PE.leftL l left deep))
 |0,l,left,deep,hn,h1,h2,h3,h4=>L3 l left deep h1 h2 h3 h4 fun h0=>absurd h0 Aa
 |n+1,l,left,deep,hn,h1,h2,h3,h4=>L3 l left deep h1 h2 h3 h4 fun h0 x hx a ha ha2=>QA n x.kids a (deep-1) Aa Aa ha2 Aa Aa
theorem KD(l:List PSt)(left deep:Int)(h1: -1000000<=left)(h2:left<=1000000)(h3: -1000<=deep)(h4:deep<=1000)(hrec:0<deep->∀x∈l,∀a:Int,-1<=a->a<=1000000->Pu Tryz.prog 17 [(.lst false (x.thn.map PSt.cells)),.int .i64 a,.int .i64 (deep-1)] (.int .i64 (PSt.leftL x.thn a (deep-1)))/\Pu Tryz.prog 17 [(.lst false (x.els.map PSt.cells)),.int .i64 a,.int .i64 (deep-1)] (.int .i64 (PSt.leftL x.els a (deep-1)))):Pu Tryz.prog 17 [(.lst false (l.map PSt.cells)),.int .i64 left,.int .i64 deep] (.int .i64 (PSt.leftL l left deep)):=by
 refine APure.of_body (n:=59) Aj Tryz.func17 rfl rfl ?_;refine wk 1 ?_;refine AGo.slot 0 (φ:=l.length<=maxLen) rfl (fun H ι v h=>by have:=B5 h;simpa using this) fun hlen=>?_
 refine wk 9 ?_;refine Aw (γ:=Nat×Int) 0 (fun q=>⟨59,(Ad (Ad (Ad (Ad AM 0 (.lst false (l.map PSt.cells))) 1 (.int .i64 q.2)) 2 (.int .i64 deep)) 7 (iN q.1)),(AE 0)⟩) (fun q=>PSt.leftL (l.drop q.1) q.2 deep=PSt.leftL l left deep/\ -1000000<=q.2/\q.2<=1000000) (fun q=>l.length-q.1) (0,left) (Sub.mk' AT Bn) ⟨rfl,h1,h2⟩ (fun _=>fun b hb=>BO hb) ?_;intro q hF;refine wk 8 ?_;refine BC 12 (fun hb1=>?_) fun hb1=>?_
 .
  refine wk 4 ?_;refine asp 15 (fun hb2=>?_) fun hb2=>?_
  .
   refine wk 1 ?_;have hkl:q.1<l.length:=Ao hb1;obtain⟨x,hx⟩:=Ah hkl;have hq0:0<=q.2:=by simpa using hb2
   refine wk 6 ?_;refine aq 19 (AG (r:=.int .i64 (q.2-1)) rfl rfl rfl DL) ?_;refine wk 4 ?_;refine AK (γ:=Bool) (fun c=>⟨59,(Ad (Ad (Ad (Ad (Ad AM 0 (.lst false (l.map PSt.cells))) 1 (.int .i64 (q.2-1))) 2 (.int .i64 deep)) 7 (iN q.1)) 30 (.bool c)),(AE 0)⟩) (fun c=>c=(decide (deep<=0)||decide ((x.name.size:Int)>60))) ?_ ?_
   .
    refine wk 4 ?_;refine BC 22 (fun hb3=>?_) fun hb3=>?_
    .
     refine wk 9 ?_;exact YK
    refine wk 2 ?_;refine aq 25 (Ae Aj rfl rfl rfl rfl rfl rfl (Int.natCast_nonneg _) (CI hx) rfl) ?_;refine wk 6 ?_;exact YK
   intro c hc;refine asp 30 (fun hb4=>?_) fun hb4=>?_
   .
    refine wk 1 ?_;have hst:(decide (deep<=0)||decide ((x.name.size:Int)>60))=true:=by rw[<-hc];exact hb4
    refine wk 5 ?_;refine⟨[_],⟨rfl,trivial⟩,?_,rfl⟩;rw[<-hF.1,L2 hx hq0,PSt.left_eq,hst];exact congrArg (AV.int .i64) (HB Ab _).symm
   refine wk 1 ?_;have hgo:(decide (deep<=0)||decide ((x.name.size:Int)>60))=false:=by rw[<-hc];exact hb4
   have hd0:0<deep:=by have h:=hgo;simp at h;exact h.1
   have hi1:=J3 (l:=x.es) (left:=q.2-1) (deep:=deep-1) Aa;have hi2:=IQ (l:=x.thn) (deep:=deep-1) hi1.1;have hi3:=IQ (l:=x.els) (deep:=deep-1) hi2.1;refine wk 5 ?_;refine aq 33 (Ae Aj rfl rfl rfl rfl rfl rfl (Int.natCast_nonneg _) (CI hx) rfl) ?_;refine wk 4 ?_;refine aq 38 (AG (r:=.int .i64 (deep-1)) rfl rfl rfl DL) ?_;refine ax 39 (Bs Tryz.func32 (QA deep.toNat x.es (q.2-1) (deep-1) Aa Aa Aa Aa Aa)) ?_;refine wk 6 ?_;refine aq 42 (Ae Aj rfl rfl rfl rfl rfl rfl (Int.natCast_nonneg _) (CI hx) rfl) ?_;refine wk 4 ?_;refine aq 47 (AG (r:=.int .i64 (deep-1)) rfl rfl rfl DL) ?_;refine ax 48 (Bs Tryz.func17 ((hrec hd0 x (List.mem_of_getElem? hx) _ hi1.1 (by have:=hi1.2;omega)).1)) ?_;refine wk 5 ?_;refine aq 51 (Ae Aj rfl rfl rfl rfl rfl rfl (Int.natCast_nonneg _) (CI hx) rfl) ?_;refine wk 4 ?_;refine aq 56 (AG (r:=.int .i64 (deep-1)) rfl rfl rfl DL) ?_;refine ax 57 (Bs Tryz.func17 ((hrec hd0 x (List.mem_of_getElem? hx) _ hi2.1 (by have:=hi1.2;have:=hi2.2;omega)).2)) ?_
   refine wk 4 ?_;refine aq 17 (A8 rfl rfl hkl hlen) ?_;refine wk 2 ?_;exact⟨(q.1+1,PSt.leftL x.els (PSt.leftL x.thn (PE.leftL x.es (q.2-1) (deep-1)) (deep-1)) (deep-1)),Drop.mk' FSq FT,⟨by rw[<-hF.1,L2 hx hq0,PSt.left_eq,hgo];rfl,by have:=hi3.1;show(-1000000:Int)<=PSt.leftL x.els (PSt.leftL x.thn (PE.leftL x.es (q.2-1) (deep-1)) (deep-1)) (deep-1);omega,by have:=hi1.2;have:=hi2.2;have:=hi3.2;show PSt.leftL x.els (PSt.leftL x.thn (PE.leftL x.es (q.2-1) (deep-1)) (deep-1)) (deep-1)<=1000000;omega⟩,YX⟩
  refine wk 8 ?_;exact bO
 refine wk 12 ?_;exact bO
theorem JZ:∀(n:Nat) (l:List PSt) (left deep:Int),deep<=n-> -1000000<=left->left<=1000000-> -1000<=deep->deep<=1000->Pu Tryz.prog 17 [(.lst false (l.map PSt.cells)),.int .i64 left,.int .i64 deep] (.int .i64 (PSt.leftL l left deep))
 |0,l,left,deep,hn,h1,h2,h3,h4=>KD l left deep h1 h2 h3 h4 fun h0=>absurd h0 Aa
 |n+1,l,left,deep,hn,h1,h2,h3,h4=>KD l left deep h1 h2 h3 h4 fun h0 x hx a ha ha2=>⟨JZ n x.thn a (deep-1) Aa Aa ha2 Aa Aa,JZ n x.els a (deep-1) Aa Aa ha2 Aa Aa⟩
theorem XS(p:PProg)(most:Int)(h1: -1000<=most)(h2:most<=1000):Pu Tryz.prog 5 [.agg p.cells,.int .i64 most] (.bool (p.few most)):=by
 refine APure.of_body (n:=95) Aj Tryz.func5 rfl rfl ?_;refine wk 2 ?_;refine ax 2 (Ek 3 0) ?_;refine wk 4 ?_;refine AK (γ:=Bool) (fun c=>⟨95,(Ad (Ad (Ad AM 1 (.int .i64 most)) 2 (pZ 0)) 24 (.bool c)),(Ar (AE 1) 0 (rf 3 [p.cells]))⟩) (fun c=>c= !(Ft p.vars&&(decide ((p.arrays.length:Int)<=200)&&decide ((p.funcs.length:Int)<=70)))) ?_ ?_
 .
  refine wk 3 ?_;refine ax 11 (Bs Tryz.func16 (IK _)) ?_;refine wk 2 ?_;refine BC 13 (fun hb1=>?_) fun hb1=>?_
  .
   refine wk 12 ?_;exact Up
  refine wk 6 ?_;refine BC 19 (fun hb2=>?_) fun hb2=>?_
  .
   refine wk 6 ?_;exact Up
  refine wk 6 ?_;exact Up
 intro c hc;refine asp 24 (fun hb3=>?_) fun hb3=>?_
 .
  refine wk 1 ?_;have hbad:(Ft p.vars&&(decide ((p.arrays.length:Int)<=200)&&decide ((p.funcs.length:Int)<=70)))=false:=IU hc hb3;refine wk 5 ?_;refine⟨[_],⟨rfl,trivial⟩,?_,rfl⟩;refine bc ?_;unfold PProg.few;rw[hbad];rfl
 refine wk 1 ?_;have hok:(Ft p.vars&&(decide ((p.arrays.length:Int)<=200)&&decide ((p.funcs.length:Int)<=70)))=true:=IV hc hb3;have hok2:=hok;simp only[Bool.and_eq_true,decide_eq_true_eq]at hok2;have hvl:=Ff hok2.1;refine wk 7 ?_;refine aq 29 (AG (r:=.int .i64 (most-p.vars.length)) rfl rfl rfl PU) ?_;refine wk 3 ?_;refine aq 33 (AG (r:=.int .i64 (most-p.vars.length-p.arrays.length)) rfl rfl rfl PU) ?_;refine wk 3 ?_;refine aq 37 (AG (r:=.int .i64 (most-p.vars.length-p.arrays.length-p.funcs.length)) rfl rfl rfl PU) ?_;refine wk 8 ?_;refine Aw (γ:=Nat) 1 (fun k=>⟨95,(Ad (Ad (Ad AM 2 (pZ 0)) 5 (.int .i64 ((most-p.vars.length)-p.arrays.length-p.funcs.length))) 6 (iN k)),(Ar (AE 1) 0 (rf 3 [p.cells]))⟩) (fun k=>(p.arrays.take k).all (fun a=>decide ((a.1.size:Int)<=60))=true) (fun k=>p.arrays.length-k) 0 (Sub.mk' AT Bn) rfl (fun _=>Dz) ?_
 intro k hk;refine wk 9 ?_;refine asp 42 (fun hb4=>?_) fun hb4=>?_
 .
  refine wk 1 ?_;have hkl:k<p.arrays.length:=Ao hb4;obtain⟨x,hx⟩:=Ah hkl;refine wk 8 ?_;refine aq 48 (GI Aj (AU hx)) ?_;refine wk 5 ?_;refine asp 52 (fun hb5=>?_) fun hb5=>?_
  .
   refine wk 1 ?_;have hn:decide ((x.1.size:Int)<=60)=false:=by have h:=hb5;simp at h;simp;omega
   refine wk 5 ?_;refine⟨[_],⟨rfl,trivial⟩,?_,rfl⟩;refine bc ?_;unfold PProg.few;rw[hok,Bp hx hn];rfl
  refine wk 1 ?_;have hy:decide ((x.1.size:Int)<=60)=true:=by have h:=hb5;simp at h;simp;omega
  refine wk 3 ?_;refine aq 44 (A8 rfl rfl hkl DD) ?_;exact YJ
 refine wk 1 ?_;have hge:=As hb4;have hall:=BB hk hge;refine wk 7 ?_;refine Aw (γ:=Nat×Int) 1 (fun q=>⟨95,(Ad (Ad (Ad AM 2 (pZ 0)) 5 (.int .i64 q.2)) 7 (iN q.1)),(Ar (AE 1) 0 (rf 3 [p.cells]))⟩) (fun q=>(p.funcs.take q.1).all PFn.short=true/\CX (p.funcs.drop q.1) q.2=CX p.funcs ((most-p.vars.length)-p.arrays.length-p.funcs.length)/\ -2000-500*(q.1:Int)<=q.2/\q.2<=1000) (fun q=>p.funcs.length-q.1) (0,((most-p.vars.length)-p.arrays.length-p.funcs.length)) (Sub.mk' AT Bn) ⟨rfl,rfl,by show(-2000-500*0:Int)<=((most-p.vars.length)-p.arrays.length-p.funcs.length);omega,by show((most-p.vars.length)-p.arrays.length-p.funcs.length)<=1000;omega⟩ (fun _=>Dz) ?_;intro q hF;refine wk 9 ?_;refine asp 57 (fun hb6=>?_) fun hb6=>?_
 .
  refine wk 1 ?_;have hkl:q.1<p.funcs.length:=Ao hb6;obtain⟨x,hx⟩:=Ah hkl;refine wk 8 ?_;refine aq 63 (GI Aj (AU hx)) ?_;refine wk 1 ?_;refine ax 8 (Lc Aj 1) ?_;refine wk 1 ?_;refine wk 3 ?_;refine AK (γ:=Bool) (fun c=>⟨95,(Ad (Ad (Ad (Ad (Ad AM 2 (pZ 0)) 5 (.int .i64 q.2)) 7 (iN q.1)) 8 (pZ 1)) 80 (.bool c)),(Ar (Ar (AE 2) 0 (rf 3 [p.cells])) 1 (rf 5 [x.cells]))⟩) (fun c=>c= !(x.short)) ?_ ?_
  .
   refine wk 3 ?_;refine ax 67 (Bs Tryz.func16 (IK _)) ?_;refine wk 2 ?_;refine BC 69 (fun hb7=>?_) fun hb7=>?_
   .
    refine wk 12 ?_;exact cJ
   refine wk 2 ?_;refine ax 72 (Bs Tryz.func16 (IK _)) ?_;refine wk 3 ?_;refine BC 75 (fun hb8=>?_) fun hb8=>?_
   .
    refine wk 6 ?_;exact cJ
   refine wk 6 ?_;exact cJ
  intro c hc;refine asp 80 (fun hb9=>?_) fun hb9=>?_
  .
   refine wk 1 ?_;have hn:x.short=false:=IU hc hb9;refine wk 5 ?_;refine⟨[_],⟨rfl,trivial⟩,?_,rfl⟩;refine bc ?_;unfold PProg.few;rw[hok,hall,Bp hx hn];rfl
  refine wk 1 ?_;have hy:x.short=true:=IV hc hb9;have hy2:=hy;unfold PFn.short at hy2;simp only[Bool.and_eq_true,decide_eq_true_eq]at hy2;have hpl:=Ff hy2.1;have hll:=Ff hy2.2.1;have hqb:=hF.2.2;have hin:=Vb x.body (a:=q.2) (k:=q.1) hqb hpl hll;refine wk 8 ?_;refine aq 87 (AG (r:=.int .i64 (q.2-x.params.length)) rfl rfl rfl PU) ?_;refine wk 3 ?_;refine aq 91 (AG (r:=.int .i64 (q.2-x.params.length-x.locals.length)) rfl rfl rfl PU) ?_;refine ax 92 (Bs Tryz.func17 (JZ 60 x.body (q.2-x.params.length-x.locals.length) 60 Aa Aa Aa Aa Aa)) ?_;refine wk 4 ?_;refine aq 59 (A8 rfl rfl hkl DD) ?_;refine wk 2 ?_;exact⟨(q.1+1,PSt.leftL x.body (q.2-x.params.length-x.locals.length) 60),Drop.mk' FSq FT,⟨Dl hx hF.1 hy,by rw[<-hF.2.1,F4 hx];rfl,hin.1,hin.2⟩,(by show p.funcs.length-(q.1+1)<p.funcs.length-q.1;omega)⟩
 refine wk 1 ?_;have hge2:=As hb6;refine wk 8 ?_;refine⟨[_],⟨rfl,trivial⟩,?_,rfl⟩;refine bc ?_;unfold PProg.few;rw[hok,hall,BB hF.1 hge2,<-hF.2.1,List.drop_eq_nil_of_le hge2];rfl
theorem C3(C:Core)(w:Bool)(b:Bd)(hl:b.blocks.length<=1000000000):Ca Tryz.prog 26 [.ptr 2 1 0 0] (RH (bL C w b) (Ai (b).blocks)) (.int .i64 (b.blocks.length:Int)) (Az 2 hNone (RH (bL C w b.opened) (Ai (b.opened).blocks))):=by
 refine ACall.of_body (n:=19) Aj Tryz.func26 rfl rfl ?_;refine wk 12 ?_;refine ax 9 EI ?_;refine ax 10 (Ba Aj (n:=b.blocks.length) (m:=1) rfl rfl rfl rfl rfl rfl rfl rfl rfl Ir rfl rfl (Nat.zero_lt_succ _) (.lst _ _) GK (by intro h;cases h) rfl (by rw[BR];show(_+1)*56<=_;omega) (by rw[BR];show _+1<=_;simp only[maxLen];omega)) ?_;refine wk 5 ?_;refine AX (Ei 3 (es':=By b.blocks++[FP b.blocks.length blk0]) rfl (by simp[partVals]) (Wo (x:=.nil) (b.blocks.length+16))) ?_;refine wk 6 ?_;refine aq 18 (AG (r:=.int .i64 (b.blocks.length:Int)) rfl rfl rfl Wl) ?_;refine wk 3 ?_;exact⟨[_],⟨rfl,trivial⟩,rfl,(B6 rfl Ab ⟨(by(try simp only[AB]);exact congrArg (fun c=>some (rf 6 [c])) (Tj C w b).symm),(by(try simp only[AB]);exact congrArg (fun c=>some (rf 5 c)) (VE b)),trivial⟩ (fun x_=>by(try simp only[AB]);(try dsimp only);(repeat(first|refine AQ Ho ?_|refine hrm_skip Aa ?_));exact(Ax _ _ _).trans (Pk (VN b).symm x_)))⟩
theorem Rm(C:Core)(w:Bool)(b:Bd)(x:Block)(hx:b.blocks[b.now]?=some x)(to:Nat):Ca Tryz.prog 44 [.ptr 2 1 0 0,.int .i64 (to:Int)] (RH (bL C w b) (Ai (b).blocks)) (.tup []) (Az 2 hNone (RH (bL C w (b.jump to)) (Ai ((b.jump to)).blocks))):=by
 have hnow:=(List.getElem?_eq_some_iff.1 hx).1;refine ACall.of_body (n:=21) Aj Tryz.func44 rfl rfl ?_;refine wk 10 ?_;refine dq 13 (Ap Aj (hm:=Ir)) ?_;refine wk 8 ?_;refine AOps.w rfl rfl (BA Aj (hm:=Ir) (hk:=OI)) ?_;refine wk 2 ?_;refine AOps.w rfl rfl (BA Aj rfl rfl rfl rfl rfl rfl (by rw[List.length_set,BR]) (Ch OI) rfl Ab rfl Gc) ?_;refine an ?_;exact⟨[],trivial,rfl,(B6 rfl Ab ⟨f7,(by(try simp only[AB]);refine Eq.trans ?_ (congrArg (fun c=>some (rf 5 c)) (VF hx to));first|rfl|(rw[(show 0+((b.now:Nat):Int).toNat=b.now by omega)];rfl)),trivial⟩ (fun x_=>by(try simp only[AB]);(try dsimp only);(repeat(first|refine AQ Ho ?_|refine hrm_skip Aa ?_));exact(Ax _ _ _).trans (Pk (VO b to).symm x_)))⟩
theorem HQ(C:Core)(w:Bool)(b:Bd)(x:Block)(hx:b.blocks[b.now]?=some x)(v to els:Nat):Ca Tryz.prog 47 [.ptr 2 1 0 0,.int .i64 (v:Int),.int .i64 (to:Int),.int .i64 (els:Int)] (RH (bL C w b) (Ai (b).blocks)) (.tup []) (Az 2 hNone (RH (bL C w (b.fork v to els)) (Ai ((b.fork v to els)).blocks))):=by
 have hnow:=(List.getElem?_eq_some_iff.1 hx).1;refine ACall.of_body (n:=33) Aj Tryz.func47 rfl rfl ?_;refine wk 10 ?_;refine dq 17 (Ap Aj (hm:=Ir)) ?_;refine wk 12 ?_;refine AOps.w rfl rfl (BA Aj (hm:=Ir) (hk:=OI)) ?_;refine wk 2 ?_;refine AOps.w rfl rfl (BA Aj rfl rfl rfl rfl rfl rfl (by rw[List.length_set,BR]) (Ch OI) rfl Ab rfl Gc) ?_;refine wk 2 ?_;refine AOps.w rfl rfl (BA Aj rfl rfl rfl rfl rfl rfl (by rw[List.length_set,List.length_set,BR]) (Ch (Ch OI)) rfl Ab rfl Gc) ?_;refine wk 2 ?_;refine AOps.w rfl rfl (BA Aj rfl rfl rfl rfl rfl rfl (by rw[List.length_set,List.length_set,List.length_set,BR]) (Ch (Ch (Ch OI))) rfl Ab rfl Gc) ?_;refine an ?_;exact⟨[],trivial,rfl,(B6 rfl Ab ⟨f7,(by(try simp only[AB]);refine Eq.trans ?_ (congrArg (fun c=>some (rf 5 c)) (VG hx v to els));first|rfl|(rw[(show 0+((b.now:Nat):Int).toNat=b.now by omega)];rfl)),trivial⟩ (fun x_=>by(try simp only[AB]);(try dsimp only);(repeat(first|refine AQ Ho ?_|refine hrm_skip Aa ?_));exact(Ax _ _ _).trans (Pk (VP b v to els).symm x_)))⟩
theorem Eg(C:Core)(w:Bool)(b:Bd)(x:Block)(hx:b.blocks[b.now]?=some x)(t:Tac)(ht:0<=t.d)(ht2:t.d<=1000000000)(hl:x.ins.length<=1000000000):Ca Tryz.prog 45 [.ptr 2 1 0 0,.agg t.cells] (RH (bL C w b) (Ai (b).blocks)) (.tup []) (Az 2 hNone (RH (bL C w (b.put t)) (Ai ((b.put t)).blocks))):=by
 have hnow:=(List.getElem?_eq_some_iff.1 hx).1;refine ACall.of_body (n:=35) Aj Tryz.func45 rfl rfl ?_;refine Rq ?_;refine ax 3 (Ek 8 0) ?_;refine wk 10 ?_;refine dq 12 (AG (r:=.int .i64 (t.d+1)) rfl rfl rfl DL) ?_;refine dq 13 (jx rfl rfl rfl) ?_;refine wk 14 ?_;refine dq 24 (Ap Aj (hm:=Ir)) ?_;refine wk 7 ?_;refine dq 29 (BE Aj rfl rfl rfl (.ptr _ _ _ _ _ _ _ _ rfl Ir OI) rfl) ?_;refine wk 1 ?_;refine dx 31 EI ?_;refine dx 32 (Sx Aj (b:=b.now+16) (es:=x.ins.map Tac.cells) (x0:=t.cells) rfl rfl rfl rfl rfl rfl rfl rfl (by(try simp only[AB]);(repeat(first|refine AQ Ho ?_|refine hrm_skip Aa ?_));exact(Ax _ _ _).trans (congrArg some (Uc hx))) rfl rfl (Nat.zero_lt_succ _) (UG _) (RZ _) rfl rfl (by rw[List.length_map];show _*64<=_;omega) (by rw[List.length_map];simp only[maxLen];omega)) ?_;refine wk 2 ?_;refine DOps.w rfl rfl (BA Aj (es:=By b.blocks) (cs:=FP b.now x) (hb:=de) (hm:=Ir) (hk:=OI) (hp:=(by intro h;cases h))) ?_
 refine wk 1 ?_;exact⟨[],trivial,rfl,(B6 rfl Ab ⟨(by(try simp only[AB]);first|exact congrArg (fun c=>some (rf 6 [c])) (OG C w b t).symm|((try simp only[AB]);(try dsimp only);repeat(first|refine AQ Ho ?_|refine hrm_skip Aa ?_);exact congrArg (fun c=>some (rf 6 [c])) (OG C w b t).symm)),(by(try simp only[AB]);first|exact congrArg (fun c=>some (rf 5 c)) (OC t hx)|(refine Eq.trans ?_ (congrArg (fun c=>some (rf 5 c)) (OC t hx));rw[show 0+((b.now:Nat):Int).toNat=b.now by omega];rfl)),trivial⟩ (fun x_=>by(try simp only[AB]);(repeat(first|refine AQ Ho ?_|refine hrm_skip Aa ?_));exact(Ph (fun y_=>by(try simp only[AB]);repeat(first|exact Ax _ _ _|refine AQ Ho ?_|refine hrm_skip Aa ?_)) _ _ x_).trans (congrArg some (VM hx x_).symm)))⟩
theorem F7(C:Core)(w:Bool)(b:Bd)(x:Block)(hx:b.blocks[b.now]?=some x)(hc:b.cnt<=1000000000)(d:Nat)(n:Int)(hd:d<=1000000000):Ca Tryz.prog 43 [.ptr 2 1 0 0,.int .i64 (d:Int),.int .u32 n] (RH (bL C w b) (Ai (b).blocks)) (.tup []) (Az 2 hNone (RH (bL C w (b.put (AY d n))) (Ai ((b.put (AY d n))).blocks))):=by
 refine ACall.of_body (n:=11) Aj Tryz.func43 rfl rfl ?_;refine wk 5 ?_;refine AOps.call 10 (hn:=Az 2 _ (RH (bL C w (b.put (AY d n))) (Ai ((b.put (AY d n))).blocks))) (r:=.tup []) rfl rfl rfl (Am 2 (bL C w b) (bL C w (b.put (AY d n))) (Ai ((b.put (AY d n))).blocks) rfl Tryz.func45 Al rfl rfl rfl rfl rfl Ab (Af C w _) (Af C w _) Bz Dn (fun x=>Ac _ x) (fun x=>Ac _ x) rfl (Eg C w b x hx (AY d n) (Int.natCast_nonneg d) Ut (by have:=DK hx;omega))) ?_;refine an ?_;exact K1
theorem Ih(C:Core)(w:Bool)(b:Bd)(x:Block)(hx:b.blocks[b.now]?=some x)(hc:b.cnt<=1000000000)(op:Int)(d x1 y1:Nat)(hd:d<=1000000000):Ca Tryz.prog 46 [.ptr 2 1 0 0,.int .i64 op,.int .i64 (d:Int),.int .i64 (x1:Int),.int .i64 (y1:Int)] (RH (bL C w b) (Ai (b).blocks)) (.tup []) (Az 2 hNone (RH (bL C w (b.put (AP op d x1 y1))) (Ai ((b.put (AP op d x1 y1))).blocks))):=by
 refine ACall.of_body (n:=17) Aj Tryz.func46 rfl rfl ?_;refine wk 7 ?_;refine AOps.call 16 (hn:=Az 2 _ (RH (bL C w (b.put (AP op d x1 y1))) (Ai ((b.put (AP op d x1 y1))).blocks))) (r:=.tup []) rfl rfl rfl (Am 2 (bL C w b) (bL C w (b.put (AP op d x1 y1))) (Ai ((b.put (AP op d x1 y1))).blocks) rfl Tryz.func45 Al rfl rfl rfl rfl rfl Ab (Af C w _) (Af C w _) Bz Dn (fun x=>Ac _ x) (fun x=>Ac _ x) rfl (Eg C w b x hx (AP op d x1 y1) (Int.natCast_nonneg d) Ut (by have:=DK hx;omega))) ?_;refine an ?_;exact K1
theorem GE(C:Core)(w:Bool)(b:Bd)(x:Block)(hx:b.blocks[b.now]?=some x)(hc:b.cnt<=1000000000)(wd:Int)(a:Nat):Ca Tryz.prog 48 [.ptr 2 1 0 0,.int .i64 wd,.int .i64 (a:Int)] (RH (bL C w b) (Ai (b).blocks)) (.tup []) (Az 2 hNone (RH (bL C w (b.put (AL wd a))) (Ai ((b.put (AL wd a))).blocks))):=by
 refine ACall.of_body (n:=11) Aj Tryz.func48 rfl rfl ?_;refine wk 5 ?_;refine AOps.call 10 (hn:=Az 2 _ (RH (bL C w (b.put (AL wd a))) (Ai ((b.put (AL wd a))).blocks))) (r:=.tup []) rfl rfl rfl (Am 2 (bL C w b) (bL C w (b.put (AL wd a))) (Ai ((b.put (AL wd a))).blocks) rfl Tryz.func45 Al rfl rfl rfl rfl rfl Ab (Af C w _) (Af C w _) Bz Dn (fun x=>Ac _ x) (fun x=>Ac _ x) rfl (Eg C w b x hx (AL wd a) (Int.le_refl 0) (show(0:Int)<=1000000000 by decide) (by have:=DK hx;omega))) ?_;refine an ?_;exact K1
theorem OB(C:Core)(w:Bool)(b:Bd)(x:Block)(hx:b.blocks[b.now]?=some x)(hc:b.cnt<=100000000):Ca Tryz.prog 29 [.ptr 2 1 0 0] (RH (bL C w b) (Ai (b).blocks)) (.tup []) (Az 2 hNone (RH (bL C w (b.leave C w)) (Ai ((b.leave C w)).blocks))):=by
 refine ACall.of_body (n:=24) Aj Tryz.func29 rfl rfl ?_;refine wk 8 ?_;refine AK (γ:=Bd×Block) (fun q=>⟨24,(Ad AM 0 (pZ 2)),(Az 2 hNone (RH (bL C w q.1) (Ai q.1.blocks)))⟩) (fun q=>q.1.blocks[q.1.now]?=some q.2/\q.1.ret=b.leave C w) ?_ ?_
 .
  refine asp 5 (fun hb1=>?_) fun hb1=>?_
  .
   refine act ?_;have hww:w=true:=hb1;refine wk 3 ?_;refine AOps.call 7 (hn:=Az 2 _ (RH (bL C w (b.put (AY 0 0))) (Ai ((b.put (AY 0 0))).blocks))) (r:=.tup []) rfl rfl rfl (Am 2 (bL C w b) (bL C w (b.put (AY 0 0))) (Ai ((b.put (AY 0 0))).blocks) rfl Tryz.func43 Al rfl rfl rfl rfl rfl Ab (Af C w _) (Af C w _) Bz Dn (fun x=>Ac _ x) (fun x=>Ac _ x) rfl (F7 C w b x hx Aa 0 0 Aa)) ?_;refine wk 7 ?_;refine AOps.call 13 (hn:=Az 2 _ (RH (bL C w ((b.put (AY 0 0)).put (AL C.words 0))) (Ai (((b.put (AY 0 0)).put (AL C.words 0))).blocks))) (r:=.tup []) rfl rfl rfl (Am 2 (bL C w (b.put (AY 0 0))) (bL C w ((b.put (AY 0 0)).put (AL C.words 0))) (Ai (((b.put (AY 0 0)).put (AL C.words 0))).blocks) rfl Tryz.func48 Al rfl rfl rfl rfl rfl Ab (Af C w _) (Af C w _) Bz Dn (fun x=>Ac _ x) (fun x=>Ac _ x) rfl (GE C w (b.put (AY 0 0)) _ (EU hx) (by rw[JI _ hx];omega) C.words 0)) ?_;refine an ?_;exact⟨(((b.put (AY 0 0)).put (AL C.words 0)),_),Sub.mk' AT (B6 rfl Ab Bz Dn),⟨EU (EU hx),by unfold Bd.leave;rw[hww];rfl⟩⟩
  refine Ej ?_;have hww:w=false:=hb1;refine eN ?_;exact⟨(b,x),Sub.mk' AT (B6 rfl Ab Bz Dn),⟨hx,by unfold Bd.leave;rw[hww];rfl⟩⟩
 intro q hQ;have hx:=hQ.1;have hnow:=(List.getElem?_eq_some_iff.1 hx).1;rw[<-hQ.2];refine wk 9 ?_;refine dq 22 (Ap Aj (hm:=Ir)) ?_;refine wk 1 ?_;refine DOps.w rfl rfl (BA Aj (hm:=Ir) (hk:=OI)) ?_;refine wk 1 ?_;exact⟨[],trivial,rfl,(B6 rfl Ab ⟨(by(try simp only[AB]);exact congrArg (fun c=>some (rf 6 [c])) (OE C w q.1 _).symm),(by(try simp only[AB]);refine Eq.trans ?_ (congrArg (fun c=>some (rf 5 c)) (Yo hx));first|rfl|(rw[(show 0+((q.1.now:Nat):Int).toNat=q.1.now by omega)];rfl)),trivial⟩ (fun x_=>by(try simp only[AB]);(try dsimp only);(repeat(first|refine AQ Ho ?_|refine hrm_skip Aa ?_));exact(BL _ _ _ x_).trans ((Ax _ _ _).trans (Pk (Yr q.1).symm x_))))⟩
theorem ag(C:Core)(w:Bool)(b:Bd)(x:Block)(hx:b.blocks[b.now]?=some x)(hc:b.cnt<=100000000)(d:Nat)(hd:d<=100000000):Ca Tryz.prog 89 [.ptr 2 1 0 0,.int .i64 (d:Int)] (RH (bL C w b) (Ai (b).blocks)) (.tup []) (Az 2 hNone (RH (bL C w (b.not d)) (Ai ((b.not d)).blocks))):=by
 refine ACall.of_body (n:=14) Aj Tryz.func89 rfl rfl ?_;refine wk 4 ?_;refine aq 6 (AG (r:=.int .i64 (((d+1:Nat):Int))) rfl rfl rfl OJ) ?_;refine AOps.call 7 (hn:=Az 2 _ (RH (bL C w (b.put (AY (d+1) 0))) (Ai ((b.put (AY (d+1) 0))).blocks))) (r:=.tup []) rfl rfl rfl (Am 2 (bL C w b) (bL C w (b.put (AY (d+1) 0))) (Ai ((b.put (AY (d+1) 0))).blocks) rfl Tryz.func43 Al rfl rfl rfl rfl rfl Ab (Af C w _) (Af C w _) Bz Dn (fun x=>Ac _ x) (fun x=>Ac _ x) rfl (F7 C w b x hx Aa (d+1) 0 Aa)) ?_;refine wk 6 ?_;refine aq 12 (AG (r:=.int .i64 (((d+1:Nat):Int))) rfl rfl rfl OJ) ?_;refine AOps.call 13 (hn:=Az 2 _ (RH (bL C w (b.not d)) (Ai ((b.not d)).blocks))) (r:=.tup []) rfl rfl rfl (Am 2 (bL C w (b.put (AY (d+1) 0))) (bL C w (b.not d)) (Ai ((b.not d)).blocks) rfl Tryz.func46 Al rfl rfl rfl rfl rfl Ab (Af C w _) (Af C w _) Bz Dn (fun x=>Ac _ x) (fun x=>Ac _ x) rfl (Ih C w (b.put (AY (d+1) 0)) _ (EU hx) (by rw[JI _ hx];omega) 15 d d (d+1) Aa)) ?_
 refine an ?_;exact K1
theorem SQ(C:Core)(w:Bool)(b:Bd)(o4 o5 o6:AObj)(hO:cm o4 o5 o6)(n:Int):Ca Tryz.prog 103 ([]++[.int .i64 n]++[.ptr 8 1 0 0]) (RH (V1 C w b o4 o5 o6 .free) (Ai (b).blocks)) (.fn (.func 104) [] [.ptr 9 1 0 0,.ptr 8 1 0 0]) (Az 8 hNone (RH (V1 C w b o4 o5 o6 (rf 1 [[.int .i64 n]])) (Ai (b).blocks))):=by
 refine ACall.of_body (n:=5) Aj Tryz.func103 rfl rfl ?_;refine Rq ?_;refine ax 2 (Ek 1 9) ?_;refine Tq 3 rfl rfl rfl rfl ?_;refine wk 3 ?_;refine aq 4 (Eu rfl rfl rfl) ?_;refine wk 3 ?_;exact⟨[_],⟨rfl,trivial⟩,rfl,(B6 rfl Ab Bz Dn)⟩
theorem SP(C:Core)(w:Bool)(b:Bd)(o4 o5 o6:AObj)(hO:cm o4 o5 o6)(n:Nat):Ca Tryz.prog 104 ([]++[]++[.ptr 9 1 0 0,.ptr 8 1 0 0]) (RH (V1 C w b o4 o5 o6 (rf 1 [[.int .i64 (n:Int)]])) (Ai (b).blocks)) (.tup []) (Az 8 hNone (RH (V1 C w (b.go n) o4 o5 o6 (rf 1 [[.int .i64 (n:Int)]])) (Ai (b).blocks))):=by
 refine ACall.of_body (n:=6) Aj Tryz.func104 rfl rfl ?_;refine wk 7 ?_;exact K1
theorem FO(C:Core)(w:Bool)(b:Bd)(o4 o5 o6:AObj)(hO:cm o4 o5 o6)(blk to:Nat)(g:FuncId)(fn:Func)(hg:Tryz.prog.funcs[g]?=some fn)(hgn:(fn.name== "runtime.NumGoroutine")=false)(hgb:fn.body.isSome=true)(cs:List AV)(hcs:cs.all (AV.avoid (kR 5))=true)(b1:Bd)(x1:Block)(hx1:b1.blocks[b1.now]?=some x1)
 (hdo:Ca Tryz.prog g ([]++[]++cs) (RH (Gl C w (b.go blk) o4 o5 o6) (Ai (b).blocks)) (.tup []) (Az 5 hNone (RH (Gl C w b1 o4 o5 o6) (Ai (b1).blocks)))):Ca Tryz.prog 91 [.ptr 2 1 0 0,.int .i64 (blk:Int),.int .i64 (to:Int),.fn (.func g) [] cs] (RH (Gl C w b o4 o5 o6) (Ai (b).blocks)) (.tup []) (Az 5 hNone (RH (Gl C w ((b1.jump to).go b.now) o4 o5 o6) (Ai ((b1.jump to)).blocks))):=by
 refine ACall.of_body (n:=26) Aj Tryz.func91 rfl rfl ?_;refine Rq ?_;refine ax 4 (Ek 1 8) ?_;refine wk 3 ?_;refine aq 9 (Eu rfl rfl rfl) ?_;refine wk 4 ?_;refine AOps.call 14 (hn:=Az 8 _ (RH (V1 C w b o4 o5 o6 (rf 1 [[.int .i64 (b.now:Int)]])) (Ai (b).blocks))) (r:=.fn (.func 104) [] [.ptr 9 1 0 0,.ptr 8 1 0 0]) rfl rfl rfl (L9 8 (V1 C w b o4 o5 o6 .free) (V1 C w b o4 o5 o6 (rf 1 [[.int .i64 (b.now:Int)]])) (Ai (b).blocks) rfl rfl Tryz.func103 Al rfl rfl rfl rfl rfl Ab (Ij C w _ hO rfl) (Ij C w _ hO rfl) Bz Dn (fun x=>Ac _ x) (fun x=>Ac _ x) rfl (SQ C w b o4 o5 o6 hO (b.now:Int))) ?_;refine wk 13 ?_;refine AOps.call 20 (hn:=Az 5 _ (RH (Gl C w b1 o4 o5 o6) (Ai (b1).blocks))) (r:=.tup []) rfl rfl rfl (L9 5 (Gl C w (b.go blk) o4 o5 o6) (Gl C w b1 o4 o5 o6) (Ai (b1).blocks) rfl rfl hg hgn hgb rfl (by simpa using hcs) rfl rfl Ab (C9 C w _ hO) (C9 C w _ hO) Bz Dn (fun x=>Ac _ x) (fun x=>Ac _ x) rfl (hdo)) ?_
 refine wk 5 ?_;refine AOps.call 23 (hn:=Az 2 _ (RH (bL C w (b1.jump to)) (Ai ((b1.jump to)).blocks))) (r:=.tup []) rfl rfl rfl (Am 2 (bL C w b1) (bL C w (b1.jump to)) (Ai ((b1.jump to)).blocks) rfl Tryz.func44 Al rfl rfl rfl rfl rfl Ab (Af C w _) (Af C w _) Bz Dn (fun x=>Ac _ x) (fun x=>Ac _ x) rfl (Rm C w b1 x1 hx1 to)) ?_;refine wk 3 ?_;refine AOps.call 25 (hn:=Az 8 _ (RH (V1 C w ((b1.jump to).go b.now) o4 o5 o6 (rf 1 [[.int .i64 (b.now:Int)]])) (Ai ((b1.jump to)).blocks))) (r:=.tup []) rfl rfl rfl (L9 8 (V1 C w (b1.jump to) o4 o5 o6 (rf 1 [[.int .i64 (b.now:Int)]])) (V1 C w ((b1.jump to).go b.now) o4 o5 o6 (rf 1 [[.int .i64 (b.now:Int)]])) (Ai ((b1.jump to)).blocks) rfl rfl Tryz.func104 Al rfl rfl rfl rfl rfl Ab (Ij C w _ hO rfl) (Ij C w _ hO rfl) Bz Dn (fun x=>Ac _ x) (fun x=>Ac _ x) rfl (SP C w (b1.jump to) o4 o5 o6 hO b.now)) ?_;refine an ?_;exact K1
theorem Te(C:Core)(w:Bool)(b:Bd)(g:Int)(gf:CFn)(l:List CE)(d:Nat)(hg0:0<=g)(hgf:C.funcs[g.toNat]?=some gf)(hf0:0<=gf.first)(hf1:gf.first<=1000000)(hl6:l.length<=6)(hP:∀k,k<=l.length->Pl (CE.buildL C (l.take k) d b))(hc:(CE.buildL C l d b).cnt<=90000000)(hd:d<=90000000)(hV:∀(k:Nat) (x:CE),l[k]?=some x->Ca Tryz.prog 65 [.ptr 2 1 0 0,.loc x.row,.int .i64 ((d+k:Nat):Int)] (RH (bL C w (CE.buildL C (l.take k) d b)) (Ai ((CE.buildL C (l.take k) d b)).blocks)) (.tup []) (Az 2 hNone (RH (bL C w (x.build C (d+k) (CE.buildL C (l.take k) d b))) (Ai ((x.build C (d+k) (CE.buildL C (l.take k) d b))).blocks)))):Ca Tryz.prog 66 [.ptr 2 1 0 0,.int .i64 g,(.lst false (l.map CE.cells)),.int .i64 (d:Int)] (RH (bL C w b) (Ai (b).blocks)) (.tup []) (Az 2 hNone (RH (bL C w ((CE.buildL C l d b).called C g l.length d)) (Ai (((CE.buildL C l d b).called C g l.length d)).blocks))):=by
 have hcf:C.first g=gf.first:=JF hgf
 have hPl:Pl (CE.buildL C l d b):=by have h:=hP l.length (Nat.le_refl _);rwa[List.take_length]at h
 refine ACall.of_body (n:=49) Aj Tryz.func66 rfl rfl ?_;refine wk 8 ?_;refine Dw (γ:=Nat) (kf 4) (fun k=>⟨49,(Ad (Ad (Ad (Ad (Ad (Ad AM 0 (pZ 2)) 1 (.int .i64 g)) 2 (.lst false (l.map CE.cells))) 3 (iN d)) 11 (.int .i64 ((l.map CE.cells).length:Int))) 12 (iN k)),(Gj (nb [.free,.free,(rf 6 [DY C w (CE.buildL C (l.take k) d b)]),(rf 5 (By ((CE.buildL C (l.take k) d b)).blocks))]) (Ai ((CE.buildL C (l.take k) d b)).blocks))⟩) (fun k=>k<=l.length) (fun k=>l.length-k) 0 (Sub.mk' AT (Ey (k0:=4) rfl (by repeat(first|exact trivial|refine⟨⟨by first|rfl|(rw[List.take_zero,CE.buildL];rfl),by first|rfl|exact CC (fun x_=>Hj 4 x_) _⟩,?_⟩)) (fun x_=>by rw[List.take_zero,CE.buildL];exact Ax _ _ _) bQ)) (Nat.zero_le _) (fun g b hb=>EG (k0:=4) rfl hb) ?_;intro k hk;refine wk 5 ?_;refine asp 13 (fun hb1=>?_) fun hb1=>?_
 .
  refine act ?_;have hkl:k<l.length:=Ao hb1;obtain⟨x,hx⟩:=Ah hkl;have hbk:=Rj (C:=C) hx d b;refine wk 12 ?_;refine aq 18 (Ae Aj rfl rfl rfl rfl rfl rfl (Int.natCast_nonneg _) (ZI hx) rfl) ?_;refine wk 2 ?_;refine aq 21 (AG (r:=.int .i64 (((d+k:Nat):Int))) rfl rfl rfl OJ) ?_;refine AOps.call 22 (hn:=Az 2 _ (RH (bL C w (x.build C (d+k) (CE.buildL C (l.take k) d b))) (Ai ((x.build C (d+k) (CE.buildL C (l.take k) d b))).blocks))) (r:=.tup []) rfl rfl rfl (Am 2 (bL C w (CE.buildL C (l.take k) d b)) (bL C w (x.build C (d+k) (CE.buildL C (l.take k) d b))) (Ai ((x.build C (d+k) (CE.buildL C (l.take k) d b))).blocks) rfl Tryz.func65 Al rfl rfl rfl rfl rfl Ab (Af C w _) (Af C w _) Bz Dn (fun x=>Ac _ x) (fun x=>Ac _ x) rfl (hV k x hx)) ?_;refine wk 2 ?_;refine aq 23 (A8 rfl rfl hkl DD) ?_;exact fp
 refine Ej ?_;have hke:k=l.length:=Nat.le_antisymm hk (As hb1);refine wk 9 ?_;refine Dw (γ:=Nat) (kf 4) (fun k=>⟨49,(Ad (Ad (Ad (Ad (Ad (Ad AM 0 (pZ 2)) 1 (.int .i64 g)) 2 (.lst false (l.map CE.cells))) 3 (iN d)) 25 (.int .i64 ((l.map CE.cells).length:Int))) 26 (iN k)),(Gj (nb [.free,.free,(rf 6 [DY C w ((CE.buildL C l d b).args gf.first d k)]),(rf 5 (By (((CE.buildL C l d b).args gf.first d k)).blocks))]) (Ai (((CE.buildL C l d b).args gf.first d k)).blocks))⟩) (fun k=>k<=l.length) (fun k=>l.length-k) 0 (Sub.mk' AT (Ey (k0:=4) rfl (by repeat(first|exact trivial|refine⟨⟨by first|rfl|(subst hke;rw[List.take_length];rfl),by first|rfl|exact CC (fun x_=>Hj 4 x_) _⟩,?_⟩)) (fun x_=>by subst hke;rw[List.take_length];exact Ax _ _ _) bQ)) (Nat.zero_le _) (fun g b hb=>EG (k0:=4) rfl hb) ?_;intro k hk;refine wk 5 ?_;refine asp 27 (fun hb2=>?_) fun hb2=>?_
 .
  refine act ?_;have hkl:k<l.length:=Ao hb2;obtain⟨z,hz⟩:=(Pw hPl gf.first d k).cur;refine wk 15 ?_;refine aq 35 (Ae Aj rfl rfl rfl rfl rfl rfl hg0 (EL hgf) rfl) ?_;refine wk 3 ?_;refine aq 39 (AG (r:=.int .i64 (gf.first+(k:Int))) rfl rfl rfl DL) ?_;refine wk 2 ?_;refine aq 42 (AG (r:=.int .i64 (((d+k:Nat):Int))) rfl rfl rfl OJ) ?_;refine AOps.call 43 (hn:=Az 2 _ (RH (bL C w (((CE.buildL C l d b).args gf.first d k).put (AL (gf.first+k) (d+k)))) (Ai ((((CE.buildL C l d b).args gf.first d k).put (AL (gf.first+k) (d+k)))).blocks))) (r:=.tup []) rfl rfl rfl (Am 2 (bL C w ((CE.buildL C l d b).args gf.first d k)) (bL C w (((CE.buildL C l d b).args gf.first d k).put (AL (gf.first+k) (d+k)))) (Ai ((((CE.buildL C l d b).args gf.first d k).put (AL (gf.first+k) (d+k)))).blocks) rfl Tryz.func48 Al rfl rfl rfl rfl rfl Ab (Af C w _) (Af C w _) Bz Dn (fun x=>Ac _ x) (fun x=>Ac _ x) rfl (GE C w ((CE.buildL C l d b).args gf.first d k) z hz (by have:=JK (CE.buildL C l d b) gf.first d k;omega) (gf.first+k) (d+k))) ?_
  refine wk 2 ?_;refine aq 44 (A8 rfl rfl hkl DD) ?_;refine wk 2 ?_;exact⟨k+1,DropK.mk' PT (G6 (k0:=4) rfl OK RN (fun x_=>Ac _ x_)),hkl,by omega⟩
 refine Ej ?_;have hke2:k=l.length:=Nat.le_antisymm hk (As hb2);subst hke2;obtain⟨z,hz⟩:=(Pw hPl gf.first d l.length).cur;refine wk 5 ?_;refine AOps.call 48 (hn:=Az 2 _ (RH (bL C w (((CE.buildL C l d b).args gf.first d l.length).put (E1 g))) (Ai ((((CE.buildL C l d b).args gf.first d l.length).put (E1 g))).blocks))) (r:=.tup []) rfl rfl rfl (Am 2 (bL C w ((CE.buildL C l d b).args gf.first d l.length)) (bL C w (((CE.buildL C l d b).args gf.first d l.length).put (E1 g))) (Ai ((((CE.buildL C l d b).args gf.first d l.length).put (E1 g))).blocks) rfl Tryz.func45 Al rfl rfl rfl rfl rfl Ab (Af C w _) (Af C w _) Bz Dn (fun x=>Ac _ x) (fun x=>Ac _ x) rfl (Eg C w _ z hz (E1 g) (Int.le_refl 0) (show(0:Int)<=1000000000 by decide) (by have:=DK hz;have:=JK (CE.buildL C l d b) gf.first d l.length;omega))) ?_;refine an ?_;have e1:(CE.buildL C l d b).called C g l.length d=(((CE.buildL C l d b).args gf.first d l.length).put (E1 g)):=by unfold Bd.called;rw[hcf]
 rw[e1];exact K1
theorem OA(C:Core)(w:Bool)(b:Bd)(e:CE)(d:Nat)(hP:Pl (e.build C d b))(hc:(e.build C d b).cnt<=90000000)(hd:d<=90000000)(hV:Ca Tryz.prog 65 [.ptr 2 1 0 0,.loc e.row,.int .i64 (d:Int)] (RH (bL C w b) (Ai (b).blocks)) (.tup []) (Az 2 hNone (RH (bL C w (e.build C d b)) (Ai ((e.build C d b)).blocks)))):Ca Tryz.prog 101 [.ptr 2 1 0 0,.loc e.row,.int .i64 (d:Int)] (RH (bL C w b) (Ai (b).blocks)) (.tup []) (Az 2 hNone (RH (bL C w ((e.build C d b).truth e d)) (Ai (((e.build C d b).truth e d)).blocks))):=by
 obtain⟨x,hx⟩:=hP.cur;refine ACall.of_body (n:=48) Aj Tryz.func101 rfl rfl ?_;refine wk 5 ?_;refine AOps.call 9 (hn:=Az 2 _ (RH (bL C w (e.build C d b)) (Ai ((e.build C d b)).blocks))) (r:=.tup []) rfl rfl rfl (Am 2 (bL C w b) (bL C w (e.build C d b)) (Ai ((e.build C d b)).blocks) rfl Tryz.func65 Al rfl rfl rfl rfl rfl Ab (Af C w _) (Af C w _) Bz Dn (fun x=>Ac _ x) (fun x=>Ac _ x) rfl (hV)) ?_;refine wk 16 ?_;refine asp 14 (fun hb1=>?_) fun hb1=>?_
 .
  refine wk 4 ?_;exact V3
 refine wk 6 ?_;refine asp 14 (fun hb2=>?_) fun hb2=>?_
 .
  refine wk 4 ?_;exact V3
 refine wk 5 ?_;refine asp 14 (fun hb3=>?_) fun hb3=>?_
 .
  refine wk 2 ?_;exact V3
 refine wk 6 ?_;refine asp 18 (fun hb4=>?_) fun hb4=>?_
 .
  refine wk 9 ?_;refine BC 25 (fun hb5=>?_) fun hb5=>?_
  .
   refine wk 9 ?_;exact V3
  refine wk 7 ?_;refine asp 31 (fun hb6=>?_) fun hb6=>?_
  .
   refine wk 2 ?_;exact V3
  exact fS
 exact fS
theorem Rg(C:Core)(w:Bool)(b:Bd)(n:Nat)(e:CE)(d:Nat)(hok:e.ok C n)(hP:Pl b)(hc:b.cnt+11*e.parts<=80000000)(hd:d+e.parts<=80000000)
 (hV:∀x∈e.kids,∀(d:Nat) (b:Bd),Pl b->b.cnt+11*x.parts<=80000000->d+x.parts<=80000000->Ca Tryz.prog 65 [.ptr 2 1 0 0,.loc x.row,.int .i64 (d:Int)] (RH (bL C w b) (Ai (b).blocks)) (.tup []) (Az 2 hNone (RH (bL C w (x.build C d b)) (Ai ((x.build C d b)).blocks)))) (hPx:∀x∈e.kids,∀(d:Nat) (b:Bd),Pl b->Pl (x.build C d b)) (hPc:Pl ((CE.buildL C e.kids d b).called C e.slot e.kids.length d)) (hcall:e.kind=4->Ca Tryz.prog 66 [.ptr 2 1 0 0,.int .i64 e.slot,(.lst false (e.kids.map CE.cells)),.int .i64 (d:Int)] (RH (bL C w b) (Ai (b).blocks)) (.tup []) (Az 2 hNone (RH (bL C w ((CE.buildL C e.kids d b).called C e.slot e.kids.length d)) (Ai (((CE.buildL C e.kids d b).called C e.slot e.kids.length d)).blocks)))) (hE:e.kind=8\/e.kind=9->Ca Tryz.prog 90 [.ptr 2 1 0 0,.loc e.row,.int .i64 (d:Int)] (RH (bL C w b) (Ai (b).blocks)) (.tup []) (Az 2 hNone (RH (bL C w (e.build C d b)) (Ai ((e.build C d b)).blocks)))):Ca Tryz.prog 65 [.ptr 2 1 0 0,.loc e.row,.int .i64 (d:Int)] (RH (bL C w b) (Ai (b).blocks)) (.tup []) (Az 2 hNone (RH (bL C w (e.build C d b)) (Ai ((e.build C d b)).blocks))):=by
 obtain⟨z0,hz0⟩:=hP.cur;obtain⟨zc,hzc⟩:=hPc.cur;have hpe0:=Bu e;have hlen:=DM e.kids;refine ACall.of_body (n:=128) Aj Tryz.func65 rfl rfl ?_;refine wk 13 ?_;refine asp 10 (fun hb1=>?_) fun hb1=>?_
 .
  refine act ?_;have ho:e.kind=1:=by simpa using hb1
  refine wk 7 ?_;refine AOps.call 18 (hn:=Az 2 _ (RH (bL C w (b.put (AY d e.num))) (Ai ((b.put (AY d e.num))).blocks))) (r:=.tup []) rfl rfl rfl (Am 2 (bL C w b) (bL C w (b.put (AY d e.num))) (Ai ((b.put (AY d e.num))).blocks) rfl Tryz.func43 Al rfl rfl rfl rfl rfl Ab (Af C w _) (Af C w _) Bz Dn (fun x=>Ac _ x) (fun x=>Ac _ x) rfl (F7 C w b z0 hz0 Aa d e.num Aa)) ?_;refine an ?_;rw[nn ho];exact K1
 refine Ej ?_;have n1:e.kind≠1:=by simpa using hb1
 refine wk 5 ?_;refine asp 19 (fun hb2=>?_) fun hb2=>?_
 .
  refine act ?_;have ho:e.kind=2:=by simpa using hb2
  refine wk 8 ?_;refine AOps.call 28 (hn:=Az 2 _ (RH (bL C w (b.put (Dx d e.slot))) (Ai ((b.put (Dx d e.slot))).blocks))) (r:=.tup []) rfl rfl rfl (Am 2 (bL C w b) (bL C w (b.put (Dx d e.slot))) (Ai ((b.put (Dx d e.slot))).blocks) rfl Tryz.func45 Al rfl rfl rfl rfl rfl Ab (Af C w _) (Af C w _) Bz Dn (fun x=>Ac _ x) (fun x=>Ac _ x) rfl (Eg C w b z0 hz0 (Dx d e.slot) (Int.natCast_nonneg d) Ut (by have:=DK hz0;omega))) ?_;refine an ?_;rw[nl ho];exact K1
 refine Ej ?_;have n2:e.kind≠2:=by simpa using hb2
 refine wk 5 ?_;refine asp 29 (fun hb3=>?_) fun hb3=>?_
 .
  refine act ?_;have ho:e.kind=3:=by simpa using hb3
  have hb3:=eG hok ho;obtain⟨x,hx,hxm⟩:=Nk (l:=e.kids) Aa;obtain⟨z,hz⟩:=(hPx x hxm d b hP).cur;have hcx:=B9 (C:=C) x.parts x (Nat.le_refl _) d b;have hpx:=B0 hxm;have hpe:=Bu e;refine wk 7 ?_;refine aq 36 (Ae Aj rfl rfl rfl rfl rfl rfl Ab (IB hx) rfl) ?_;refine wk 1 ?_;refine AOps.call 38 (hn:=Az 2 _ (RH (bL C w (x.build C d b)) (Ai ((x.build C d b)).blocks))) (r:=.tup []) rfl rfl rfl (Am 2 (bL C w b) (bL C w (x.build C d b)) (Ai ((x.build C d b)).blocks) rfl Tryz.func65 Al rfl rfl rfl rfl rfl Ab (Af C w _) (Af C w _) Bz Dn (fun x=>Ac _ x) (fun x=>Ac _ x) rfl (hV x hxm d b hP Aa Aa)) ?_;refine wk 14 ?_;refine dx 51 (BW C w (x.build C d b) ((x.build C d b).put (GZ d d e.slot e.size)) ((x.build C d b).blocks.length+((x.build C d b).put (GZ d d e.slot e.size)).blocks.length) Aa Aa rfl Tryz.func45 Al rfl rfl rfl Y1 kq rfl (Eg C w (x.build C d b) z hz (GZ d d e.slot e.size) (Int.natCast_nonneg d) Ut (by have:=DK hz;omega))) ?_;refine Cc GC [([],[]),([],[]),([],[]),([],[]),([],[]),([],[]),([],[]),([],[]),([],[]),([],[]),([],[]),([],[]),([2],[2])] Jb Al ?_
  rw[nk ho hb3.1 hx];exact fB
 refine Ej ?_;have n3:e.kind≠3:=by simpa using hb3
 refine wk 5 ?_;refine asp 52 (fun hb4=>?_) fun hb4=>?_
 .
  refine act ?_;have ho:e.kind=4:=by simpa using hb4
  have hb4:=XZ hok ho;have hcL:=Ig (m:=0) (fun x (hx:x∈e.kids)=>B9 (C:=C) x.parts x (Nat.le_refl _)) d b;have hcC:=I3 (CE.buildL C e.kids d b) C e.slot e.kids.length d;refine wk 12 ?_;refine dx 64 (BW C w b ((CE.buildL C e.kids d b).called C e.slot e.kids.length d) (b.blocks.length+((CE.buildL C e.kids d b).called C e.slot e.kids.length d).blocks.length) Aa Aa rfl Tryz.func66 Al rfl rfl rfl Y1 kq rfl (hcall ho)) ?_;refine Cc GC [([],[]),([],[]),([],[]),([],[]),([],[]),([],[]),([],[]),([],[]),([],[]),([],[]),([2],[2])] Jb Al ?_;refine wk 6 ?_;refine aq 70 (BE Aj rfl rfl rfl (.ptr _ _ _ _ _ _ _ _ ((IA Ab).trans rfl) rfl rfl) rfl) ?_;refine wk 1 ?_;refine AOps.call 72 (hn:=Az 2 _ (RH (bL C w (((CE.buildL C e.kids d b).called C e.slot e.kids.length d).put (Dx d C.words))) (Ai ((((CE.buildL C e.kids d b).called C e.slot e.kids.length d).put (Dx d C.words))).blocks))) (r:=.tup []) rfl rfl rfl (Am 2 (bL C w ((CE.buildL C e.kids d b).called C e.slot e.kids.length d)) (bL C w (((CE.buildL C e.kids d b).called C e.slot e.kids.length d).put (Dx d C.words))) (Ai ((((CE.buildL C e.kids d b).called C e.slot e.kids.length d).put (Dx d C.words))).blocks) rfl Tryz.func45 Al rfl rfl rfl rfl rfl Ab (Af C w _) (Af C w _) Y1 kq (fun x=>Ac _ x) (fun x=>Ac _ x) rfl (Eg C w ((CE.buildL C e.kids d b).called C e.slot e.kids.length d) zc hzc (Dx d C.words) (Int.natCast_nonneg d) Ut (by have:=DK hzc;omega))) ?_
  refine an ?_;rw[nj ho];exact fB
 refine Ej ?_;have n4:e.kind≠4:=by simpa using hb4
 refine wk 5 ?_;refine asp 73 (fun hb5=>?_) fun hb5=>?_
 .
  refine act ?_;have ho:e.kind=5:=by simpa using hb5
  refine wk 4 ?_;refine AOps.call 78 (hn:=Az 2 _ (RH (bL C w (b.put (Mv d))) (Ai ((b.put (Mv d))).blocks))) (r:=.tup []) rfl rfl rfl (Am 2 (bL C w b) (bL C w (b.put (Mv d))) (Ai ((b.put (Mv d))).blocks) rfl Tryz.func45 Al rfl rfl rfl rfl rfl Ab (Af C w _) (Af C w _) Bz Dn (fun x=>Ac _ x) (fun x=>Ac _ x) rfl (Eg C w b z0 hz0 (Mv d) (Int.natCast_nonneg d) Ut (by have:=DK hz0;omega))) ?_;refine an ?_;rw[ni ho];exact K1
 refine Ej ?_;have n5:e.kind≠5:=by simpa using hb5
 have hK:=XY hok n1 n2 n3 n4 n5;refine wk 5 ?_;refine asp 79 (fun hb6=>?_) fun hb6=>?_
 .
  refine act ?_;have ho:e.kind=6:=by simpa using hb6
  have hl2:e.kids.length=2:=by omega
  obtain⟨x,hx,hxm⟩:=Nk (l:=e.kids) Aa;obtain⟨z,hz⟩:=(hPx x hxm d b hP).cur;have hcx:=B9 (C:=C) x.parts x (Nat.le_refl _) d b;have hpx:=B0 hxm;have hpe:=Bu e;obtain⟨y,hy,hym⟩:=ep (l:=e.kids) Aa;have hk2:=Gz hl2 hx hy;have hps:CE.partsL e.kids=x.parts+y.parts:=by rw[hk2,CE.partsL,CE.partsL,CE.partsL];omega
  obtain⟨z2,hz2⟩:=(hPx y hym (d+1) _ (hPx x hxm d b hP)).cur;have hcy:=B9 (C:=C) y.parts y (Nat.le_refl _) (d+1) (x.build C d b);have hpx1:=Bu x;refine wk 7 ?_;refine aq 86 (Ae Aj rfl rfl rfl rfl rfl rfl Ab (IB hx) rfl) ?_;refine wk 1 ?_;refine AOps.call 88 (hn:=Az 2 _ (RH (bL C w (x.build C d b)) (Ai ((x.build C d b)).blocks))) (r:=.tup []) rfl rfl rfl (Am 2 (bL C w b) (bL C w (x.build C d b)) (Ai ((x.build C d b)).blocks) rfl Tryz.func65 Al rfl rfl rfl rfl rfl Ab (Af C w _) (Af C w _) Bz Dn (fun x=>Ac _ x) (fun x=>Ac _ x) rfl (hV x hxm d b hP Aa Aa)) ?_;refine wk 8 ?_;refine aq 94 (Ae Aj rfl rfl rfl rfl rfl rfl Ab (XG hy) rfl) ?_;refine wk 1 ?_;refine aq 96 (AG (r:=.int .i64 (((d+1:Nat):Int))) rfl rfl rfl OJ) ?_;refine AOps.call 97 (hn:=Az 2 _ (RH (bL C w (y.build C (d+1) (x.build C d b))) (Ai ((y.build C (d+1) (x.build C d b))).blocks))) (r:=.tup []) rfl rfl rfl (Am 2 (bL C w (x.build C d b)) (bL C w (y.build C (d+1) (x.build C d b))) (Ai ((y.build C (d+1) (x.build C d b))).blocks) rfl Tryz.func65 Al rfl rfl rfl rfl rfl Ab (Af C w _) (Af C w _) Bz Dn (fun x=>Ac _ x) (fun x=>Ac _ x) rfl (hV y hym (d+1) _ (hPx x hxm d b hP) Aa Aa)) ?_
  refine wk 10 ?_;refine aq 106 (AG (r:=.int .i64 (((d+1:Nat):Int))) rfl rfl rfl OJ) ?_;refine AOps.call 107 (hn:=Az 2 _ (RH (bL C w ((y.build C (d+1) (x.build C d b)).put (AP e.op d d (d+1)))) (Ai (((y.build C (d+1) (x.build C d b)).put (AP e.op d d (d+1)))).blocks))) (r:=.tup []) rfl rfl rfl (Am 2 (bL C w (y.build C (d+1) (x.build C d b))) (bL C w ((y.build C (d+1) (x.build C d b)).put (AP e.op d d (d+1)))) (Ai (((y.build C (d+1) (x.build C d b)).put (AP e.op d d (d+1)))).blocks) rfl Tryz.func46 Al rfl rfl rfl rfl rfl Ab (Af C w _) (Af C w _) Bz Dn (fun x=>Ac _ x) (fun x=>Ac _ x) rfl (Ih C w (y.build C (d+1) (x.build C d b)) z2 hz2 Aa e.op d d (d+1) Aa)) ?_;refine an ?_;rw[nh ho hl2 hx hy];exact K1
 refine wk 6 ?_;refine asp 108 (fun hb7=>?_) fun hb7=>?_
 .
  refine act ?_;have ho:e.kind=7:=by simpa using hb7
  have hl1:e.kids.length=1:=by omega
  obtain⟨x,hx,hxm⟩:=Nk (l:=e.kids) Aa;obtain⟨z,hz⟩:=(hPx x hxm d b hP).cur;have hcx:=B9 (C:=C) x.parts x (Nat.le_refl _) d b;have hpx:=B0 hxm;have hpe:=Bu e;refine wk 7 ?_;refine aq 115 (Ae Aj rfl rfl rfl rfl rfl rfl Ab (IB hx) rfl) ?_;refine wk 1 ?_;refine AOps.call 117 (hn:=Az 2 _ (RH (bL C w (x.build C d b)) (Ai ((x.build C d b)).blocks))) (r:=.tup []) rfl rfl rfl (Am 2 (bL C w b) (bL C w (x.build C d b)) (Ai ((x.build C d b)).blocks) rfl Tryz.func65 Al rfl rfl rfl rfl rfl Ab (Af C w _) (Af C w _) Bz Dn (fun x=>Ac _ x) (fun x=>Ac _ x) rfl (hV x hxm d b hP Aa Aa)) ?_;refine wk 4 ?_;refine AOps.call 120 (hn:=Az 2 _ (RH (bL C w ((x.build C d b).not d)) (Ai (((x.build C d b).not d)).blocks))) (r:=.tup []) rfl rfl rfl (Am 2 (bL C w (x.build C d b)) (bL C w ((x.build C d b).not d)) (Ai (((x.build C d b).not d)).blocks) rfl Tryz.func89 Al rfl rfl rfl rfl rfl Ab (Af C w _) (Af C w _) Bz Dn (fun x=>Ac _ x) (fun x=>Ac _ x) rfl (ag C w (x.build C d b) z hz Aa d Aa)) ?_
  refine an ?_;rw[ng ho hl1 hx];exact K1
 refine wk 7 ?_;refine asp 121 (fun hb8=>?_) fun hb8=>?_
 .
  refine wk 7 ?_;exact fJ
 refine wk 5 ?_;refine asp 121 (fun hb9=>?_) fun hb9=>?_
 .
  refine wk 5 ?_;exact fJ
 refine wk 2 ?_;exact absurd hK (by simp_all)
theorem SW(C:Core)(w:Bool)(b:Bd)(e y:CE)(d:Nat)(hy:e.kids[1]?=some y)(hT:Ca Tryz.prog 101 [.ptr 2 1 0 0,.loc y.row,.int .i64 (d:Int)] (RH (bL C w b) (Ai (b).blocks)) (.tup []) (Az 2 hNone (RH (bL C w ((y.build C d b).truth y d)) (Ai (((y.build C d b).truth y d)).blocks)))):Ca Tryz.prog 102 ([]++[]++[.ptr 4 1 0 0,.ptr 5 1 0 0,.ptr 6 1 0 0]) (RH (Gl C w b (rf 1 [[.ptr 2 1 0 0]]) (rf 1 [[.loc e.row]]) (rf 1 [[.int .i64 (d:Int)]])) (Ai (b).blocks)) (.tup []) (Az 5 hNone (RH (Gl C w ((y.build C d b).truth y d) (rf 1 [[.ptr 2 1 0 0]]) (rf 1 [[.loc e.row]]) (rf 1 [[.int .i64 (d:Int)]])) (Ai (((y.build C d b).truth y d)).blocks))):=by
 refine ACall.of_body (n:=11) Aj Tryz.func102 rfl rfl ?_;refine wk 6 ?_;refine dq 8 (Ae Aj rfl rfl rfl rfl rfl rfl Ab (XG hy) rfl) ?_;refine wk 1 ?_;refine dx 10 (BW C w b ((y.build C d b).truth y d) (b.blocks.length+((y.build C d b).truth y d).blocks.length) Aa Aa rfl Tryz.func101 Al rfl rfl rfl Do HW rfl (hT)) ?_;refine Cc GC [([4],[]),([5],[]),([],[]),([],[]),([],[]),([],[]),([6],[]),([2],[2])] Jb Al ?_;exact aF
theorem Pt(C:Core)(w:Bool)(b:Bd)(e x y:CE)(d:Nat)(hk:e.kind=8\/e.kind=9)(hl:e.kids.length=2)(hx:e.kids[0]?=some x)(hy:e.kids[1]?=some y)(z1:Block)(hz1:((x.build C d b).truth x d).blocks[((x.build C d b).truth x d).now]?=some z1)(hc:((x.build C d b).truth x d).cnt<=90000000)(hT:Ca Tryz.prog 101 [.ptr 2 1 0 0,.loc x.row,.int .i64 (d:Int)] (RH (bL C w b) (Ai (b).blocks)) (.tup []) (Az 2 hNone (RH (bL C w ((x.build C d b).truth x d)) (Ai (((x.build C d b).truth x d)).blocks))))(x1:Block)
 (hx1:∀q,q=((x.build C d b).truth x d).either0 e.kind d->((y.build C d (q.go ((x.build C d b).truth x d).blocks.length)).truth y d).blocks[((y.build C d (q.go ((x.build C d b).truth x d).blocks.length)).truth y d).now]?=some x1) (hTy:∀q,q=((x.build C d b).truth x d).either0 e.kind d->Ca Tryz.prog 101 [.ptr 2 1 0 0,.loc y.row,.int .i64 (d:Int)] (RH (bL C w (q.go ((x.build C d b).truth x d).blocks.length)) (Ai ((q.go ((x.build C d b).truth x d).blocks.length)).blocks)) (.tup []) (Az 2 hNone (RH (bL C w ((y.build C d (q.go ((x.build C d b).truth x d).blocks.length)).truth y d)) (Ai (((y.build C d (q.go ((x.build C d b).truth x d).blocks.length)).truth y d)).blocks)))):Ca Tryz.prog 90 [.ptr 2 1 0 0,.loc e.row,.int .i64 (d:Int)] (RH (bL C w b) (Ai (b).blocks)) (.tup []) (Az 2 hNone (RH (bL C w (e.build C d b)) (Ai ((e.build C d b)).blocks))):=by
 have hO:cm (rf 1 [[.ptr 2 1 0 0]]) (rf 1 [[.loc e.row]]) (rf 1 [[.int .i64 (d:Int)]]):=⟨⟨rfl,rfl,rfl⟩,rfl,rfl,rfl⟩;have hlo:=If ((x.build C d b).truth x d);have hol:=Aq ((x.build C d b).truth x d);refine ACall.of_body (n:=44) Aj Tryz.func90 rfl rfl ?_;refine Rq ?_;refine ax 3 (Ek 1 4) ?_;refine ax 4 (Ek 1 5) ?_;refine ax 5 (Ek 1 6) ?_;refine wk 8 ?_;refine dq 13 (Ae Aj rfl rfl rfl rfl rfl rfl Ab (IB hx) rfl) ?_;refine wk 1 ?_;refine dx 15 (BW C w b ((x.build C d b).truth x d) (b.blocks.length+((x.build C d b).truth x d).blocks.length) Aa Aa rfl Tryz.func101 Al rfl rfl rfl Do HW rfl (hT)) ?_;refine Cc GC [([4],[]),([5],[]),([],[]),([],[]),([],[]),([],[]),([6],[]),([2],[2])] Jb Al ?_;refine VQ ?_;refine AGo.sub (s':=⟨44,(Ad (Ad (Ad AM 3 (pZ 4)) 4 (pZ 5)) 5 (pZ 6)),(Az 5 hNone (RH (Gl C w ((x.build C d b).truth x d) (rf 1 [[.ptr 2 1 0 0]]) (rf 1 [[.loc e.row]]) (rf 1 [[.int .i64 (d:Int)]])) (Ai (((x.build C d b).truth x d)).blocks)))⟩) (Sub.mk' AT (B6 rfl Ab Do HW)) ?_;refine wk 2 ?_;refine dx 17 (BW C w ((x.build C d b).truth x d) (((x.build C d b).truth x d).opened) (((x.build C d b).truth x d).blocks.length+(((x.build C d b).truth x d).opened).blocks.length) Aa Aa rfl Tryz.func26 Al rfl rfl rfl Do HW rfl (C3 C w _ Aa)) ?_
 refine dq 18 (BE Aj rfl rfl rfl (.ptr _ _ _ _ _ _ _ _ ((IA Ab).trans rfl) rfl rfl) rfl) ?_;refine dx 19 (BW C w (((x.build C d b).truth x d).opened) (((x.build C d b).truth x d).opened.opened) ((((x.build C d b).truth x d).opened).blocks.length+(((x.build C d b).truth x d).opened.opened).blocks.length) Aa Aa rfl Tryz.func26 Al rfl rfl rfl Do HW rfl (C3 C w _ Aa)) ?_;refine wk 2 ?_;refine Cc GC [([4],[]),([2],[2]),([4],[]),([2],[2]),([],[]),([],[])] Jb Al ?_;refine wk 2 ?_;refine AGo.sub (s':=⟨44,(Ad (Ad (Ad (Ad (Ad AM 3 (pZ 4)) 4 (pZ 5)) 5 (pZ 6)) 6 (.int .i64 (((x.build C d b).truth x d).blocks.length:Int))) 7 (.int .i64 ((((x.build C d b).truth x d).blocks.length+1:Nat):Int))),(Az 5 hNone (RH (Gl C w (((x.build C d b).truth x d).opened.opened) (rf 1 [[.ptr 2 1 0 0]]) (rf 1 [[.loc e.row]]) (rf 1 [[.int .i64 (d:Int)]])) (Ai ((((x.build C d b).truth x d).opened.opened)).blocks)))⟩) (Sub.mk' fZ (B6 rfl Ab Do HW)) ?_
 have hz2:(((x.build C d b).truth x d).opened.opened).blocks[(((x.build C d b).truth x d).opened.opened).now]?=some z1:=by
  have hl1:=(List.getElem?_eq_some_iff.1 hz1).1;rw[show(((x.build C d b).truth x d).opened.opened).now=((x.build C d b).truth x d).now from rfl,AF EZ,AF hl1];exact hz1
 refine wk 7 ?_;refine AK (γ:=Bd) (fun q=>⟨44,(Ad (Ad (Ad (Ad (Ad AM 3 (pZ 4)) 4 (pZ 5)) 5 (pZ 6)) 6 (.int .i64 (((x.build C d b).truth x d).blocks.length:Int))) 7 (.int .i64 ((((x.build C d b).truth x d).blocks.length+1:Nat):Int))),(Az 5 hNone (RH (Gl C w q (rf 1 [[.ptr 2 1 0 0]]) (rf 1 [[.loc e.row]]) (rf 1 [[.int .i64 (d:Int)]])) (Ai (q).blocks)))⟩) (fun q=>q=((x.build C d b).truth x d).either0 e.kind d) ?_ ?_
 .
  refine asp 24 (fun hb1=>?_) fun hb1=>?_
  .
   refine act ?_;have hk8:(e.kind==8)=true:=hb1;refine wk 5 ?_;refine AOps.call 29 (hn:=Az 2 _ (RH (bL C w ((((x.build C d b).truth x d).opened.opened).fork d ((x.build C d b).truth x d).blocks.length (((x.build C d b).truth x d).blocks.length+1))) (Ai (((((x.build C d b).truth x d).opened.opened).fork d ((x.build C d b).truth x d).blocks.length (((x.build C d b).truth x d).blocks.length+1))).blocks))) (r:=.tup []) rfl rfl rfl (Am 2 (bL C w (((x.build C d b).truth x d).opened.opened)) (bL C w ((((x.build C d b).truth x d).opened.opened).fork d ((x.build C d b).truth x d).blocks.length (((x.build C d b).truth x d).blocks.length+1))) (Ai (((((x.build C d b).truth x d).opened.opened).fork d ((x.build C d b).truth x d).blocks.length (((x.build C d b).truth x d).blocks.length+1))).blocks) rfl Tryz.func47 Al rfl rfl rfl rfl rfl Ab (Af C w _) (Af C w _) Bz Dn (fun x=>Ac _ x) (fun x=>Ac _ x) rfl (HQ C w (((x.build C d b).truth x d).opened.opened) z1 hz2 d ((x.build C d b).truth x d).blocks.length (((x.build C d b).truth x d).blocks.length+1))) ?_
   refine an ?_;exact⟨((((x.build C d b).truth x d).opened.opened).fork d ((x.build C d b).truth x d).blocks.length (((x.build C d b).truth x d).blocks.length+1)),Sub.mk' AT (B6 rfl Ab Do HW),(by unfold Bd.either0;rw[hk8];rfl)⟩
  refine Ej ?_;have hk8:(e.kind==8)=false:=hb1;refine wk 5 ?_;refine AOps.call 34 (hn:=Az 2 _ (RH (bL C w ((((x.build C d b).truth x d).opened.opened).fork d (((x.build C d b).truth x d).blocks.length+1) ((x.build C d b).truth x d).blocks.length)) (Ai (((((x.build C d b).truth x d).opened.opened).fork d (((x.build C d b).truth x d).blocks.length+1) ((x.build C d b).truth x d).blocks.length)).blocks))) (r:=.tup []) rfl rfl rfl (Am 2 (bL C w (((x.build C d b).truth x d).opened.opened)) (bL C w ((((x.build C d b).truth x d).opened.opened).fork d (((x.build C d b).truth x d).blocks.length+1) ((x.build C d b).truth x d).blocks.length)) (Ai (((((x.build C d b).truth x d).opened.opened).fork d (((x.build C d b).truth x d).blocks.length+1) ((x.build C d b).truth x d).blocks.length)).blocks) rfl Tryz.func47 Al rfl rfl rfl rfl rfl Ab (Af C w _) (Af C w _) Bz Dn (fun x=>Ac _ x) (fun x=>Ac _ x) rfl (HQ C w (((x.build C d b).truth x d).opened.opened) z1 hz2 d (((x.build C d b).truth x d).blocks.length+1) ((x.build C d b).truth x d).blocks.length)) ?_
  refine an ?_;exact⟨((((x.build C d b).truth x d).opened.opened).fork d (((x.build C d b).truth x d).blocks.length+1) ((x.build C d b).truth x d).blocks.length),Sub.mk' AT (B6 rfl Ab Do HW),(by unfold Bd.either0;rw[hk8];rfl)⟩
 intro q hq;have hx1:=hx1 q hq;have hTy:=hTy q hq;refine wk 5 ?_;refine aq 38 (Eu rfl rfl rfl) ?_;refine AOps.call 39 (hn:=Az 5 _ (RH (Gl C w ((((y.build C d (q.go ((x.build C d b).truth x d).blocks.length)).truth y d).jump (((x.build C d b).truth x d).blocks.length+1)).go q.now) (rf 1 [[.ptr 2 1 0 0]]) (rf 1 [[.loc e.row]]) (rf 1 [[.int .i64 (d:Int)]])) (Ai ((((y.build C d (q.go ((x.build C d b).truth x d).blocks.length)).truth y d).jump (((x.build C d b).truth x d).blocks.length+1))).blocks))) (r:=.tup []) rfl rfl rfl (Am 5 (Gl C w q (rf 1 [[.ptr 2 1 0 0]]) (rf 1 [[.loc e.row]]) (rf 1 [[.int .i64 (d:Int)]])) (Gl C w ((((y.build C d (q.go ((x.build C d b).truth x d).blocks.length)).truth y d).jump (((x.build C d b).truth x d).blocks.length+1)).go q.now) (rf 1 [[.ptr 2 1 0 0]]) (rf 1 [[.loc e.row]]) (rf 1 [[.int .i64 (d:Int)]])) (Ai (((y.build C d (q.go ((x.build C d b).truth x d).blocks.length)).truth y d).jump (((x.build C d b).truth x d).blocks.length+1)).blocks) rfl Tryz.func91 Al rfl rfl rfl rfl rfl Ab (C9 C w _ hO) (C9 C w _ hO) Bz Dn (fun x=>Ac _ x) (fun x=>Ac _ x) rfl (FO C w q (rf 1 [[.ptr 2 1 0 0]]) (rf 1 [[.loc e.row]]) (rf 1 [[.int .i64 (d:Int)]]) hO ((x.build C d b).truth x d).blocks.length (((x.build C d b).truth x d).blocks.length+1) 102 _ Tryz.func102 Al rfl [.ptr 4 1 0 0,.ptr 5 1 0 0,.ptr 6 1 0 0] rfl ((y.build C d (q.go ((x.build C d b).truth x d).blocks.length)).truth y d) x1 hx1 (SW C w (q.go ((x.build C d b).truth x d).blocks.length) e y d hy hTy))) ?_
 refine wk 8 ?_;have e1:e.build C d b=((((y.build C d (q.go ((x.build C d b).truth x d).blocks.length)).truth y d).jump (((x.build C d b).truth x d).blocks.length+1)).go q.now).go (((x.build C d b).truth x d).blocks.length+1):=by rw[mD hk hl hx hy,hq];rfl
 rw[e1];exact aF
theorem Ro(C:Core)(w:Bool)(n:Nat)(hr:M8 C){b:Bd}{g:Int}{gf:CFn}{l:List CE}{d:Nat}(hg0:0<=g)(hgf:C.funcs[g.toNat]?=some gf)(hl6:l.length<=6)(hok:CE.okL C n l)(hP:Pl b)(hc:b.cnt+11*CE.partsL l<=80000000)(hd:d+CE.partsL l<=80000000)
 (hV:∀x∈l,∀(d:Nat) (b:Bd),Pl b->b.cnt+11*x.parts<=80000000->d+x.parts<=80000000->ACall Tryz.prog 65 [.ptr 2 1 0 0,.loc x.row,.int .i64 (d:Int)] (RH (bL C w b) (Ai (b).blocks)) (fun r h'=>r=.tup []/\HSub (Az 2 hNone (RH (bL C w (x.build C d b)) (Ai ((x.build C d b)).blocks))) h')):
 ACall Tryz.prog 66 [.ptr 2 1 0 0,.int .i64 g,(.lst false (l.map CE.cells)),.int .i64 (d:Int)] (RH (bL C w b) (Ai (b).blocks)) (fun r h'=>r=.tup []/\HSub (Az 2 hNone (RH (bL C w ((CE.buildL C l d b).called C g l.length d)) (Ai (((CE.buildL C l d b).called C g l.length d)).blocks))) h'):=by
 obtain⟨f1,f2,f3,f4,f5⟩:=hr.fn gf (List.mem_of_getElem? hgf);have hw:=hr.w1;have hcnt:∀k,(CE.buildL C (l.take k) d b).cnt+(l.take k).length<=b.cnt+11*CE.partsL (l.take k):=fun k=>Ig (m:=0) (fun e _=>B9 e.parts e (Nat.le_refl _)) d b
 have hPk:∀k,Pl (CE.buildL C (l.take k) d b):=fun k=>(Dj (QK k hok) d b hP).pl
 have hct:=hcnt l.length;rw[List.take_length]at hct;refine Te C w b g gf l d hg0 hgf f4 Aa hl6 (fun k _=>hPk k) Aa Aa fun k x hx=>?_
 have hp:=O7 hx;have hc2:=hcnt k;exact hV x (List.mem_of_getElem? hx) (d+k) _ (hPk k) Aa Aa
theorem E8(C:Core)(w:Bool)(n:Nat)(hr:M8 C):∀(m:Nat) (e:CE),e.parts<=m->e.ok C n->∀(d:Nat) (b:Bd),Pl b->b.cnt+11*e.parts<=80000000->d+e.parts<=80000000->ACall Tryz.prog 65 [.ptr 2 1 0 0,.loc e.row,.int .i64 (d:Int)] (RH (bL C w b) (Ai (b).blocks)) (fun r h'=>r=.tup []/\HSub (Az 2 hNone (RH (bL C w (e.build C d b)) (Ai ((e.build C d b)).blocks))) h')
 |0,e,hm,_,_,_,_,_,_=>absurd hm (by have:=Bu e;omega)
 |m+1,e,hm,ho,d,b,hP,hc,hd=>by
  have hpe:=Bu e;have hV:∀x∈e.kids,∀(d:Nat) (b:Bd),Pl b->b.cnt+11*x.parts<=80000000->d+x.parts<=80000000->ACall Tryz.prog 65 [.ptr 2 1 0 0,.loc x.row,.int .i64 (d:Int)] (RH (bL C w b) (Ai (b).blocks)) (fun r h'=>r=.tup []/\HSub (Az 2 hNone (RH (bL C w (x.build C d b)) (Ai ((x.build C d b)).blocks))) h'):=fun x hx=>E8 C w n hr m x (by have:=B0 hx;omega) (T9 ho hx)
  have hPx:∀x∈e.kids,∀(d:Nat) (b:Bd),Pl b->Pl (x.build C d b):=fun x hx d b hb=>(B2 x.parts x (Nat.le_refl _) (T9 ho hx) d b hb).pl
  refine Rg C w b n e d ho hP hc hd hV hPx (Ha (Dj (Rb ho) d b hP).pl C e.slot e.kids.length d).pl (fun h4=>?_) (fun h89=>?_)
  . obtain⟨g0,g1,fn,g2,_,g3,g4⟩:=XZ ho h4;exact Ro C w n hr g0 g2 g4 (Rb ho) hP Aa Aa hV
  . have hl2:e.kids.length=2:=by
     have:=XY ho Aa Aa Aa Aa Aa;omega
    obtain⟨x,hx,hxm⟩:=Nk (l:=e.kids) Aa;obtain⟨y,hy,hym⟩:=ep (l:=e.kids) Aa;have hps:CE.partsL e.kids=x.parts+y.parts:=by rw[Gz hl2 hx hy,CE.partsL,CE.partsL,CE.partsL];omega
    have hpx:=Bu x;have hpy:=Bu y;have hP1:=hPx x hxm d b hP;have hP2:Pl ((x.build C d b).truth x d):=(Di hP1 x d).pl;obtain⟨z1,hz1⟩:=hP2.cur;have c1:=B9 (C:=C) x.parts x (Nat.le_refl _) d b;have c2:=Kf (x.build C d b) x d;have hQ:=SX hP2 e.kind d;have hQ2:=hPx y hym d _ hQ;have hQ3:Pl ((y.build C d ((((x.build C d b).truth x d).either0 e.kind d).go ((x.build C d b).truth x d).blocks.length)).truth y d):=(Di hQ2 y d).pl;obtain⟨x1,hx1⟩:=hQ3.cur;have c3:=KR ((x.build C d b).truth x d) e.kind d;have c4:=B9 (C:=C) y.parts y (Nat.le_refl _) d ((((x.build C d b).truth x d).either0 e.kind d).go ((x.build C d b).truth x d).blocks.length);rw[B8]at c4;exact Pt C w b e x y d h89 hl2 hx hy z1 hz1 Aa (OA C w b x d hP1 Aa Aa (hV x hxm d b hP Aa Aa)) x1 (fun q hq=>by rw[hq];exact hx1)
     fun q hq=>by rw[hq];exact OA C w _ y d hQ2 Aa Aa (hV y hym d _ hQ (by rw[B8];omega) Aa)
theorem Rk(C:Core)(w:Bool)(b:Bd)(l:List CS)(hlen:l.length<=maxLen)(hS:∀(k:Nat) (x:CS),l[k]?=some x->Ca Tryz.prog 49 [.ptr 2 1 0 0,.loc x.row] (RH (bL C w (CS.buildL C w (l.take k) b)) (Ai ((CS.buildL C w (l.take k) b)).blocks)) (.tup []) (Az 2 hNone (RH (bL C w (x.build C w (CS.buildL C w (l.take k) b))) (Ai ((x.build C w (CS.buildL C w (l.take k) b))).blocks)))):Ca Tryz.prog 28 [.ptr 2 1 0 0,(.lst false (l.map CS.cells))] (RH (bL C w b) (Ai (b).blocks)) (.tup []) (Az 2 hNone (RH (bL C w (CS.buildL C w l b)) (Ai ((CS.buildL C w l b)).blocks))):=by
 refine ACall.of_body (n:=16) Aj Tryz.func28 rfl rfl ?_;refine wk 7 ?_;refine Dw (γ:=Nat) (kf 4) (fun k=>⟨16,(Ad (Ad (Ad (Ad AM 0 (pZ 2)) 1 (.lst false (l.map CS.cells))) 6 (.int .i64 ((l.map CS.cells).length:Int))) 7 (iN k)),(Gj (nb [.free,.free,(rf 6 [DY C w (CS.buildL C w (l.take k) b)]),(rf 5 (By ((CS.buildL C w (l.take k) b)).blocks))]) (Ai ((CS.buildL C w (l.take k) b)).blocks))⟩) (fun k=>k<=l.length) (fun k=>l.length-k) 0 (Sub.mk' AT (Ey (k0:=4) rfl (by repeat(first|exact trivial|refine⟨⟨by first|rfl|(rw[List.take_zero,CS.buildL];rfl),by first|rfl|exact CC (fun x_=>Hj 4 x_) _⟩,?_⟩)) (fun x_=>by rw[List.take_zero,CS.buildL];exact Ax _ _ _) bQ)) (Nat.zero_le _) (fun g b hb=>EG (k0:=4) rfl hb) ?_;intro k hk;refine wk 5 ?_;refine asp 8 (fun hb1=>?_) fun hb1=>?_
 .
  refine act ?_;have hkl:k<l.length:=Ao hb1;obtain⟨x,hx⟩:=Ah hkl;have hbk:=OY (C:=C) (w:=w) hx b;refine wk 12 ?_;refine aq 13 (Ae Aj rfl rfl rfl rfl rfl rfl (Int.natCast_nonneg _) (ZH hx) rfl) ?_;refine AOps.call 14 (hn:=Az 2 _ (RH (bL C w (x.build C w (CS.buildL C w (l.take k) b))) (Ai ((x.build C w (CS.buildL C w (l.take k) b))).blocks))) (r:=.tup []) rfl rfl rfl (Am 2 (bL C w (CS.buildL C w (l.take k) b)) (bL C w (x.build C w (CS.buildL C w (l.take k) b))) (Ai ((x.build C w (CS.buildL C w (l.take k) b))).blocks) rfl Tryz.func49 Al rfl rfl rfl rfl rfl Ab (Af C w _) (Af C w _) Bz Dn (fun x=>Ac _ x) (fun x=>Ac _ x) rfl (hS k x hx)) ?_;refine wk 2 ?_;refine aq 15 (A8 rfl rfl hkl hlen) ?_;exact fp
 refine Ej ?_;have hke:k=l.length:=Nat.le_antisymm hk (As hb1);refine wk 1 ?_;subst hke;rw[List.take_length];exact K1
theorem S5(C:Core)(w:Bool)(b:Bd)(e:CS)(hT:Ca Tryz.prog 28 [.ptr 2 1 0 0,(.lst false (e.els.map CS.cells))] (RH (bL C w b) (Ai (b).blocks)) (.tup []) (Az 2 hNone (RH (bL C w (CS.buildL C w e.els b)) (Ai ((CS.buildL C w e.els b)).blocks)))):Ca Tryz.prog 92 ([]++[]++[.ptr 4 1 0 0,.ptr 5 1 0 0]) (RH (Gl C w b (rf 1 [[.ptr 2 1 0 0]]) (rf 1 [[.loc e.row]]) .free) (Ai (b).blocks)) (.tup []) (Az 5 hNone (RH (Gl C w (CS.buildL C w e.els b) (rf 1 [[.ptr 2 1 0 0]]) (rf 1 [[.loc e.row]]) .free) (Ai ((CS.buildL C w e.els b)).blocks))):=by
 refine ACall.of_body (n:=8) Aj Tryz.func92 rfl rfl ?_;refine wk 6 ?_;refine dx 7 (BW C w b (CS.buildL C w e.els b) (b.blocks.length+(CS.buildL C w e.els b).blocks.length) Aa Aa rfl Tryz.func28 Al rfl rfl rfl Do HW rfl (hT)) ?_;refine Cc GC [([4],[]),([5],[]),([],[]),([],[]),([],[]),([2],[2])] Jb Al ?_;exact aF
theorem S4(C:Core)(w:Bool)(b:Bd)(e:CS)(hT:Ca Tryz.prog 28 [.ptr 2 1 0 0,(.lst false (e.thn.map CS.cells))] (RH (bL C w b) (Ai (b).blocks)) (.tup []) (Az 2 hNone (RH (bL C w (CS.buildL C w e.thn b)) (Ai ((CS.buildL C w e.thn b)).blocks)))):Ca Tryz.prog 93 ([]++[]++[.ptr 4 1 0 0,.ptr 5 1 0 0]) (RH (Gl C w b (rf 1 [[.ptr 2 1 0 0]]) (rf 1 [[.loc e.row]]) .free) (Ai (b).blocks)) (.tup []) (Az 5 hNone (RH (Gl C w (CS.buildL C w e.thn b) (rf 1 [[.ptr 2 1 0 0]]) (rf 1 [[.loc e.row]]) .free) (Ai ((CS.buildL C w e.thn b)).blocks))):=by
 refine ACall.of_body (n:=8) Aj Tryz.func93 rfl rfl ?_;exact fQ
theorem Xt(C:Core)(w:Bool)(b:Bd)(e:CS)(hT:Ca Tryz.prog 28 [.ptr 2 1 0 0,(.lst false (e.thn.map CS.cells))] (RH (bL C w b) (Ai (b).blocks)) (.tup []) (Az 2 hNone (RH (bL C w (CS.buildL C w e.thn b)) (Ai ((CS.buildL C w e.thn b)).blocks)))):Ca Tryz.prog 95 ([]++[]++[.ptr 4 1 0 0,.ptr 5 1 0 0]) (RH (Gl C w b (rf 1 [[.ptr 2 1 0 0]]) (rf 1 [[.loc e.row]]) .free) (Ai (b).blocks)) (.tup []) (Az 5 hNone (RH (Gl C w (CS.buildL C w e.thn b) (rf 1 [[.ptr 2 1 0 0]]) (rf 1 [[.loc e.row]]) .free) (Ai ((CS.buildL C w e.thn b)).blocks))):=by
 refine ACall.of_body (n:=8) Aj Tryz.func95 rfl rfl ?_;exact fQ
theorem Ta(C:Core)(w:Bool)(b:Bd)(n:Nat)(hr:M8 C)(e:CS)(hok:e.ok C n w)(hP:Pl b)(hc:b.cnt+11*e.parts<=70000000)(hpm:e.parts<=70000000)(h4:e.kind=4->Ca Tryz.prog 67 [.ptr 2 1 0 0,.loc e.row] (RH (bL C w b) (Ai (b).blocks)) (.tup []) (Az 2 hNone (RH (bL C w (e.build C w b)) (Ai ((e.build C w b)).blocks))))(h5:e.kind=5->Ca Tryz.prog 68 [.ptr 2 1 0 0,.loc e.row] (RH (bL C w b) (Ai (b).blocks)) (.tup []) (Az 2 hNone (RH (bL C w (e.build C w b)) (Ai ((e.build C w b)).blocks)))):Ca Tryz.prog 49 [.ptr 2 1 0 0,.loc e.row] (RH (bL C w b) (Ai (b).blocks)) (.tup []) (Az 2 hNone (RH (bL C w (e.build C w b)) (Ai ((e.build C w b)).blocks))):=by
 have hpe:=C6 e;refine ACall.of_body (n:=112) Aj Tryz.func49 rfl rfl ?_;refine wk 13 ?_;refine asp 8 (fun hb1=>?_) fun hb1=>?_
 .
  refine act ?_;have ho:e.kind=1:=by simpa using hb1
  have hb1:=jn hok ho;obtain⟨x,hx,hxm⟩:=Nk (l:=e.es) Aa;have hxo:=Ht hok hxm;have hPx:Pl (x.build C 0 b):=(B2 x.parts x (Nat.le_refl _) hxo 0 b hP).pl;obtain⟨z,hz⟩:=hPx.cur;have hcx:=B9 (C:=C) x.parts x (Nat.le_refl _) 0 b;have hpx:=B0 hxm;refine wk 7 ?_;refine aq 15 (Ae Aj rfl rfl rfl rfl rfl rfl Ab (IB hx) rfl) ?_;refine AOps.call 16 (hn:=Az 2 _ (RH (bL C w (x.build C 0 b)) (Ai ((x.build C 0 b)).blocks))) (r:=.tup []) rfl rfl rfl (Am 2 (bL C w b) (bL C w (x.build C 0 b)) (Ai ((x.build C 0 b)).blocks) rfl Tryz.func65 Al rfl rfl rfl rfl rfl Ab (Af C w _) (Af C w _) Bz Dn (fun x=>Ac _ x) (fun x=>Ac _ x) rfl (E8 C w n hr x.parts x (Nat.le_refl _) hxo 0 b hP Aa Aa)) ?_;refine wk 7 ?_;refine AOps.call 22 (hn:=Az 2 _ (RH (bL C w ((x.build C 0 b).put (AL e.slot 0))) (Ai (((x.build C 0 b).put (AL e.slot 0))).blocks))) (r:=.tup []) rfl rfl rfl (Am 2 (bL C w (x.build C 0 b)) (bL C w ((x.build C 0 b).put (AL e.slot 0))) (Ai (((x.build C 0 b).put (AL e.slot 0))).blocks) rfl Tryz.func48 Al rfl rfl rfl rfl rfl Ab (Af C w _) (Af C w _) Bz Dn (fun x=>Ac _ x) (fun x=>Ac _ x) rfl (GE C w (x.build C 0 b) z hz Aa e.slot 0)) ?_
  refine an ?_;rw[mz ho hb1.1 hx];exact K1
 refine Ej ?_;have n1:e.kind≠1:=by simpa using hb1
 refine wk 5 ?_;refine asp 23 (fun hb2=>?_) fun hb2=>?_
 .
  refine act ?_;have ho:e.kind=2:=by simpa using hb2
  have hb2:=jm hok ho;obtain⟨x,hx,hxm⟩:=Nk (l:=e.es) Aa;have hxo:=Ht hok hxm;have hPx:Pl (x.build C 0 b):=(B2 x.parts x (Nat.le_refl _) hxo 0 b hP).pl;obtain⟨z,hz⟩:=hPx.cur;have hcx:=B9 (C:=C) x.parts x (Nat.le_refl _) 0 b;have hpx:=B0 hxm;obtain⟨y,hy,hym⟩:=ep (l:=e.es) Aa;have hyo:=Ht hok hym;have hps:CE.partsL e.es=x.parts+y.parts:=by rw[Gz hb2.1 hx hy,CE.partsL,CE.partsL,CE.partsL];omega
  obtain⟨z2,hz2⟩:=(B2 y.parts y (Nat.le_refl _) hyo 1 _ hPx).pl.cur;have hcy:=B9 (C:=C) y.parts y (Nat.le_refl _) 1 (x.build C 0 b);refine wk 7 ?_;refine aq 30 (Ae Aj rfl rfl rfl rfl rfl rfl Ab (IB hx) rfl) ?_;refine AOps.call 31 (hn:=Az 2 _ (RH (bL C w (x.build C 0 b)) (Ai ((x.build C 0 b)).blocks))) (r:=.tup []) rfl rfl rfl (Am 2 (bL C w b) (bL C w (x.build C 0 b)) (Ai ((x.build C 0 b)).blocks) rfl Tryz.func65 Al rfl rfl rfl rfl rfl Ab (Af C w _) (Af C w _) Bz Dn (fun x=>Ac _ x) (fun x=>Ac _ x) rfl (E8 C w n hr x.parts x (Nat.le_refl _) hxo 0 b hP Aa Aa)) ?_;refine wk 8 ?_;refine aq 37 (Ae Aj rfl rfl rfl rfl rfl rfl Ab (XG hy) rfl) ?_;refine AOps.call 38 (hn:=Az 2 _ (RH (bL C w (y.build C 1 (x.build C 0 b))) (Ai ((y.build C 1 (x.build C 0 b))).blocks))) (r:=.tup []) rfl rfl rfl (Am 2 (bL C w (x.build C 0 b)) (bL C w (y.build C 1 (x.build C 0 b))) (Ai ((y.build C 1 (x.build C 0 b))).blocks) rfl Tryz.func65 Al rfl rfl rfl rfl rfl Ab (Af C w _) (Af C w _) Bz Dn (fun x=>Ac _ x) (fun x=>Ac _ x) rfl (E8 C w n hr y.parts y (Nat.le_refl _) hyo 1 _ hPx Aa Aa)) ?_
  refine wk 12 ?_;refine dx 49 (BW C w (y.build C 1 (x.build C 0 b)) ((y.build C 1 (x.build C 0 b)).put (BN 0 1 e.slot e.size)) ((y.build C 1 (x.build C 0 b)).blocks.length+((y.build C 1 (x.build C 0 b)).put (BN 0 1 e.slot e.size)).blocks.length) Aa Aa rfl Tryz.func45 Al rfl rfl rfl Do HW rfl (Eg C w (y.build C 1 (x.build C 0 b)) z2 hz2 (BN 0 1 e.slot e.size) (Int.le_refl 0) (show(0:Int)<=1000000000 by decide) (by have:=DK hz2;omega))) ?_;refine Cc GC [([],[]),([],[]),([],[]),([],[]),([],[]),([],[]),([],[]),([],[]),([],[]),([],[]),([2],[2])] Jb Al ?_;rw[my ho hb2.1 hx hy];exact aF
 refine Ej ?_;have n2:e.kind≠2:=by simpa using hb2
 refine wk 5 ?_;refine asp 50 (fun hb3=>?_) fun hb3=>?_
 .
  refine act ?_;have ho:e.kind=3:=by simpa using hb3
  have hb3:=bW hok (.inl ho);obtain⟨x,hx,hxm⟩:=Nk (l:=e.es) Aa;have hxo:=Ht hok hxm;have hPx:Pl (x.build C 0 b):=(B2 x.parts x (Nat.le_refl _) hxo 0 b hP).pl;obtain⟨z,hz⟩:=hPx.cur;have hcx:=B9 (C:=C) x.parts x (Nat.le_refl _) 0 b;have hpx:=B0 hxm;refine wk 7 ?_;refine aq 57 (Ae Aj rfl rfl rfl rfl rfl rfl Ab (IB hx) rfl) ?_;refine AOps.call 58 (hn:=Az 2 _ (RH (bL C w (x.build C 0 b)) (Ai ((x.build C 0 b)).blocks))) (r:=.tup []) rfl rfl rfl (Am 2 (bL C w b) (bL C w (x.build C 0 b)) (Ai ((x.build C 0 b)).blocks) rfl Tryz.func65 Al rfl rfl rfl rfl rfl Ab (Af C w _) (Af C w _) Bz Dn (fun x=>Ac _ x) (fun x=>Ac _ x) rfl (E8 C w n hr x.parts x (Nat.le_refl _) hxo 0 b hP Aa Aa)) ?_;refine wk 4 ?_;refine AOps.call 61 (hn:=Az 2 _ (RH (bL C w ((x.build C 0 b).put (J8 0))) (Ai (((x.build C 0 b).put (J8 0))).blocks))) (r:=.tup []) rfl rfl rfl (Am 2 (bL C w (x.build C 0 b)) (bL C w ((x.build C 0 b).put (J8 0))) (Ai (((x.build C 0 b).put (J8 0))).blocks) rfl Tryz.func45 Al rfl rfl rfl rfl rfl Ab (Af C w _) (Af C w _) Bz Dn (fun x=>Ac _ x) (fun x=>Ac _ x) rfl (Eg C w (x.build C 0 b) z hz (J8 0) (Int.le_refl 0) (show(0:Int)<=1000000000 by decide) (by have:=DK hz;omega))) ?_
  refine an ?_;rw[mx ho hb3 hx];exact K1
 refine Ej ?_;have n3:e.kind≠3:=by simpa using hb3
 refine wk 5 ?_;refine asp 62 (fun hb4=>?_) fun hb4=>?_
 .
  refine act ?_;have ho:e.kind=6:=by simpa using hb4
  have hb6:=jk hok ho;obtain⟨gf,hb6b⟩:=hb6.2.2;have hlen:=DM e.es;refine wk 10 ?_;refine dx 73 (BW C w b ((CE.buildL C e.es 0 b).called C e.slot e.es.length 0) (b.blocks.length+((CE.buildL C e.es 0 b).called C e.slot e.es.length 0).blocks.length) Aa Aa rfl Tryz.func66 Al rfl rfl rfl Do HW rfl (Ro C w n hr (d:=0) hb6.1 hb6b.1 hb6b.2.2.2 (Za hok) hP Aa Aa (fun x hx=>E8 C w n hr x.parts x (Nat.le_refl _) (Ht hok hx)))) ?_;refine Cc GC [([],[]),([],[]),([],[]),([],[]),([],[]),([],[]),([],[]),([],[]),([],[]),([2],[2])] Jb Al ?_;rw[mu ho];exact aF
 refine Ej ?_;have n6:e.kind≠6:=by simpa using hb4
 refine wk 5 ?_;refine asp 74 (fun hb5=>?_) fun hb5=>?_
 .
  refine act ?_;have ho:e.kind=7:=by simpa using hb5
  have hb7:=jj hok ho;obtain⟨z0,hz0⟩:=hP.cur;refine wk 10 ?_;refine AK (γ:=Bd) (fun q=>⟨112,(Ad AM 0 (pZ 2)),(Az 2 hNone (RH (bL C w q) (Ai q.blocks)))⟩) (fun q=>q.next=e.build C w b/\q.cnt<=80000000) ?_ ?_
  .
   refine asp 81 (fun hb6=>?_) fun hb6=>?_
   .
    refine act ?_;have hl1:e.es.length=1:=by have h:=hb6;simp at h;omega
    obtain⟨x,hx,hxm⟩:=Nk (l:=e.es) Aa;have hxo:=Ht hok hxm;have hPx:Pl (x.build C 0 b):=(B2 x.parts x (Nat.le_refl _) hxo 0 b hP).pl;obtain⟨z,hz⟩:=hPx.cur;have hcx:=B9 (C:=C) x.parts x (Nat.le_refl _) 0 b;have hpx:=B0 hxm;refine wk 7 ?_;refine aq 87 (Ae Aj rfl rfl rfl rfl rfl rfl Ab (IB hx) rfl) ?_;refine AOps.call 88 (hn:=Az 2 _ (RH (bL C w (x.build C 0 b)) (Ai ((x.build C 0 b)).blocks))) (r:=.tup []) rfl rfl rfl (Am 2 (bL C w b) (bL C w (x.build C 0 b)) (Ai ((x.build C 0 b)).blocks) rfl Tryz.func65 Al rfl rfl rfl rfl rfl Ab (Af C w _) (Af C w _) Bz Dn (fun x=>Ac _ x) (fun x=>Ac _ x) rfl (E8 C w n hr x.parts x (Nat.le_refl _) hxo 0 b hP Aa Aa)) ?_;refine wk 7 ?_;refine AOps.call 94 (hn:=Az 2 _ (RH (bL C w ((x.build C 0 b).put (AL C.words 0))) (Ai (((x.build C 0 b).put (AL C.words 0))).blocks))) (r:=.tup []) rfl rfl rfl (Am 2 (bL C w (x.build C 0 b)) (bL C w ((x.build C 0 b).put (AL C.words 0))) (Ai (((x.build C 0 b).put (AL C.words 0))).blocks) rfl Tryz.func48 Al rfl rfl rfl rfl rfl Ab (Af C w _) (Af C w _) Bz Dn (fun x=>Ac _ x) (fun x=>Ac _ x) rfl (GE C w (x.build C 0 b) z hz Aa C.words 0)) ?_
    refine an ?_;exact⟨((x.build C 0 b).put (AL C.words 0)),Sub.mk' AT (B6 rfl Ab Bz Dn),⟨(jt ho hl1 hx).symm,by have:=Bl (x.build C 0 b) (AL C.words 0);omega⟩⟩
   refine Ej ?_;have hl0:e.es.length=0:=by have h:=hb6;simp at h;simp[h]
   refine wk 2 ?_;refine AOps.call 96 (hn:=Az 2 _ (RH (bL C w (b.leave C w)) (Ai ((b.leave C w)).blocks))) (r:=.tup []) rfl rfl rfl (Am 2 (bL C w b) (bL C w (b.leave C w)) (Ai ((b.leave C w)).blocks) rfl Tryz.func29 Al rfl rfl rfl rfl rfl Ab (Af C w _) (Af C w _) Bz Dn (fun x=>Ac _ x) (fun x=>Ac _ x) rfl (OB C w b z0 hz0 Aa)) ?_;refine an ?_;exact⟨(b.leave C w),Sub.mk' AT (B6 rfl Ab Bz Dn),⟨(js ho hl0).symm,by have:=Kg b C w;omega⟩⟩
  intro q hQ;refine wk 3 ?_;refine AOps.call 99 (hn:=Az 2 _ (RH (bL C w q.opened) (Ai (q.opened).blocks))) (r:=.int .i64 (q.blocks.length:Int)) rfl rfl rfl (Am 2 (bL C w q) (bL C w q.opened) (Ai (q.opened).blocks) rfl Tryz.func26 Al rfl rfl rfl rfl rfl Ab (Af C w _) (Af C w _) Bz Dn (fun x=>Ac _ x) (fun x=>Ac _ x) rfl (C3 C w q (by have:=If q;omega))) ?_;refine wk 4 ?_;rw[<-hQ.1];exact K1
 refine Ej ?_;have n7:e.kind≠7:=by simpa using hb5
 refine wk 5 ?_;refine asp 102 (fun hb7=>?_) fun hb7=>?_
 .
  refine act ?_;have ho:e.kind=4:=by simpa using hb7
  refine wk 3 ?_;refine AOps.call 106 (hn:=Az 2 _ (RH (bL C w (e.build C w b)) (Ai ((e.build C w b)).blocks))) (r:=.tup []) rfl rfl rfl (Am 2 (bL C w b) (bL C w (e.build C w b)) (Ai ((e.build C w b)).blocks) rfl Tryz.func67 Al rfl rfl rfl rfl rfl Ab (Af C w _) (Af C w _) Bz Dn (fun x=>Ac _ x) (fun x=>Ac _ x) rfl (h4 ho)) ?_;refine an ?_;exact K1
 refine Ej ?_;have n4:e.kind≠4:=by simpa using hb7
 refine wk 5 ?_;refine asp 107 (fun hb8=>?_) fun hb8=>?_
 .
  refine act ?_;have ho:e.kind=5:=by simpa using hb8
  refine wk 3 ?_;refine AOps.call 111 (hn:=Az 2 _ (RH (bL C w (e.build C w b)) (Ai ((e.build C w b)).blocks))) (r:=.tup []) rfl rfl rfl (Am 2 (bL C w b) (bL C w (e.build C w b)) (Ai ((e.build C w b)).blocks) rfl Tryz.func68 Al rfl rfl rfl rfl rfl Ab (Af C w _) (Af C w _) Bz Dn (fun x=>Ac _ x) (fun x=>Ac _ x) rfl (h5 ho)) ?_;refine an ?_;exact K1
 refine Ej ?_;have n5:e.kind≠5:=by simpa using hb8
 refine eN ?_;exact absurd (ji hok n5 n6 n7).2 Aa
theorem Pv(C:Core)(w:Bool)(b:Bd)(e:CS)(x:CE)(hk:e.kind=4)(hl:e.es.length=1)(hx:e.es[0]?=some x)(hc:(x.build C 0 b).cnt<=80000000)(hV:Ca Tryz.prog 65 [.ptr 2 1 0 0,.loc x.row,.int .i64 ((0:Nat):Int)] (RH (bL C w b) (Ai (b).blocks)) (.tup []) (Az 2 hNone (RH (bL C w (x.build C 0 b)) (Ai ((x.build C 0 b)).blocks))))(hEc:(CS.buildL C w e.els (((x.build C 0 b).opened.opened.opened).go ((x.build C 0 b).blocks.length+2))).cnt<=80000000)(xe:Block)(hxe:e.els≠[]->(CS.buildL C w e.els (((x.build C 0 b).opened.opened.opened).go ((x.build C 0 b).blocks.length+2))).blocks[(CS.buildL C w e.els (((x.build C 0 b).opened.opened.opened).go ((x.build C 0 b).blocks.length+2))).now]?=some xe)(hEls:e.els≠[]->Ca Tryz.prog 28 [.ptr 2 1 0 0,(.lst false (e.els.map CS.cells))] (RH (bL C w (((x.build C 0 b).opened.opened.opened).go ((x.build C 0 b).blocks.length+2))) (Ai ((((x.build C 0 b).opened.opened.opened).go ((x.build C 0 b).blocks.length+2))).blocks)) (.tup []) (Az 2 hNone (RH (bL C w (CS.buildL C w e.els (((x.build C 0 b).opened.opened.opened).go ((x.build C 0 b).blocks.length+2)))) (Ai ((CS.buildL C w e.els (((x.build C 0 b).opened.opened.opened).go ((x.build C 0 b).blocks.length+2)))).blocks))))
 (zq:Block) (hzq:∀q,q=F2 C w e.els (x.build C 0 b)->q.blocks[q.now]?=some zq) (xt:Block) (hxt:∀q,q=F2 C w e.els (x.build C 0 b)->(CS.buildL C w e.thn ((q.fork 0 (x.build C 0 b).blocks.length (CJ e.els (x.build C 0 b))).go (x.build C 0 b).blocks.length)).blocks[(CS.buildL C w e.thn ((q.fork 0 (x.build C 0 b).blocks.length (CJ e.els (x.build C 0 b))).go (x.build C 0 b).blocks.length)).now]?=some xt) (hThn:∀q,q=F2 C w e.els (x.build C 0 b)->Ca Tryz.prog 28 [.ptr 2 1 0 0,(.lst false (e.thn.map CS.cells))] (RH (bL C w ((q.fork 0 (x.build C 0 b).blocks.length (CJ e.els (x.build C 0 b))).go (x.build C 0 b).blocks.length)) (Ai (((q.fork 0 (x.build C 0 b).blocks.length (CJ e.els (x.build C 0 b))).go (x.build C 0 b).blocks.length)).blocks)) (.tup []) (Az 2 hNone (RH (bL C w (CS.buildL C w e.thn ((q.fork 0 (x.build C 0 b).blocks.length (CJ e.els (x.build C 0 b))).go (x.build C 0 b).blocks.length))) (Ai ((CS.buildL C w e.thn ((q.fork 0 (x.build C 0 b).blocks.length (CJ e.els (x.build C 0 b))).go (x.build C 0 b).blocks.length))).blocks)))):Ca Tryz.prog 67 [.ptr 2 1 0 0,.loc e.row] (RH (bL C w b) (Ai (b).blocks)) (.tup []) (Az 2 hNone (RH (bL C w (e.build C w b)) (Ai ((e.build C w b)).blocks))):=by
 have hO:cm (rf 1 [[.ptr 2 1 0 0]]) (rf 1 [[.loc e.row]]) .free:=⟨⟨rfl,rfl,rfl⟩,rfl,rfl,rfl⟩;have hlo:=If (x.build C 0 b);have hol:=Aq (x.build C 0 b);have hol2:=Aq ((x.build C 0 b).opened);refine ACall.of_body (n:=45) Aj Tryz.func67 rfl rfl ?_;refine Rq ?_;refine ax 2 (Ek 1 4) ?_;refine ax 3 (Ek 1 5) ?_;refine wk 8 ?_;refine dq 12 (Ae Aj rfl rfl rfl rfl rfl rfl Ab (IB hx) rfl) ?_;refine dx 13 (BW C w b (x.build C 0 b) (b.blocks.length+(x.build C 0 b).blocks.length) Aa Aa rfl Tryz.func65 Al rfl rfl rfl Do HW rfl (hV)) ?_;refine Cc GC [([4],[]),([5],[]),([],[]),([],[]),([],[]),([],[]),([2],[2])] Jb Al ?_;refine VQ ?_;refine AGo.sub (s':=⟨45,(Ad (Ad AM 2 (pZ 4)) 3 (pZ 5)),(Az 5 hNone (RH (Gl C w (x.build C 0 b) (rf 1 [[.ptr 2 1 0 0]]) (rf 1 [[.loc e.row]]) .free) (Ai ((x.build C 0 b)).blocks)))⟩) (Sub.mk' AT (B6 rfl Ab Do HW)) ?_;refine wk 2 ?_;refine dx 15 (BW C w (x.build C 0 b) ((x.build C 0 b).opened) ((x.build C 0 b).blocks.length+((x.build C 0 b).opened).blocks.length) Aa Aa rfl Tryz.func26 Al rfl rfl rfl Do HW rfl (C3 C w _ Aa)) ?_
 refine dq 16 (BE Aj rfl rfl rfl (.ptr _ _ _ _ _ _ _ _ ((IA Ab).trans rfl) rfl rfl) rfl) ?_;refine dx 17 (BW C w ((x.build C 0 b).opened) ((x.build C 0 b).opened.opened) (((x.build C 0 b).opened).blocks.length+((x.build C 0 b).opened.opened).blocks.length) Aa Aa rfl Tryz.func26 Al rfl rfl rfl Do HW rfl (C3 C w _ Aa)) ?_;refine wk 2 ?_;refine Cc GC [([4],[]),([2],[2]),([4],[]),([2],[2]),([],[]),([],[])] Jb Al ?_;refine VQ ?_;refine AGo.sub (s':=⟨45,(Ad (Ad (Ad (Ad AM 2 (pZ 4)) 3 (pZ 5)) 4 (.int .i64 ((x.build C 0 b).blocks.length:Int))) 5 (.int .i64 (((x.build C 0 b).blocks.length+1:Nat):Int))),(Az 5 hNone (RH (Gl C w ((x.build C 0 b).opened.opened) (rf 1 [[.ptr 2 1 0 0]]) (rf 1 [[.loc e.row]]) .free) (Ai (((x.build C 0 b).opened.opened)).blocks)))⟩) (Sub.mk' fZ (B6 rfl Ab Do HW)) ?_;refine wk 14 ?_;refine AK (γ:=Bd) (fun q=>⟨45,(Ad (Ad (Ad (Ad (Ad AM 2 (pZ 4)) 3 (pZ 5)) 4 (.int .i64 ((x.build C 0 b).blocks.length:Int))) 5 (.int .i64 (((x.build C 0 b).blocks.length+1:Nat):Int))) 6 (.int .i64 ((CJ e.els (x.build C 0 b):Nat):Int))),(Az 5 hNone (RH (Gl C w q (rf 1 [[.ptr 2 1 0 0]]) (rf 1 [[.loc e.row]]) .free) (Ai (q).blocks)))⟩) (fun q=>q=F2 C w e.els (x.build C 0 b)) ?_ ?_
 .
  refine asp 24 (fun hb1=>?_) fun hb1=>?_
  .
   refine act ?_;have hne:e.els≠[]:=by have h:=hb1;simp at h;intro e0;rw[e0]at h;simp at h
   refine wk 3 ?_;refine AOps.call 26 (hn:=Az 2 _ (RH (bL C w ((x.build C 0 b).opened.opened.opened)) (Ai (((x.build C 0 b).opened.opened.opened)).blocks))) (r:=.int .i64 (((x.build C 0 b).opened.opened).blocks.length:Int)) rfl rfl rfl (Am 2 (bL C w ((x.build C 0 b).opened.opened)) (bL C w ((x.build C 0 b).opened.opened.opened)) (Ai (((x.build C 0 b).opened.opened.opened)).blocks) rfl Tryz.func26 Al rfl rfl rfl rfl rfl Ab (Af C w _) (Af C w _) Do HW (fun x=>Ac _ x) (fun x=>Ac _ x) rfl (C3 C w _ Aa)) ?_;refine wk 2 ?_;refine AGo.sub (s':=⟨45,(Ad (Ad (Ad (Ad (Ad AM 2 (pZ 4)) 3 (pZ 5)) 4 (.int .i64 ((x.build C 0 b).blocks.length:Int))) 5 (.int .i64 (((x.build C 0 b).blocks.length+1:Nat):Int))) 6 (.int .i64 (((x.build C 0 b).blocks.length+2:Nat):Int))),(Az 5 hNone (RH (Gl C w ((x.build C 0 b).opened.opened.opened) (rf 1 [[.ptr 2 1 0 0]]) (rf 1 [[.loc e.row]]) .free) (Ai (((x.build C 0 b).opened.opened.opened)).blocks)))⟩) (Sub.mk' (by repeat(first|exact ESub.new _|refine ESub.put ?_ (by first|rfl|exact congrArg (fun n:Nat=>some (AV.int .i64 (n:Int))) (show((x.build C 0 b).opened.opened).blocks.length=(x.build C 0 b).blocks.length+2 by omega)))) (B6 rfl Ab Do HW)) ?_
   refine wk 4 ?_;refine aq 30 (Eu rfl rfl rfl) ?_;have hnn:((x.build C 0 b).opened.opened).blocks.length=(x.build C 0 b).blocks.length+2:=by omega
   refine AOps.call 31 (hn:=Az 5 _ (RH (Gl C w (((CS.buildL C w e.els (((x.build C 0 b).opened.opened.opened).go ((x.build C 0 b).blocks.length+2))).jump ((x.build C 0 b).blocks.length+1)).go (((x.build C 0 b).opened.opened.opened)).now) (rf 1 [[.ptr 2 1 0 0]]) (rf 1 [[.loc e.row]]) .free) (Ai (((CS.buildL C w e.els (((x.build C 0 b).opened.opened.opened).go ((x.build C 0 b).blocks.length+2))).jump ((x.build C 0 b).blocks.length+1))).blocks))) (r:=.tup []) rfl rfl rfl (Am 5 (Gl C w (((x.build C 0 b).opened.opened.opened)) (rf 1 [[.ptr 2 1 0 0]]) (rf 1 [[.loc e.row]]) .free) (Gl C w (((CS.buildL C w e.els (((x.build C 0 b).opened.opened.opened).go ((x.build C 0 b).blocks.length+2))).jump ((x.build C 0 b).blocks.length+1)).go (((x.build C 0 b).opened.opened.opened)).now) (rf 1 [[.ptr 2 1 0 0]]) (rf 1 [[.loc e.row]]) .free) (Ai ((CS.buildL C w e.els (((x.build C 0 b).opened.opened.opened).go ((x.build C 0 b).blocks.length+2))).jump ((x.build C 0 b).blocks.length+1)).blocks) rfl Tryz.func91 Al rfl rfl rfl rfl rfl Ab (C9 C w _ hO) (C9 C w _ hO) Do HW (fun x=>Ac _ x) (fun x=>Ac _ x) rfl (FO C w (((x.build C 0 b).opened.opened.opened)) (rf 1 [[.ptr 2 1 0 0]]) (rf 1 [[.loc e.row]]) .free hO ((x.build C 0 b).blocks.length+2) (((x.build C 0 b).blocks.length+1)) 92 _ Tryz.func92 Al rfl [.ptr 4 1 0 0,.ptr 5 1 0 0] rfl (CS.buildL C w e.els (((x.build C 0 b).opened.opened.opened).go ((x.build C 0 b).blocks.length+2))) xe (hxe hne) (S5 C w _ e (hEls hne)))) ?_
   refine an ?_;exact⟨(((CS.buildL C w e.els (((x.build C 0 b).opened.opened.opened).go ((x.build C 0 b).blocks.length+2))).jump ((x.build C 0 b).blocks.length+1)).go ((x.build C 0 b).opened.opened.opened).now),Sub.mk' gg (B6 rfl Ab Do HW),(by unfold F2;rw[if_neg hne];rfl)⟩
  refine Ej ?_;have he0:e.els=[]:=by have h:=hb1;simp at h;first|exact h|exact List.length_eq_zero_iff.1 Aa
  refine eN ?_;exact⟨((x.build C 0 b).opened.opened),Sub.mk' gg (B6 rfl Ab Do HW),(by unfold F2;rw[if_pos he0])⟩
 intro q hq;have hzq2:=hzq q hq;have hxt2:=hxt q hq;have hThn2:=hThn q hq;refine wk 5 ?_;refine AOps.call 35 (hn:=Az 2 _ (RH (bL C w (q.fork 0 (x.build C 0 b).blocks.length (CJ e.els (x.build C 0 b)))) (Ai ((q.fork 0 (x.build C 0 b).blocks.length (CJ e.els (x.build C 0 b)))).blocks))) (r:=.tup []) rfl rfl rfl (Am 2 (bL C w q) (bL C w (q.fork 0 (x.build C 0 b).blocks.length (CJ e.els (x.build C 0 b)))) (Ai ((q.fork 0 (x.build C 0 b).blocks.length (CJ e.els (x.build C 0 b)))).blocks) rfl Tryz.func47 Al rfl rfl rfl rfl rfl Ab (Af C w _) (Af C w _) Do HW (fun x=>Ac _ x) (fun x=>Ac _ x) rfl (HQ C w q zq hzq2 0 (x.build C 0 b).blocks.length (CJ e.els (x.build C 0 b)))) ?_;refine wk 6 ?_;refine aq 39 (Eu rfl rfl rfl) ?_;refine AOps.call 40 (hn:=Az 5 _ (RH (Gl C w (((CS.buildL C w e.thn ((q.fork 0 (x.build C 0 b).blocks.length (CJ e.els (x.build C 0 b))).go (x.build C 0 b).blocks.length)).jump ((x.build C 0 b).blocks.length+1)).go ((q.fork 0 (x.build C 0 b).blocks.length (CJ e.els (x.build C 0 b)))).now) (rf 1 [[.ptr 2 1 0 0]]) (rf 1 [[.loc e.row]]) .free) (Ai (((CS.buildL C w e.thn ((q.fork 0 (x.build C 0 b).blocks.length (CJ e.els (x.build C 0 b))).go (x.build C 0 b).blocks.length)).jump ((x.build C 0 b).blocks.length+1))).blocks))) (r:=.tup []) rfl rfl rfl (Am 5 (Gl C w ((q.fork 0 (x.build C 0 b).blocks.length (CJ e.els (x.build C 0 b)))) (rf 1 [[.ptr 2 1 0 0]]) (rf 1 [[.loc e.row]]) .free) (Gl C w (((CS.buildL C w e.thn ((q.fork 0 (x.build C 0 b).blocks.length (CJ e.els (x.build C 0 b))).go (x.build C 0 b).blocks.length)).jump ((x.build C 0 b).blocks.length+1)).go ((q.fork 0 (x.build C 0 b).blocks.length (CJ e.els (x.build C 0 b)))).now) (rf 1 [[.ptr 2 1 0 0]]) (rf 1 [[.loc e.row]]) .free) (Ai ((CS.buildL C w e.thn ((q.fork 0 (x.build C 0 b).blocks.length (CJ e.els (x.build C 0 b))).go (x.build C 0 b).blocks.length)).jump ((x.build C 0 b).blocks.length+1)).blocks) rfl Tryz.func91 Al rfl rfl rfl rfl rfl Ab (C9 C w _ hO) (C9 C w _ hO) Do HW (fun x=>Ac _ x) (fun x=>Ac _ x) rfl (FO C w ((q.fork 0 (x.build C 0 b).blocks.length (CJ e.els (x.build C 0 b)))) (rf 1 [[.ptr 2 1 0 0]]) (rf 1 [[.loc e.row]]) .free hO ((x.build C 0 b).blocks.length) (((x.build C 0 b).blocks.length+1)) 93 _ Tryz.func93 Al rfl [.ptr 4 1 0 0,.ptr 5 1 0 0] rfl (CS.buildL C w e.thn ((q.fork 0 (x.build C 0 b).blocks.length (CJ e.els (x.build C 0 b))).go (x.build C 0 b).blocks.length)) xt hxt2 (S4 C w _ e hThn2))) ?_
 refine wk 8 ?_;have e1:e.build C w b=(((CS.buildL C w e.thn ((q.fork 0 (x.build C 0 b).blocks.length (CJ e.els (x.build C 0 b))).go (x.build C 0 b).blocks.length)).jump ((x.build C 0 b).blocks.length+1)).go (q.fork 0 (x.build C 0 b).blocks.length (CJ e.els (x.build C 0 b))).now).go ((x.build C 0 b).blocks.length+1):=by rw[mw hk hl hx,hq];rfl
 rw[e1];exact aF
theorem Xu(C:Core)(w:Bool)(b:Bd):Ca Tryz.prog 94 ([]++[]++[]) (RH (Gl C w b .free .free .free) (Ai (b).blocks)) (.tup []) (Az 5 hNone (RH (Gl C w b .free .free .free) (Ai (b).blocks))):=by
 refine ACall.of_body (n:=0) Aj Tryz.func94 rfl rfl ?_;refine eN ?_;exact K1
theorem Xv(C:Core)(w:Bool)(b:Bd)(x0:Block)(hx0:((b.opened.opened.opened).go b.now).blocks[((b.opened.opened.opened).go b.now).now]?=some x0):Ca Tryz.prog 91 [.ptr 2 1 0 0,.int .i64 (b.now:Int),.int .i64 (b.blocks.length:Int),.fn (.func 94) [] []] (RH (bL C w (b.opened.opened.opened)) (Ai ((b.opened.opened.opened)).blocks)) (.tup []) (Az 2 hNone (RH (bL C w ((((b.opened.opened.opened).go b.now).jump b.blocks.length).go (b.opened.opened.opened).now)) (Ai (((((b.opened.opened.opened).go b.now).jump b.blocks.length).go (b.opened.opened.opened).now)).blocks))):=by
 have h:=FO C w (b.opened.opened.opened) .free .free .free ⟨⟨rfl,rfl,rfl⟩,rfl,rfl,rfl⟩ b.now b.blocks.length 94 _ Tryz.func94 Al rfl [] rfl ((b.opened.opened.opened).go b.now) x0 hx0 (Xu C w ((b.opened.opened.opened).go b.now));rw[Rp,Rp]at h;exact h.mono fun r h' hr=>⟨hr.1,UU hr.2⟩
theorem Tc(C:Core)(w:Bool)(b:Bd)(e:CS)(x:CE)(hk:e.kind=5)(hl:e.es.length=1)(hx:e.es[0]?=some x)(hc:b.cnt<=70000000)(hlt:b.now<b.blocks.length)(x0:Block)(hx0:((b.opened.opened.opened).go b.now).blocks[((b.opened.opened.opened).go b.now).now]?=some x0)(hV:Ca Tryz.prog 65 [.ptr 2 1 0 0,.loc x.row,.int .i64 ((0:Nat):Int)] (RH (bL C w (((((b.opened.opened.opened).go b.now).jump b.blocks.length).go b.now).go b.blocks.length)) (Ai ((((((b.opened.opened.opened).go b.now).jump b.blocks.length).go b.now).go b.blocks.length)).blocks)) (.tup []) (Az 2 hNone (RH (bL C w (x.build C 0 (((((b.opened.opened.opened).go b.now).jump b.blocks.length).go b.now).go b.blocks.length))) (Ai ((x.build C 0 (((((b.opened.opened.opened).go b.now).jump b.blocks.length).go b.now).go b.blocks.length))).blocks))))(zx:Block)(hzx:(x.build C 0 (((((b.opened.opened.opened).go b.now).jump b.blocks.length).go b.now).go b.blocks.length)).blocks[(x.build C 0 (((((b.opened.opened.opened).go b.now).jump b.blocks.length).go b.now).go b.blocks.length)).now]?=some zx)(xt:Block)(hxt:(CS.buildL C w e.thn (((x.build C 0 (((((b.opened.opened.opened).go b.now).jump b.blocks.length).go b.now).go b.blocks.length)).fork 0 (b.blocks.length+1) (b.blocks.length+2)).go (b.blocks.length+1))).blocks[(CS.buildL C w e.thn (((x.build C 0 (((((b.opened.opened.opened).go b.now).jump b.blocks.length).go b.now).go b.blocks.length)).fork 0 (b.blocks.length+1) (b.blocks.length+2)).go (b.blocks.length+1))).now]?=some xt)(hThn:Ca Tryz.prog 28 [.ptr 2 1 0 0,(.lst false (e.thn.map CS.cells))] (RH (bL C w (((x.build C 0 (((((b.opened.opened.opened).go b.now).jump b.blocks.length).go b.now).go b.blocks.length)).fork 0 (b.blocks.length+1) (b.blocks.length+2)).go (b.blocks.length+1))) (Ai ((((x.build C 0 (((((b.opened.opened.opened).go b.now).jump b.blocks.length).go b.now).go b.blocks.length)).fork 0 (b.blocks.length+1) (b.blocks.length+2)).go (b.blocks.length+1))).blocks)) (.tup []) (Az 2 hNone (RH (bL C w (CS.buildL C w e.thn (((x.build C 0 (((((b.opened.opened.opened).go b.now).jump b.blocks.length).go b.now).go b.blocks.length)).fork 0 (b.blocks.length+1) (b.blocks.length+2)).go (b.blocks.length+1)))) (Ai ((CS.buildL C w e.thn (((x.build C 0 (((((b.opened.opened.opened).go b.now).jump b.blocks.length).go b.now).go b.blocks.length)).fork 0 (b.blocks.length+1) (b.blocks.length+2)).go (b.blocks.length+1)))).blocks)))):Ca Tryz.prog 68 [.ptr 2 1 0 0,.loc e.row] (RH (bL C w b) (Ai (b).blocks)) (.tup []) (Az 2 hNone (RH (bL C w (e.build C w b)) (Ai ((e.build C w b)).blocks))):=by
 have hO:cm (rf 1 [[.ptr 2 1 0 0]]) (rf 1 [[.loc e.row]]) .free:=⟨⟨rfl,rfl,rfl⟩,rfl,rfl,rfl⟩;have hlo:=If b;have hol:=Aq b;have hol2:=Aq (b.opened);have hol3:=Aq (b.opened.opened);refine ACall.of_body (n:=44) Aj Tryz.func68 rfl rfl ?_;refine Rq ?_;refine ax 2 (Ek 1 4) ?_;refine ax 3 (Ek 1 5) ?_;refine wk 4 ?_;refine dx 8 (BW C w b (b.opened) (b.blocks.length+(b.opened).blocks.length) Aa Aa rfl Tryz.func26 Al rfl rfl rfl Do HW rfl (C3 C w _ Aa)) ?_;refine dq 9 (BE Aj rfl rfl rfl (.ptr _ _ _ _ _ _ _ _ ((IA Ab).trans rfl) rfl rfl) rfl) ?_;refine dx 10 (BW C w (b.opened) (b.opened.opened) ((b.opened).blocks.length+(b.opened.opened).blocks.length) Aa Aa rfl Tryz.func26 Al rfl rfl rfl Do HW rfl (C3 C w _ Aa)) ?_;refine dq 11 (BE Aj rfl rfl rfl (.ptr _ _ _ _ _ _ _ _ ((Fx Ab Ab Ab).trans ((Fx Ab Ab Ab).trans rfl)) rfl rfl) rfl) ?_;refine dx 12 (BW C w (b.opened.opened) (b.opened.opened.opened) ((b.opened.opened).blocks.length+(b.opened.opened.opened).blocks.length) Aa Aa rfl Tryz.func26 Al rfl rfl rfl mM mN rfl (C3 C w _ Aa)) ?_
 refine wk 3 ?_;refine Cc GC [([4],[]),([2],[2]),([4],[]),([2],[2]),([4],[]),([2],[2]),([],[]),([],[]),([],[])] Jb Al ?_;refine VQ ?_;refine AGo.sub (s':=⟨44,(Ad (Ad (Ad (Ad (Ad AM 2 (pZ 4)) 3 (pZ 5)) 4 (iN b.blocks.length)) 5 (.int .i64 ((b.blocks.length+1:Nat):Int))) 6 (.int .i64 ((b.blocks.length+2:Nat):Int))),(Az 5 hNone (RH (Gl C w (b.opened.opened.opened) (rf 1 [[.ptr 2 1 0 0]]) (rf 1 [[.loc e.row]]) .free) (Ai ((b.opened.opened.opened)).blocks)))⟩) (Sub.mk' (by repeat(first|exact ESub.new _|refine ESub.put ?_ (by first|rfl|exact congrArg (fun n:Nat=>some (AV.int .i64 (n:Int))) Aa))) (B6 rfl Ab mM mN)) ?_;refine wk 7 ?_;refine dx 19 (BW C w (b.opened.opened.opened) ((((b.opened.opened.opened).go b.now).jump b.blocks.length).go b.now) ((b.opened.opened.opened).blocks.length+((((b.opened.opened.opened).go b.now).jump b.blocks.length).go b.now).blocks.length) Aa Aa rfl Tryz.func91 Al rfl rfl rfl Do HW rfl (Xv C w b x0 hx0)) ?_
 refine Cc GC [([4],[]),([4],[]),([],[]),([],[]),([2],[]),([],[]),([2],[2])] Jb Al ?_;refine VQ ?_;refine AGo.sub (s':=⟨44,(Ad (Ad (Ad (Ad (Ad AM 2 (pZ 4)) 3 (pZ 5)) 4 (iN b.blocks.length)) 5 (.int .i64 ((b.blocks.length+1:Nat):Int))) 6 (.int .i64 ((b.blocks.length+2:Nat):Int))),(Az 5 hNone (RH (Gl C w ((((b.opened.opened.opened).go b.now).jump b.blocks.length).go b.now) (rf 1 [[.ptr 2 1 0 0]]) (rf 1 [[.loc e.row]]) .free) (Ai (((((b.opened.opened.opened).go b.now).jump b.blocks.length).go b.now)).blocks)))⟩) (Sub.mk' AT (B6 rfl Ab Do HW)) ?_;refine wk 8 ?_;refine AGo.sub (s':=⟨44,(Ad (Ad (Ad (Ad (Ad AM 2 (pZ 4)) 3 (pZ 5)) 4 (iN b.blocks.length)) 5 (.int .i64 ((b.blocks.length+1:Nat):Int))) 6 (.int .i64 ((b.blocks.length+2:Nat):Int))),(Az 5 hNone (RH (Gl C w (((((b.opened.opened.opened).go b.now).jump b.blocks.length).go b.now).go b.blocks.length) (rf 1 [[.ptr 2 1 0 0]]) (rf 1 [[.loc e.row]]) .free) (Ai ((((((b.opened.opened.opened).go b.now).jump b.blocks.length).go b.now).go b.blocks.length)).blocks)))⟩) (Sub.mk' AT (B6 rfl Ab Do HW)) ?_
 refine wk 6 ?_;refine dq 29 (Ae Aj rfl rfl rfl rfl rfl rfl Ab (IB hx) rfl) ?_;refine dx 30 (BW C w (((((b.opened.opened.opened).go b.now).jump b.blocks.length).go b.now).go b.blocks.length) (x.build C 0 (((((b.opened.opened.opened).go b.now).jump b.blocks.length).go b.now).go b.blocks.length)) ((((((b.opened.opened.opened).go b.now).jump b.blocks.length).go b.now).go b.blocks.length).blocks.length+(x.build C 0 (((((b.opened.opened.opened).go b.now).jump b.blocks.length).go b.now).go b.blocks.length)).blocks.length) Aa Aa rfl Tryz.func65 Al rfl rfl rfl Do HW rfl (hV)) ?_;refine Cc GC [([4],[]),([5],[]),([],[]),([],[]),([],[]),([],[]),([2],[2])] Jb Al ?_;refine VQ ?_;refine AGo.sub (s':=⟨44,(Ad (Ad (Ad (Ad (Ad AM 2 (pZ 4)) 3 (pZ 5)) 4 (iN b.blocks.length)) 5 (.int .i64 ((b.blocks.length+1:Nat):Int))) 6 (.int .i64 ((b.blocks.length+2:Nat):Int))),(Az 5 hNone (RH (Gl C w (x.build C 0 (((((b.opened.opened.opened).go b.now).jump b.blocks.length).go b.now).go b.blocks.length)) (rf 1 [[.ptr 2 1 0 0]]) (rf 1 [[.loc e.row]]) .free) (Ai ((x.build C 0 (((((b.opened.opened.opened).go b.now).jump b.blocks.length).go b.now).go b.blocks.length))).blocks)))⟩) (Sub.mk' AT (B6 rfl Ab Do HW)) ?_
 refine wk 4 ?_;refine AOps.call 34 (hn:=Az 2 _ (RH (bL C w ((x.build C 0 (((((b.opened.opened.opened).go b.now).jump b.blocks.length).go b.now).go b.blocks.length)).fork 0 (b.blocks.length+1) (b.blocks.length+2))) (Ai (((x.build C 0 (((((b.opened.opened.opened).go b.now).jump b.blocks.length).go b.now).go b.blocks.length)).fork 0 (b.blocks.length+1) (b.blocks.length+2))).blocks))) (r:=.tup []) rfl rfl rfl (Am 2 (bL C w (x.build C 0 (((((b.opened.opened.opened).go b.now).jump b.blocks.length).go b.now).go b.blocks.length))) (bL C w ((x.build C 0 (((((b.opened.opened.opened).go b.now).jump b.blocks.length).go b.now).go b.blocks.length)).fork 0 (b.blocks.length+1) (b.blocks.length+2))) (Ai (((x.build C 0 (((((b.opened.opened.opened).go b.now).jump b.blocks.length).go b.now).go b.blocks.length)).fork 0 (b.blocks.length+1) (b.blocks.length+2))).blocks) rfl Tryz.func47 Al rfl rfl rfl rfl rfl Ab (Af C w _) (Af C w _) Do HW (fun x=>Ac _ x) (fun x=>Ac _ x) rfl (HQ C w (x.build C 0 (((((b.opened.opened.opened).go b.now).jump b.blocks.length).go b.now).go b.blocks.length)) zx hzx 0 (b.blocks.length+1) (b.blocks.length+2))) ?_
 refine wk 6 ?_;refine aq 38 (Eu rfl rfl rfl) ?_;refine AOps.call 39 (hn:=Az 5 _ (RH (Gl C w (((CS.buildL C w e.thn (((x.build C 0 (((((b.opened.opened.opened).go b.now).jump b.blocks.length).go b.now).go b.blocks.length)).fork 0 (b.blocks.length+1) (b.blocks.length+2)).go (b.blocks.length+1))).jump b.blocks.length).go (((x.build C 0 (((((b.opened.opened.opened).go b.now).jump b.blocks.length).go b.now).go b.blocks.length)).fork 0 (b.blocks.length+1) (b.blocks.length+2))).now) (rf 1 [[.ptr 2 1 0 0]]) (rf 1 [[.loc e.row]]) .free) (Ai (((CS.buildL C w e.thn (((x.build C 0 (((((b.opened.opened.opened).go b.now).jump b.blocks.length).go b.now).go b.blocks.length)).fork 0 (b.blocks.length+1) (b.blocks.length+2)).go (b.blocks.length+1))).jump b.blocks.length)).blocks))) (r:=.tup []) rfl rfl rfl (Am 5 (Gl C w (((x.build C 0 (((((b.opened.opened.opened).go b.now).jump b.blocks.length).go b.now).go b.blocks.length)).fork 0 (b.blocks.length+1) (b.blocks.length+2))) (rf 1 [[.ptr 2 1 0 0]]) (rf 1 [[.loc e.row]]) .free) (Gl C w (((CS.buildL C w e.thn (((x.build C 0 (((((b.opened.opened.opened).go b.now).jump b.blocks.length).go b.now).go b.blocks.length)).fork 0 (b.blocks.length+1) (b.blocks.length+2)).go (b.blocks.length+1))).jump b.blocks.length).go (((x.build C 0 (((((b.opened.opened.opened).go b.now).jump b.blocks.length).go b.now).go b.blocks.length)).fork 0 (b.blocks.length+1) (b.blocks.length+2))).now) (rf 1 [[.ptr 2 1 0 0]]) (rf 1 [[.loc e.row]]) .free) (Ai ((CS.buildL C w e.thn (((x.build C 0 (((((b.opened.opened.opened).go b.now).jump b.blocks.length).go b.now).go b.blocks.length)).fork 0 (b.blocks.length+1) (b.blocks.length+2)).go (b.blocks.length+1))).jump b.blocks.length).blocks) rfl Tryz.func91 Al rfl rfl rfl rfl rfl Ab (C9 C w _ hO) (C9 C w _ hO) Do HW (fun x=>Ac _ x) (fun x=>Ac _ x) rfl (FO C w (((x.build C 0 (((((b.opened.opened.opened).go b.now).jump b.blocks.length).go b.now).go b.blocks.length)).fork 0 (b.blocks.length+1) (b.blocks.length+2))) (rf 1 [[.ptr 2 1 0 0]]) (rf 1 [[.loc e.row]]) .free hO (b.blocks.length+1) (b.blocks.length) 95 _ Tryz.func95 Al rfl [.ptr 4 1 0 0,.ptr 5 1 0 0] rfl (CS.buildL C w e.thn (((x.build C 0 (((((b.opened.opened.opened).go b.now).jump b.blocks.length).go b.now).go b.blocks.length)).fork 0 (b.blocks.length+1) (b.blocks.length+2)).go (b.blocks.length+1))) xt hxt (Xt C w _ e hThn))) ?_
 refine wk 8 ?_;have e1:e.build C w b=(((CS.buildL C w e.thn (((x.build C 0 (((((b.opened.opened.opened).go b.now).jump b.blocks.length).go b.now).go b.blocks.length)).fork 0 (b.blocks.length+1) (b.blocks.length+2)).go (b.blocks.length+1))).jump b.blocks.length).go ((x.build C 0 (((((b.opened.opened.opened).go b.now).jump b.blocks.length).go b.now).go b.blocks.length)).fork 0 (b.blocks.length+1) (b.blocks.length+2)).now).go (b.blocks.length+2):=by rw[mv hk hl hx];rfl
 rw[e1];exact aF
theorem Ki(C:Core)(w:Bool)(n:Nat)(l:List CS)(hS:∀x∈l,∀(b:Bd),Pl b->b.cnt+11*x.parts<=70000000->ACall Tryz.prog 49 [.ptr 2 1 0 0,.loc x.row] (RH (bL C w b) (Ai (b).blocks)) (fun r h'=>r=.tup []/\HSub (Az 2 hNone (RH (bL C w (x.build C w b)) (Ai ((x.build C w b)).blocks))) h'))(hok:CS.okL C n w l)(hlen:l.length*96<=reachBytes)(b:Bd)(hP:Pl b)(hc:b.cnt+11*CS.partsL l<=70000000):ACall Tryz.prog 28 [.ptr 2 1 0 0,(.lst false (l.map CS.cells))] (RH (bL C w b) (Ai (b).blocks)) (fun r h'=>r=.tup []/\HSub (Az 2 hNone (RH (bL C w (CS.buildL C w l b)) (Ai ((CS.buildL C w l b)).blocks))) h'):=by
 refine Rk C w b l (Xy hlen) fun k x hx=>hS x (List.mem_of_getElem? hx) _ (Hr (NE k hok) hP) ?_
 have h1:=Jj hx;have h2:=R6 (l:=l) (k+1);have h3:=Ez (C:=C) (w:=w) (l:=l.take k) (fun e _=>FL e.parts e (Nat.le_refl _)) b;omega
theorem MX(C:Core)(w:Bool)(n:Nat)(hr:M8 C):∀(m:Nat) (e:CS),e.parts<=m->e.ok C n w->e.Ok->∀(b:Bd),Pl b->b.cnt+11*e.parts<=70000000->ACall Tryz.prog 49 [.ptr 2 1 0 0,.loc e.row] (RH (bL C w b) (Ai (b).blocks)) (fun r h'=>r=.tup []/\HSub (Az 2 hNone (RH (bL C w (e.build C w b)) (Ai ((e.build C w b)).blocks))) h')
 |0,e,hm,_,_,_,_,_=>absurd hm (by have:=C6 e;omega)
 |m+1,e,hm,ho,hk,b,hP,hc=>by
  have hpe:=C6 e;have hT:=Ki C w n e.thn (fun x hx=>MX C w n hr m x (by have:=CD hx;omega) (LD (K4 ho) hx) (hk.thnOk.1 x hx)) (K4 ho) hk.thnOk.2;have hL:=Ki C w n e.els (fun x hx=>MX C w n hr m x (by have:=CD hx;omega) (LD (K5 ho) hx) (hk.elsOk.1 x hx)) (K5 ho) hk.elsOk.2;refine Ta C w b n hr e ho hP hc Aa (fun h4=>?_) (fun h5=>?_)
  . have hl:=bW ho (.inr h4);obtain⟨x,hx,hxm⟩:=Nk (l:=e.es) Aa;have hxo:=Ht ho hxm;have hpx:=B0 hxm;have hPx:Pl (x.build C 0 b):=(B2 x.parts x (Nat.le_refl _) hxo 0 b hP).pl;have c1:=B9 (C:=C) x.parts x (Nat.le_refl _) 0 b;have hPe:Pl ((x.build C 0 b).opened.opened.opened.go ((x.build C 0 b).blocks.length+2)):=Lg (J4 _);have c2:=Ez (C:=C) (w:=w) (l:=e.els) (fun e _=>FL e.parts e (Nat.le_refl _)) ((x.build C 0 b).opened.opened.opened.go ((x.build C 0 b).blocks.length+2));rw[B8,A0,A0,A0]at c2;obtain⟨xe,hxe⟩:=(Hr (K5 ho) hPe).cur;obtain⟨q1,⟨zq,q2⟩,q3,q4⟩:=X0 (C:=C) (n:=n) (w:=w) (K5 ho) hPx;have hne:(x.build C 0 b).blocks.length≠(F2 C w e.els (x.build C 0 b)).now:=by have:=hPx.lt;omega
    have hPt:=J9 (v:=0) (to:=(x.build C 0 b).blocks.length) (els:=CJ e.els (x.build C 0 b)) q3 hne;obtain⟨xt,hxt⟩:=(Hr (K4 ho) hPt).cur;exact Pv C w b e x h4 hl hx Aa (E8 C w n hr x.parts x (Nat.le_refl _) hxo 0 b hP Aa Aa) Aa xe (fun _=>hxe) (fun _=>hL _ hPe (by rw[B8,A0,A0,A0];omega))
     zq (fun q hq=>by rw[hq,q1];exact q2) xt (fun q hq=>by rw[hq];exact hxt) (fun q hq=>by rw[hq];exact hT _ hPt (by rw[B8,EN];omega))
  . have hl:=jl ho h5;obtain⟨x,hx,hxm⟩:=Nk (l:=e.es) Aa;have hxo:=Ht ho hxm;have hpx:=B0 hxm;have hlt:=hP.lt;obtain⟨x0,hx0⟩:=hP.cur;have hl3:b.opened.opened.opened.blocks.length=b.blocks.length+3:=by rw[Aq,Aq,Aq]
    have hG0:(((b.opened.opened.opened.go b.now).jump b.blocks.length).go b.now).blocks[b.blocks.length]?=some blk0:=J6 (q:=b.opened.opened.opened.go b.now) (QH b) PR;have hG1:(((b.opened.opened.opened.go b.now).jump b.blocks.length).go b.now).blocks[b.blocks.length+1]?=some blk0:=J6 (q:=b.opened.opened.opened.go b.now) (U2 b) (by show b.blocks.length+1≠b.now;omega);have hPG:=Lg hG0;have hcx:=B2 x.parts x (Nat.le_refl _) hxo 0 _ hPG;have c1:=B9 (C:=C) x.parts x (Nat.le_refl _) 0 ((((b.opened.opened.opened.go b.now).jump b.blocks.length).go b.now).go b.blocks.length);rw[B8,B8,JJ,B8,A0,A0,A0]at c1;obtain⟨zx,hzx⟩:=hcx.pl.cur;have hfr:=hcx.fr.old (b.blocks.length+1) blk0 (by show b.blocks.length+1≠b.blocks.length;omega) hG1;have hnow:=hcx.fr.now;have hGl:((((b.opened.opened.opened.go b.now).jump b.blocks.length).go b.now).go b.blocks.length).blocks.length=b.blocks.length+3:=by
     show(b.opened.opened.opened.blocks.modify b.now _).length=_;rw[List.length_modify];exact hl3
    have hne:b.blocks.length+1≠(x.build C 0 ((((b.opened.opened.opened.go b.now).jump b.blocks.length).go b.now).go b.blocks.length)).now:=by
     rcases hnow with h|h
     . rw[h];show b.blocks.length+1≠b.blocks.length;omega
     . rw[hGl]at h;omega
    have hPt:=J9 (v:=0) (to:=b.blocks.length+1) (els:=b.blocks.length+2) hfr hne;obtain⟨xt,hxt⟩:=(Hr (K4 ho) hPt).cur;exact Tc C w b e x h5 hl hx Aa hlt x0 (by show b.opened.opened.opened.blocks[b.now]?=_;rw[AF PQ,AF EZ,AF hlt];exact hx0)
     (E8 C w n hr x.parts x (Nat.le_refl _) hxo 0 _ hPG (by rw[B8,B8,JJ,B8,A0,A0,A0];omega) Aa) zx hzx xt hxt (hT _ hPt (by rw[B8,EN];omega))
theorem Tb(C:Core)(w:Bool)(b:Bd)(a to:Int)(hb:b.Cur)(ha:0<=a)(ha2:a<=1000000)(hto:to<=1000000)(hto0:0<=to)(hc:b.cnt<=50000000):Ca Tryz.prog 27 [.ptr 2 1 0 0,.int .i64 a,.int .i64 to] (RH (bL C w b) (Ai (b).blocks)) (.tup []) (Az 2 hNone (RH (bL C w (b.nought a (to-a).toNat)) (Ai ((b.nought a (to-a).toNat)).blocks))):=by
 obtain⟨x,hx⟩:=id hb;refine ACall.of_body (n:=80) Aj Tryz.func27 rfl rfl ?_;refine wk 7 ?_;refine asp 12 (fun hb1=>?_) fun hb1=>?_
 .
  refine wk 2 ?_;rw[SA b a (show(to-a).toNat=0 by have h:=hb1;simp at h;omega)];exact K1
 refine Ej ?_;have hlt:a<to:=by have h:=hb1;simp at h;omega
 refine wk 4 ?_;refine AOps.call 14 (hn:=Az 2 _ (RH (bL C w (b.put (AY 0 0))) (Ai ((b.put (AY 0 0))).blocks))) (r:=.tup []) rfl rfl rfl (Am 2 (bL C w b) (bL C w (b.put (AY 0 0))) (Ai ((b.put (AY 0 0))).blocks) rfl Tryz.func43 Al rfl rfl rfl rfl rfl Ab (Af C w _) (Af C w _) Bz Dn (fun x=>Ac _ x) (fun x=>Ac _ x) rfl (F7 C w b x hx Aa 0 0 Aa)) ?_;refine wk 3 ?_;refine Dw (γ:=Nat×Bd×Int) (kf 4) (fun q=>⟨80,(Ad (Ad (Ad AM 0 (pZ 2)) 1 (.int .i64 q.2.2)) 2 (.int .i64 to)),(Gj (nb [.free,.free,(rf 6 [DY C w q.2.1]),(rf 5 (By (q.2.1).blocks))]) (Ai (q.2.1).blocks))⟩) (fun q=>NoW (b.nought a (to-a).toNat) to (b.cnt+1+(to-a).toNat) q) (fun q=>(to-q.2.2).toNat) ((to-a).toNat,(b.put (AY 0 0)),a) (Sub.mk' AT (Ey (k0:=4) rfl OK RN bQ)) (NoW.first hb ha hlt) (fun g b hb=>EG (k0:=4) rfl hb) ?_;intro q hQ;have hc0:=hQ.cnt;have hqa:=hQ.a0;have hqt:=hQ.a1;refine wk 5 ?_;refine aq 17 (AG (r:=.int .i64 (to-q.2.2)) rfl rfl rfl DL) ?_;refine wk 2 ?_;refine asp 18 (fun hb2=>?_) fun hb2=>?_
 .
  refine act ?_;have hn64:64<(to-q.2.2).toNat:=by have h:=hb2;simp at h;omega
  have hN:=hQ.next hn64;have hc0:=hQ.cnt;have hqa:=hQ.a0;have hqt:=hQ.a1;have hn3:=Fl hn64;obtain⟨x0,hx0⟩:=id hQ.cur;have u1:=hQ.cur.put (AY 1 0);have c1:=hQ.cur.cnt (AY 1 0);obtain⟨x1,hx1⟩:=id u1;have u2:=u1.put (AY 2 8);have c2:=u1.cnt (AY 2 8);obtain⟨x2,hx2⟩:=id u2;have u3:Bd.Cur (q.2.1.chunk1 (chunkN (to-q.2.2).toNat)):=u2.put (AY 3 (chunkN (to-q.2.2).toNat));have c3:Bd.cnt (q.2.1.chunk1 (chunkN (to-q.2.2).toNat))=_:=u2.cnt (AY 3 (chunkN (to-q.2.2).toNat));obtain⟨x4,hx4⟩:=id u3.opened;have u4:=MM u3;have c4:=MQ (q.2.1.chunk1 (chunkN (to-q.2.2).toNat));have u8:=EM u4 q.2.2 (((chunkN (to-q.2.2).toNat):Int)-7) 8;have c8:=F6 u4 q.2.2 (((chunkN (to-q.2.2).toNat):Int)-7) 8;obtain⟨y8,hy8⟩:=id u8;have u9:=u8.put (AP 4 1 1 2);have c9:=u8.cnt (AP 4 1 1 2);obtain⟨y9,hy9⟩:=id u9;have u10:=u9.put (AP 14 4 1 3);have c10:=u9.cnt (AP 14 4 1 3)
  obtain⟨y11,hy11⟩:=id u10.opened;refine wk 6 ?_;refine aq 21 (AG (r:=.int .i64 (to-q.2.2)) rfl rfl rfl DL) ?_;refine aq 22 (jv rfl rfl rfl) ?_;refine aq 23 (AG (r:=.int .i64 ((min (to-q.2.2).toNat 4096/8:Nat):Int)) rfl rfl rfl (Vr hn64)) ?_;refine aq 24 (AG (r:=.int .i64 ((chunkN (to-q.2.2).toNat):Int)) rfl rfl rfl Vs) ?_;refine wk 5 ?_;refine AOps.call 26 (hn:=Az 2 _ (RH (bL C w (q.2.1.put (AY 1 0))) (Ai ((q.2.1.put (AY 1 0))).blocks))) (r:=.tup []) rfl rfl rfl (Am 2 (bL C w q.2.1) (bL C w (q.2.1.put (AY 1 0))) (Ai ((q.2.1.put (AY 1 0))).blocks) rfl Tryz.func43 Al rfl rfl rfl rfl rfl Ab (Af C w _) (Af C w _) Bz Dn (fun x=>Ac _ x) (fun x=>Ac _ x) rfl (F7 C w q.2.1 x0 hx0 Aa 1 0 Aa)) ?_;refine wk 4 ?_;refine AOps.call 28 (hn:=Az 2 _ (RH (bL C w ((q.2.1.put (AY 1 0)).put (AY 2 8))) (Ai (((q.2.1.put (AY 1 0)).put (AY 2 8))).blocks))) (r:=.tup []) rfl rfl rfl (Am 2 (bL C w (q.2.1.put (AY 1 0))) (bL C w ((q.2.1.put (AY 1 0)).put (AY 2 8))) (Ai (((q.2.1.put (AY 1 0)).put (AY 2 8))).blocks) rfl Tryz.func43 Al rfl rfl rfl rfl rfl Ab (Af C w _) (Af C w _) Bz Dn (fun x=>Ac _ x) (fun x=>Ac _ x) rfl (F7 C w (q.2.1.put (AY 1 0)) x1 hx1 Aa 2 8 Aa)) ?_
  refine wk 5 ?_;refine aq 31 (Co Aj rfl rfl rfl rfl rfl (r:=((chunkN (to-q.2.2).toNat):Int)) (by rw[IntKind.wrap_u32];omega)) ?_;refine AOps.call 32 (hn:=Az 2 _ (RH (bL C w (q.2.1.chunk1 (chunkN (to-q.2.2).toNat))) (Ai ((q.2.1.chunk1 (chunkN (to-q.2.2).toNat))).blocks))) (r:=.tup []) rfl rfl rfl (Am 2 (bL C w ((q.2.1.put (AY 1 0)).put (AY 2 8))) (bL C w (q.2.1.chunk1 (chunkN (to-q.2.2).toNat))) (Ai ((q.2.1.chunk1 (chunkN (to-q.2.2).toNat))).blocks) rfl Tryz.func43 Al rfl rfl rfl rfl rfl Ab (Af C w _) (Af C w _) Bz Dn (fun x=>Ac _ x) (fun x=>Ac _ x) rfl (F7 C w ((q.2.1.put (AY 1 0)).put (AY 2 8)) x2 hx2 Aa 3 (chunkN (to-q.2.2).toNat) Aa)) ?_;refine wk 4 ?_;refine AOps.call 34 (hn:=Az 2 _ (RH (bL C w ((q.2.1.chunk1 (chunkN (to-q.2.2).toNat)).opened)) (Ai (((q.2.1.chunk1 (chunkN (to-q.2.2).toNat)).opened)).blocks))) (r:=.int .i64 ((q.2.1.chunk1 (chunkN (to-q.2.2).toNat)).blocks.length:Int)) rfl rfl rfl (Am 2 (bL C w (q.2.1.chunk1 (chunkN (to-q.2.2).toNat))) (bL C w ((q.2.1.chunk1 (chunkN (to-q.2.2).toNat)).opened)) (Ai (((q.2.1.chunk1 (chunkN (to-q.2.2).toNat)).opened)).blocks) rfl Tryz.func26 Al rfl rfl rfl rfl rfl Ab (Af C w _) (Af C w _) Bz Dn (fun x=>Ac _ x) (fun x=>Ac _ x) rfl (C3 C w _ (by have:=If (q.2.1.chunk1 (chunkN (to-q.2.2).toNat));omega))) ?_
  refine wk 6 ?_;refine AOps.call 37 (hn:=Az 2 _ (RH (bL C w ((q.2.1.chunk1 (chunkN (to-q.2.2).toNat)).opened.jump (q.2.1.chunk1 (chunkN (to-q.2.2).toNat)).blocks.length)) (Ai (((q.2.1.chunk1 (chunkN (to-q.2.2).toNat)).opened.jump (q.2.1.chunk1 (chunkN (to-q.2.2).toNat)).blocks.length)).blocks))) (r:=.tup []) rfl rfl rfl (Am 2 (bL C w ((q.2.1.chunk1 (chunkN (to-q.2.2).toNat)).opened)) (bL C w ((q.2.1.chunk1 (chunkN (to-q.2.2).toNat)).opened.jump (q.2.1.chunk1 (chunkN (to-q.2.2).toNat)).blocks.length)) (Ai (((q.2.1.chunk1 (chunkN (to-q.2.2).toNat)).opened.jump (q.2.1.chunk1 (chunkN (to-q.2.2).toNat)).blocks.length)).blocks) rfl Tryz.func44 Al rfl rfl rfl rfl rfl Ab (Af C w _) (Af C w _) Bz Dn (fun x=>Ac _ x) (fun x=>Ac _ x) rfl (Rm C w ((q.2.1.chunk1 (chunkN (to-q.2.2).toNat)).opened) x4 hx4 (q.2.1.chunk1 (chunkN (to-q.2.2).toNat)).blocks.length)) ?_;refine wk 11 ?_;refine AGo.sub (s':=⟨80,(Ad (Ad (Ad (Ad (Ad AM 0 (pZ 2)) 1 (.int .i64 q.2.2)) 2 (.int .i64 to)) 6 (.int .i64 ((chunkN (to-q.2.2).toNat):Int))) 7 (.int .i64 ((q.2.1.chunk1 (chunkN (to-q.2.2).toNat)).blocks.length:Int))),(Gj (nb [.free,.free,(rf 6 [DY C w ((q.2.1.chunk1 (chunkN (to-q.2.2).toNat)).chunk2)]),(rf 5 (By (((q.2.1.chunk1 (chunkN (to-q.2.2).toNat)).chunk2)).blocks))]) (Ai (((q.2.1.chunk1 (chunkN (to-q.2.2).toNat)).chunk2)).blocks))⟩) (Sub.mk' AT (Ey (k0:=4) rfl OK Dn bQ)) ?_;refine wk 4 ?_;refine Dw (γ:=Nat) (kf 4) (fun j=>⟨80,(Ad (Ad (Ad (Ad (Ad (Ad AM 0 (pZ 2)) 1 (.int .i64 q.2.2)) 2 (.int .i64 to)) 6 (.int .i64 ((chunkN (to-q.2.2).toNat):Int))) 7 (.int .i64 ((q.2.1.chunk1 (chunkN (to-q.2.2).toNat)).blocks.length:Int))) 42 (iN j)),(Gj (nb [.free,.free,(rf 6 [DY C w (((q.2.1.chunk1 (chunkN (to-q.2.2).toNat)).chunk2).astores q.2.2 (((chunkN (to-q.2.2).toNat):Int)-7) j)]),(rf 5 (By ((((q.2.1.chunk1 (chunkN (to-q.2.2).toNat)).chunk2).astores q.2.2 (((chunkN (to-q.2.2).toNat):Int)-7) j)).blocks))]) (Ai ((((q.2.1.chunk1 (chunkN (to-q.2.2).toNat)).chunk2).astores q.2.2 (((chunkN (to-q.2.2).toNat):Int)-7) j)).blocks))⟩) (fun j=>j<=8) (fun j=>8-j) 0 (Sub.mk' AT (Ey (k0:=4) rfl OK RN bQ)) (Nat.zero_le _) (fun g b hb=>EG (k0:=4) rfl hb) ?_
  intro j hj;refine wk 5 ?_;refine asp 43 (fun hb3=>?_) fun hb3=>?_
  .
   refine act ?_;have hjl:j<8:=by have h:=hb3;simp at h;omega
   obtain⟨y,hy⟩:=EM u4 q.2.2 (((chunkN (to-q.2.2).toNat):Int)-7) j;have cj:=F6 u4 q.2.2 (((chunkN (to-q.2.2).toNat):Int)-7) j;refine wk 12 ?_;refine aq 48 (AG (r:=.int .i64 (q.2.2+(j:Int))) rfl rfl rfl DL) ?_;refine wk 1 ?_;refine aq 50 (AG (r:=.int .i64 (((chunkN (to-q.2.2).toNat):Int)-8)) rfl rfl rfl DL) ?_;refine aq 51 (AG (r:=.int .i64 (((chunkN (to-q.2.2).toNat):Int)-7)) rfl rfl rfl Wl) ?_;refine wk 1 ?_;refine AOps.call 53 (hn:=Az 2 _ (RH (bL C w ((((q.2.1.chunk1 (chunkN (to-q.2.2).toNat)).chunk2).astores q.2.2 (((chunkN (to-q.2.2).toNat):Int)-7) j).put (BN 1 0 (q.2.2+(j:Int)) (((chunkN (to-q.2.2).toNat):Int)-7)))) (Ai (((((q.2.1.chunk1 (chunkN (to-q.2.2).toNat)).chunk2).astores q.2.2 (((chunkN (to-q.2.2).toNat):Int)-7) j).put (BN 1 0 (q.2.2+(j:Int)) (((chunkN (to-q.2.2).toNat):Int)-7)))).blocks))) (r:=.tup []) rfl rfl rfl (Am 2 (bL C w (((q.2.1.chunk1 (chunkN (to-q.2.2).toNat)).chunk2).astores q.2.2 (((chunkN (to-q.2.2).toNat):Int)-7) j)) (bL C w ((((q.2.1.chunk1 (chunkN (to-q.2.2).toNat)).chunk2).astores q.2.2 (((chunkN (to-q.2.2).toNat):Int)-7) j).put (BN 1 0 (q.2.2+(j:Int)) (((chunkN (to-q.2.2).toNat):Int)-7)))) (Ai (((((q.2.1.chunk1 (chunkN (to-q.2.2).toNat)).chunk2).astores q.2.2 (((chunkN (to-q.2.2).toNat):Int)-7) j).put (BN 1 0 (q.2.2+(j:Int)) (((chunkN (to-q.2.2).toNat):Int)-7)))).blocks) rfl Tryz.func45 Al rfl rfl rfl rfl rfl Ab (Af C w _) (Af C w _) Bz Dn (fun x=>Ac _ x) (fun x=>Ac _ x) rfl (Eg C w (((q.2.1.chunk1 (chunkN (to-q.2.2).toNat)).chunk2).astores q.2.2 (((chunkN (to-q.2.2).toNat):Int)-7) j) y hy (BN 1 0 (q.2.2+(j:Int)) (((chunkN (to-q.2.2).toNat):Int)-7)) (Int.le_refl 0) (show(0:Int)<=1000000000 by decide) (by have:=DK hy;omega))) ?_
   refine wk 2 ?_;refine aq 54 (A8 rfl rfl hjl DD) ?_;refine wk 2 ?_;exact⟨j+1,DropK.mk' PT (G6 (k0:=4) rfl OK RN (fun x_=>Ac _ x_)),hjl,by omega⟩
  refine Ej ?_;have hje:j=8:=by have h:=hb3;simp at h;omega
  subst hje;refine wk 4 ?_;refine AOps.call 56 (hn:=Az 2 _ (RH (bL C w ((((q.2.1.chunk1 (chunkN (to-q.2.2).toNat)).chunk2).astores q.2.2 (((chunkN (to-q.2.2).toNat):Int)-7) 8).put (AP 4 1 1 2))) (Ai (((((q.2.1.chunk1 (chunkN (to-q.2.2).toNat)).chunk2).astores q.2.2 (((chunkN (to-q.2.2).toNat):Int)-7) 8).put (AP 4 1 1 2))).blocks))) (r:=.tup []) rfl rfl rfl (Am 2 (bL C w (((q.2.1.chunk1 (chunkN (to-q.2.2).toNat)).chunk2).astores q.2.2 (((chunkN (to-q.2.2).toNat):Int)-7) 8)) (bL C w ((((q.2.1.chunk1 (chunkN (to-q.2.2).toNat)).chunk2).astores q.2.2 (((chunkN (to-q.2.2).toNat):Int)-7) 8).put (AP 4 1 1 2))) (Ai (((((q.2.1.chunk1 (chunkN (to-q.2.2).toNat)).chunk2).astores q.2.2 (((chunkN (to-q.2.2).toNat):Int)-7) 8).put (AP 4 1 1 2))).blocks) rfl Tryz.func46 Al rfl rfl rfl rfl rfl Ab (Af C w _) (Af C w _) Bz Dn (fun x=>Ac _ x) (fun x=>Ac _ x) rfl (Ih C w (((q.2.1.chunk1 (chunkN (to-q.2.2).toNat)).chunk2).astores q.2.2 (((chunkN (to-q.2.2).toNat):Int)-7) 8) y8 hy8 Aa 4 1 1 2 Aa)) ?_
  refine wk 4 ?_;refine AOps.call 58 (hn:=Az 2 _ (RH (bL C w (((((q.2.1.chunk1 (chunkN (to-q.2.2).toNat)).chunk2).astores q.2.2 (((chunkN (to-q.2.2).toNat):Int)-7) 8).put (AP 4 1 1 2)).put (AP 14 4 1 3))) (Ai ((((((q.2.1.chunk1 (chunkN (to-q.2.2).toNat)).chunk2).astores q.2.2 (((chunkN (to-q.2.2).toNat):Int)-7) 8).put (AP 4 1 1 2)).put (AP 14 4 1 3))).blocks))) (r:=.tup []) rfl rfl rfl (Am 2 (bL C w ((((q.2.1.chunk1 (chunkN (to-q.2.2).toNat)).chunk2).astores q.2.2 (((chunkN (to-q.2.2).toNat):Int)-7) 8).put (AP 4 1 1 2))) (bL C w (((((q.2.1.chunk1 (chunkN (to-q.2.2).toNat)).chunk2).astores q.2.2 (((chunkN (to-q.2.2).toNat):Int)-7) 8).put (AP 4 1 1 2)).put (AP 14 4 1 3))) (Ai ((((((q.2.1.chunk1 (chunkN (to-q.2.2).toNat)).chunk2).astores q.2.2 (((chunkN (to-q.2.2).toNat):Int)-7) 8).put (AP 4 1 1 2)).put (AP 14 4 1 3))).blocks) rfl Tryz.func46 Al rfl rfl rfl rfl rfl Ab (Af C w _) (Af C w _) Bz Dn (fun x=>Ac _ x) (fun x=>Ac _ x) rfl (Ih C w ((((q.2.1.chunk1 (chunkN (to-q.2.2).toNat)).chunk2).astores q.2.2 (((chunkN (to-q.2.2).toNat):Int)-7) 8).put (AP 4 1 1 2)) y9 hy9 Aa 14 4 1 3 Aa)) ?_
  refine wk 4 ?_;refine AOps.call 60 (hn:=Az 2 _ (RH (bL C w ((((((q.2.1.chunk1 (chunkN (to-q.2.2).toNat)).chunk2).astores q.2.2 (((chunkN (to-q.2.2).toNat):Int)-7) 8).put (AP 4 1 1 2)).put (AP 14 4 1 3)).opened)) (Ai (((((((q.2.1.chunk1 (chunkN (to-q.2.2).toNat)).chunk2).astores q.2.2 (((chunkN (to-q.2.2).toNat):Int)-7) 8).put (AP 4 1 1 2)).put (AP 14 4 1 3)).opened)).blocks))) (r:=.int .i64 ((((((q.2.1.chunk1 (chunkN (to-q.2.2).toNat)).chunk2).astores q.2.2 (((chunkN (to-q.2.2).toNat):Int)-7) 8).put (AP 4 1 1 2)).put (AP 14 4 1 3)).blocks.length:Int)) rfl rfl rfl (Am 2 (bL C w (((((q.2.1.chunk1 (chunkN (to-q.2.2).toNat)).chunk2).astores q.2.2 (((chunkN (to-q.2.2).toNat):Int)-7) 8).put (AP 4 1 1 2)).put (AP 14 4 1 3))) (bL C w ((((((q.2.1.chunk1 (chunkN (to-q.2.2).toNat)).chunk2).astores q.2.2 (((chunkN (to-q.2.2).toNat):Int)-7) 8).put (AP 4 1 1 2)).put (AP 14 4 1 3)).opened)) (Ai (((((((q.2.1.chunk1 (chunkN (to-q.2.2).toNat)).chunk2).astores q.2.2 (((chunkN (to-q.2.2).toNat):Int)-7) 8).put (AP 4 1 1 2)).put (AP 14 4 1 3)).opened)).blocks) rfl Tryz.func26 Al rfl rfl rfl rfl rfl Ab (Af C w _) (Af C w _) Bz Dn (fun x=>Ac _ x) (fun x=>Ac _ x) rfl (C3 C w _ (by have:=If (((((q.2.1.chunk1 (chunkN (to-q.2.2).toNat)).chunk2).astores q.2.2 (((chunkN (to-q.2.2).toNat):Int)-7) 8).put (AP 4 1 1 2)).put (AP 14 4 1 3));omega))) ?_
  refine wk 7 ?_;refine AOps.call 64 (hn:=Az 2 _ (RH (bL C w ((((((q.2.1.chunk1 (chunkN (to-q.2.2).toNat)).chunk2).astores q.2.2 (((chunkN (to-q.2.2).toNat):Int)-7) 8).put (AP 4 1 1 2)).put (AP 14 4 1 3)).opened.fork 4 (q.2.1.chunk1 (chunkN (to-q.2.2).toNat)).blocks.length (((((q.2.1.chunk1 (chunkN (to-q.2.2).toNat)).chunk2).astores q.2.2 (((chunkN (to-q.2.2).toNat):Int)-7) 8).put (AP 4 1 1 2)).put (AP 14 4 1 3)).blocks.length)) (Ai (((((((q.2.1.chunk1 (chunkN (to-q.2.2).toNat)).chunk2).astores q.2.2 (((chunkN (to-q.2.2).toNat):Int)-7) 8).put (AP 4 1 1 2)).put (AP 14 4 1 3)).opened.fork 4 (q.2.1.chunk1 (chunkN (to-q.2.2).toNat)).blocks.length (((((q.2.1.chunk1 (chunkN (to-q.2.2).toNat)).chunk2).astores q.2.2 (((chunkN (to-q.2.2).toNat):Int)-7) 8).put (AP 4 1 1 2)).put (AP 14 4 1 3)).blocks.length)).blocks))) (r:=.tup []) rfl rfl rfl (Am 2 (bL C w ((((((q.2.1.chunk1 (chunkN (to-q.2.2).toNat)).chunk2).astores q.2.2 (((chunkN (to-q.2.2).toNat):Int)-7) 8).put (AP 4 1 1 2)).put (AP 14 4 1 3)).opened)) (bL C w ((((((q.2.1.chunk1 (chunkN (to-q.2.2).toNat)).chunk2).astores q.2.2 (((chunkN (to-q.2.2).toNat):Int)-7) 8).put (AP 4 1 1 2)).put (AP 14 4 1 3)).opened.fork 4 (q.2.1.chunk1 (chunkN (to-q.2.2).toNat)).blocks.length (((((q.2.1.chunk1 (chunkN (to-q.2.2).toNat)).chunk2).astores q.2.2 (((chunkN (to-q.2.2).toNat):Int)-7) 8).put (AP 4 1 1 2)).put (AP 14 4 1 3)).blocks.length)) (Ai (((((((q.2.1.chunk1 (chunkN (to-q.2.2).toNat)).chunk2).astores q.2.2 (((chunkN (to-q.2.2).toNat):Int)-7) 8).put (AP 4 1 1 2)).put (AP 14 4 1 3)).opened.fork 4 (q.2.1.chunk1 (chunkN (to-q.2.2).toNat)).blocks.length (((((q.2.1.chunk1 (chunkN (to-q.2.2).toNat)).chunk2).astores q.2.2 (((chunkN (to-q.2.2).toNat):Int)-7) 8).put (AP 4 1 1 2)).put (AP 14 4 1 3)).blocks.length)).blocks) rfl Tryz.func47 Al rfl rfl rfl rfl rfl Ab (Af C w _) (Af C w _) Bz Dn (fun x=>Ac _ x) (fun x=>Ac _ x) rfl (HQ C w ((((((q.2.1.chunk1 (chunkN (to-q.2.2).toNat)).chunk2).astores q.2.2 (((chunkN (to-q.2.2).toNat):Int)-7) 8).put (AP 4 1 1 2)).put (AP 14 4 1 3)).opened) y11 hy11 4 (q.2.1.chunk1 (chunkN (to-q.2.2).toNat)).blocks.length (((((q.2.1.chunk1 (chunkN (to-q.2.2).toNat)).chunk2).astores q.2.2 (((chunkN (to-q.2.2).toNat):Int)-7) 8).put (AP 4 1 1 2)).put (AP 14 4 1 3)).blocks.length)) ?_
  refine wk 9 ?_;refine AGo.sub (s':=⟨80,(Ad (Ad (Ad (Ad (Ad (Ad AM 0 (pZ 2)) 1 (.int .i64 q.2.2)) 2 (.int .i64 to)) 6 (.int .i64 ((chunkN (to-q.2.2).toNat):Int))) 7 (.int .i64 ((q.2.1.chunk1 (chunkN (to-q.2.2).toNat)).blocks.length:Int))) 9 (.int .i64 ((((((q.2.1.chunk1 (chunkN (to-q.2.2).toNat)).chunk2).astores q.2.2 (((chunkN (to-q.2.2).toNat):Int)-7) 8).put (AP 4 1 1 2)).put (AP 14 4 1 3)).blocks.length:Int))),(Gj (nb [.free,.free,(rf 6 [DY C w (q.2.1.chunk q.2.2 (chunkN (to-q.2.2).toNat))]),(rf 5 (By ((q.2.1.chunk q.2.2 (chunkN (to-q.2.2).toNat))).blocks))]) (Ai ((q.2.1.chunk q.2.2 (chunkN (to-q.2.2).toNat))).blocks))⟩) (Sub.mk' AT (Ey (k0:=4) rfl OK Dn bQ)) ?_;refine wk 3 ?_;refine aq 71 (AG (r:=.int .i64 (q.2.2+((chunkN (to-q.2.2).toNat):Int))) rfl rfl rfl DL) ?_;refine wk 2 ?_;exact⟨(q.1-1,(q.2.1.chunk q.2.2 (chunkN (to-q.2.2).toNat)),q.2.2+((chunkN (to-q.2.2).toNat):Int)),DropK.mk' PT (G6 (k0:=4) rfl OK RN (fun x_=>Ac _ x_)),hN,(hQ.i.next hn64).2⟩
 refine Ej ?_;have hn64:¬64<(to-q.2.2).toNat:=by have h:=hb2;simp at h;omega
 have hlast:=hQ.i.last hn64;have hc0:=hQ.cnt;have hqa:=hQ.a0;have hqt:=hQ.a1;refine wk 2 ?_;refine Dw (γ:=Nat) (kf 4) (fun j=>⟨80,(Ad (Ad (Ad AM 0 (pZ 2)) 1 (.int .i64 (q.2.2+(j:Int)))) 2 (.int .i64 to)),(Gj (nb [.free,.free,(rf 6 [DY C w (q.2.1.zeros q.2.2 j)]),(rf 5 (By ((q.2.1.zeros q.2.2 j)).blocks))]) (Ai ((q.2.1.zeros q.2.2 j)).blocks))⟩) (fun j=>q.2.2+(j:Int)<=to) (fun j=>(to-(q.2.2+(j:Int))).toNat) 0 (Sub.mk' (by repeat(first|exact ESub.new _|refine ESub.put ?_ (by first|rfl|exact congrArg (fun n=>some (AV.int .i64 n)) Aa))) (Ey (k0:=4) rfl OK RN bQ)) Aa (fun g b hb=>EG (k0:=4) rfl hb) ?_;intro j hj;refine wk 7 ?_;refine asp 74 (fun hb4=>?_) fun hb4=>?_
 .
  refine act ?_;have hjt:q.2.2+(j:Int)<to:=by have h:=hb4;simpa using h
  obtain⟨z,hz⟩:=Ie hQ.cur q.2.2 j;have cz:=Ke hQ.cur q.2.2 j;refine wk 6 ?_;refine AOps.call 79 (hn:=Az 2 _ (RH (bL C w ((q.2.1.zeros q.2.2 j).put (AL (q.2.2+(j:Int)) 0))) (Ai (((q.2.1.zeros q.2.2 j).put (AL (q.2.2+(j:Int)) 0))).blocks))) (r:=.tup []) rfl rfl rfl (Am 2 (bL C w (q.2.1.zeros q.2.2 j)) (bL C w ((q.2.1.zeros q.2.2 j).put (AL (q.2.2+(j:Int)) 0))) (Ai (((q.2.1.zeros q.2.2 j).put (AL (q.2.2+(j:Int)) 0))).blocks) rfl Tryz.func48 Al rfl rfl rfl rfl rfl Ab (Af C w _) (Af C w _) Bz Dn (fun x=>Ac _ x) (fun x=>Ac _ x) rfl (GE C w (q.2.1.zeros q.2.2 j) z hz Aa (q.2.2+(j:Int)) 0)) ?_;refine wk 3 ?_;refine aq 76 (AG (r:=.int .i64 (q.2.2+((j+1:Nat):Int))) rfl rfl rfl Wl) ?_;refine wk 2 ?_;exact⟨j+1,DropK.mk' PT (G6 (k0:=4) rfl OK RN (fun x_=>Ac _ x_)),Aa,by omega⟩
 refine Ej ?_;have hjt:j=(to-q.2.2).toNat:=by have h:=hb4;simp at h;omega
 subst hjt;rw[<-hlast];refine wk 1 ?_;exact K1
theorem MW(C:Core)(hC:C.Ok)(hr:M8 C)(hok:∀(i:Nat) g,C.funcs[i]?=some g->CS.okL C i g.word g.body)(hp:∀g∈C.funcs,CS.partsL g.body<=1000000):Pu Tryz.prog 11 [.agg C.cells] (.agg C.build.cells):=by
 have hn1:=hr.n1;have hw0:=hr.w0;have hw1:=hr.w1;have hml:(C.funcs.map CFn.cells).length=C.funcs.length:=List.length_map _;refine APure.of_body (n:=84) Aj Tryz.func11 rfl rfl ?_;refine Rq ?_;refine ax 1 (Ek 2 0) ?_;refine ax 2 (Lc Aj 1) ?_;refine wk 6 ?_;refine ax 3 (Lc Aj 4) ?_;refine wk 11 ?_;refine Dw (γ:=Nat) (kf 5) (fun k=>⟨84,(Ad (Ad (Ad (Ad (Ad (Ad AM 1 (pZ 0)) 2 (pZ 1)) 3 (pZ 4)) 13 (.lst false (C.funcs.map CFn.cells))) 14 (.int .i64 ((C.funcs.map CFn.cells).length:Int))) 15 (iN k)),(Gj (nb [(rf 2 [C.cells]),(rf 2 [[.int .i64 0,.nil]]),.free,.free,(rf 2 [[.int .i64 (mW C k),.nil]])]) cd)⟩) (fun k=>k<=C.funcs.length) (fun k=>C.funcs.length-k) 0 (Sub.mk' AT (Ey (k0:=5) rfl (by repeat(first|exact trivial|refine⟨⟨by rfl,by first|rfl|exact Jw _ _ _ _⟩,?_⟩)) (fun x_=>by(try simp only[AB]);repeat(first|rfl|exact Ax _ _ _|refine AQ Ho ?_)) (fun c h1 h2=>by rcases(by omega:c=5\/c=6\/c=7\/c=8\/c=9\/c=10\/c=11\/c=12\/c=13\/c=14\/c=15)with rfl|rfl|rfl|rfl|rfl|rfl|rfl|rfl|rfl|rfl|rfl<;>first|rfl|(try simp only[AB];repeat(first|rfl|refine AQ Ho ?_|refine hrm_skip Aa ?_))))) (Nat.zero_le _) (fun g b hb=>EG (k0:=5) rfl hb) ?_
 intro k hk;refine wk 5 ?_;refine asp 16 (fun hb1=>?_) fun hb1=>?_
 .
  refine act ?_;have hkl:k<C.funcs.length:=Ao hb1;obtain⟨g,hg⟩:=Ah hkl;refine wk 5 ?_;refine aq 17 Ip ?_;refine wk 1 ?_;refine ax 5 (Lc Aj 6) ?_;refine wk 7 ?_;refine asp 20 (fun hb2=>?_) fun hb2=>?_
  .
   refine act ?_;have hmw:=d9 hg hb2;refine wk 3 ?_;refine aq 23 (AG (r:=.int .i64 (C.words+1)) rfl rfl rfl DL) ?_;refine wk 4 ?_;exact fv
  refine Ej ?_;have hmw:=jT hg hb2;refine wk 2 ?_;exact fv
 refine Ej ?_;have hge:=As hb1;have hmw:=ec hge;refine wk 3 ?_;rw[hmw];refine AX (Ei 4 (es':=[[.int .i64 C.m,IJ 5 []]]) rfl rfl (Y5 _ 5)) ?_;refine wk 7 ?_;refine Dw (γ:=Nat) kB (fun k=>⟨84,(Ad (Ad (Ad (Ad (Ad (Ad AM 1 (pZ 0)) 2 (pZ 1)) 3 (pZ 4)) 27 (.lst false (C.funcs.map CFn.cells))) 28 (.int .i64 ((C.funcs.map CFn.cells).length:Int))) 29 (iN k)),(hB (rf 2 [C.cells]) (rf 2 [[.int .i64 0,.nil]]) (rf 2 [[.int .i64 C.m,IJ 5 (bT C k)]]) (NG 2 (bT C k)))⟩) (fun k=>k<=C.funcs.length) (fun k=>C.funcs.length-k) 0 (Sub.mk' AT (Ey (k0:=6) rfl (by repeat(first|exact trivial|refine⟨⟨by first|rfl|(rw[ZD];rfl)|(rw[hmw];rfl),by first|rfl|exact IM rfl|exact DT _ _⟩,?_⟩)) gi (fun c h1 h2=>by rcases(by omega:c=6\/c=7\/c=8\/c=9\/c=10\/c=11\/c=12\/c=13\/c=14\/c=15)with rfl|rfl|rfl|rfl|rfl|rfl|rfl|rfl|rfl|rfl<;>first|rfl|(try simp only[AB];repeat(first|rfl|refine AQ Ho ?_|refine hrm_skip Aa ?_))))) (Nat.zero_le _) (fun k=>T1 _ _ _ _) ?_
 intro k hk;refine wk 5 ?_;refine asp 30 (fun hb3=>?_) fun hb3=>?_
 .
  refine act ?_;have hkl:k<C.funcs.length:=Ao hb3;obtain⟨g,hg⟩:=Ah hkl;have hgm:=List.mem_of_getElem? hg;have hgk:=hC.funcs g hgm;have hgo:=hok k g hg;have hgp:=hp g hgm;obtain⟨f1,f2,f3,f4,f5⟩:=hr.fn g hgm;refine wk 6 ?_;refine aq 32 Ip ?_;refine wk 1 ?_;refine ax 7 (Lc Aj 6) ?_;refine wk 12 ?_;refine ax 41 (Ek 6 2) ?_;refine wk 3 ?_;refine AX (.dryCell 2 0 4 3 5 false rfl rfl rfl rfl rfl Ab) ?_;refine wk 2 ?_;refine AOps.call 43 (hn:=Az 2 _ (RH (bL C g.word bd0) (Ai (bd0).blocks))) (r:=.int .i64 0) rfl rfl rfl (Am 2 (bL C g.word (⟨0,[],0⟩:Bd)) (bL C g.word bd0) (Ai (bd0).blocks) rfl Tryz.func26 Al rfl rfl rfl rfl rfl Ab (Af C g.word _) (Af C g.word _) Bz Dn (fun x=>Ac _ x) (fun x=>Ac _ x) rfl (C3 C g.word (⟨0,[],0⟩:Bd) Ab)) ?_;refine wk 8 ?_;refine aq 48 (AG (r:=.int .i64 (((C.funcs.map CFn.cells).length:Int)-1)) rfl rfl rfl DL) ?_;refine wk 2 ?_;refine AK (γ:=Bd) (fun q=>⟨84,(Ad (Ad (Ad (Ad (Ad (Ad (Ad (Ad (Ad AM 1 (pZ 0)) 2 (pZ 1)) 3 (pZ 4)) 6 (iN k)) 7 (pZ 6)) 8 (pZ 2)) 27 (.lst false (C.funcs.map CFn.cells))) 28 (.int .i64 ((C.funcs.map CFn.cells).length:Int))) 29 (iN k)),(Gj (nb [(rf 2 [C.cells]),(rf 2 [[.int .i64 0,.nil]]),(rf 6 [DY C g.word q]),(rf 5 (By (q).blocks)),(rf 2 [[.int .i64 C.m,IJ 5 (bT C k)]]),(NG 2 (bT C k)),(rf 5 [g.cells])]) (Ai (q).blocks))⟩) (fun q=>q=G3 C g (k+1==C.funcs.length)) ?_ ?_
  .
   refine asp 49 (fun hb4=>?_) fun hb4=>?_
   .
    refine act ?_;have hlast:(k+1==C.funcs.length)=false:=by have h:=hb4;simp at h|-;omega
    refine wk 6 ?_;refine aq 55 (AG (r:=.int .i64 (g.first+g.params)) rfl rfl rfl DL) ?_;refine wk 4 ?_;refine aq 60 (AG (r:=.int .i64 (g.first+g.slots)) rfl rfl rfl DL) ?_;refine AOps.call 61 (hn:=Az 2 _ (RH (bL C g.word (bd0.nought (g.first+g.params) (g.first+g.slots-(g.first+g.params)).toNat)) (Ai ((bd0.nought (g.first+g.params) (g.first+g.slots-(g.first+g.params)).toNat)).blocks))) (r:=.tup []) rfl rfl rfl (Am 2 (bL C g.word bd0) (bL C g.word (bd0.nought (g.first+g.params) (g.first+g.slots-(g.first+g.params)).toNat)) (Ai ((bd0.nought (g.first+g.params) (g.first+g.slots-(g.first+g.params)).toNat)).blocks) rfl Tryz.func27 Al rfl rfl rfl rfl rfl Ab (Af C g.word _) (Af C g.word _) Bz Dn (fun x=>Ac _ x) (fun x=>Ac _ x) rfl (Tb C g.word bd0 (g.first+g.params) (g.first+g.slots) eJ Aa Aa Aa Aa (by rw[Yb];omega))) ?_;refine an ?_;exact⟨(bd0.nought (g.first+g.params) (g.first+g.slots-(g.first+g.params)).toNat),Sub.mk' AT (Ey (k0:=7) rfl gk Dn mK),(by unfold G3;rw[hlast];show bd0.nought _ _=bd0.nought _ _;congr 2;omega)⟩
   refine Ej ?_;have hlast:(k+1==C.funcs.length)=true:=by have h:=hb4;simp at h|-;omega
   refine eN ?_;exact⟨bd0,Sub.mk' AT (Ey (k0:=7) rfl gk Dn mK),(by unfold G3;rw[hlast];rfl)⟩
  intro q hq;have hqp:Pl q:=by rw[hq];exact SS _ _ _
  have hqc:q.cnt<=2+(g.slots-g.params).toNat:=by rw[hq];exact Q4 _ _ _
  have hcs:=Ez (C:=C) (w:=g.word) (l:=g.body) (fun e _=>FL e.parts e (Nat.le_refl _)) q;obtain⟨z,hz⟩:=(Hr hgo hqp).cur;have hfb:CL C g (k+1==C.funcs.length)=⟨((CS.buildL C g.word g.body q).leave C g.word).regs,((CS.buildL C g.word g.body q).leave C g.word).blocks⟩:=by rw[hq];rfl
  have hbt:=ap hg;rw[hfb]at hbt;refine wk 5 ?_;refine AOps.call 65 (hn:=Az 2 _ (RH (bL C g.word (CS.buildL C g.word g.body q)) (Ai ((CS.buildL C g.word g.body q)).blocks))) (r:=.tup []) rfl rfl rfl (Am 2 (bL C g.word q) (bL C g.word (CS.buildL C g.word g.body q)) (Ai ((CS.buildL C g.word g.body q)).blocks) rfl Tryz.func28 Al rfl rfl rfl rfl rfl Ab (Af C g.word _) (Af C g.word _) Bz Dn (fun x=>Ac _ x) (fun x=>Ac _ x) rfl (Ki C g.word k g.body (fun x hx b hP hc=>MX C g.word k hr x.parts x (Nat.le_refl _) (LD hgo hx) (hgk.body x hx) b hP hc) hgo hgk.len q hqp Aa)) ?_;refine wk 4 ?_;refine AOps.call 67 (hn:=Az 2 _ (RH (bL C g.word ((CS.buildL C g.word g.body q).leave C g.word)) (Ai (((CS.buildL C g.word g.body q).leave C g.word)).blocks))) (r:=.tup []) rfl rfl rfl (Am 2 (bL C g.word (CS.buildL C g.word g.body q)) (bL C g.word ((CS.buildL C g.word g.body q).leave C g.word)) (Ai (((CS.buildL C g.word g.body q).leave C g.word)).blocks) rfl Tryz.func29 Al rfl rfl rfl rfl rfl Ab (Af C g.word _) (Af C g.word _) Bz Dn (fun x=>Ac _ x) (fun x=>Ac _ x) rfl (OB C g.word (CS.buildL C g.word g.body q) z hz Aa)) ?_
  refine an ?_;refine AX (Ry C g.word ((CS.buildL C g.word g.body q).leave C g.word) (BV rfl) (BV rfl) (fun x_=>(BL _ _ _ x_).trans (Ax _ _ _))) ?_;refine wk 12 ?_;refine dx 79 EI ?_;refine dx 80 (Mc Aj (b:=5) (es:=bT C k) rfl rfl rfl rfl rfl rfl rfl rfl rfl rfl rfl (Nat.zero_lt_succ _) (au C k) (aj C k) rfl rfl (by have:=Yn C k;show(_+1)*32<=_;omega) (by have:=Yn C k;simp only[maxLen];omega)) ?_;refine wk 1 ?_;refine DOps.w rfl rfl (Xe Aj rfl rfl rfl rfl rfl rfl rfl rfl rfl (UH _ _) Ab (UI _ _) (by intro h;cases h)) ?_;refine wk 2 ?_;refine aq 82 (A8 rfl rfl hkl DD) ?_;refine wk 2 ?_;exact⟨k+1,DropK.mk' PT (ZK de de (by first|exact congrArg (fun es=>some (rf 2 [[.int .i64 C.m,IJ 5 es]])) hbt|((try simp only[AB]);repeat(first|rfl|exact Br _ _ _|refine AQ Ho ?_|refine hrm_skip Aa ?_|refine(HJ _ (fun i_ _=>by first|omega|(dsimp only;omega))).trans ?_))) (by first|exact congrArg (fun es=>some (NG 2 es)) hbt|((try simp only[AB]);repeat(first|rfl|exact Br _ _ _|refine AQ Ho ?_|refine hrm_skip Aa ?_|refine(HJ _ (fun i_ _=>by first|omega|(dsimp only;omega))).trans ?_))) rfl rfl (IM rfl) (DT _ _)),hkl,by omega⟩
 refine Ej ?_;have hge:=As hb3;refine wk 2 ?_;refine AX (.endCell 4 1 5 rfl rfl rfl Ab) ?_;rw[eM hge];refine wk 5 ?_;exact Wc
theorem Oq(x y:Mach):Pu Tryz.prog 9 [.agg (Jp x),.agg (Jp y)] (.bool (x.fin==y.fin&&(x.out==y.out))):=by
 refine APure.of_body (n:=17) Aj Tryz.func9 rfl rfl ?_;refine Rq ?_;refine ax 2 (Ek 3 0) ?_;refine ax 3 (Ek 3 1) ?_;refine wk 10 ?_;refine BC 10 (fun hb1=>?_) fun hb1=>?_
 .
  refine wk 8 ?_;refine I9 ⟨[_],⟨rfl,trivial⟩,?_,rfl⟩;refine bc ?_;simp_all[Oy]
 refine wk 8 ?_;refine I9 ⟨[_],⟨rfl,trivial⟩,?_,rfl⟩;refine bc ?_;simp_all[Oy]
theorem LI(l:List CE)(hlen:l.length<=maxLen)(hp:CE.partsL l<=1000000)(hrec:∀x∈l,Pu Tryz.prog 69 [(.lst false (x.kids.map CE.cells))] (.int .i64 (CE.partsL x.kids:Int))):Pu Tryz.prog 69 [(.lst false (l.map CE.cells))] (.int .i64 (CE.partsL l:Int)):=by
 refine APure.of_body (n:=22) Aj Tryz.func69 rfl rfl ?_;refine wk 16 ?_;refine Aw (γ:=Nat) 0 (fun k=>⟨22,(Ad (Ad (Ad AM 0 (.lst false (l.map CE.cells))) 3 (.int .i64 ((CE.partsL (l.take k)+(l.length-k):Nat):Int))) 4 (iN k)),(AE 0)⟩) (fun k=>k<=l.length) (fun k=>l.length-k) 0 (Sub.mk' (by repeat(first|exact ESub.new _|refine ESub.put ?_ (by first|rfl|exact congrArg (fun n=>some (AV.int .i64 n)) (by simp[CE.partsL])))) Bn) (Nat.zero_le _) (fun _=>fun b hb=>BO hb) ?_;intro k hk;refine wk 8 ?_;refine asp 10 (fun hb1=>?_) fun hb1=>?_
 .
  refine act ?_;have hkl:k<l.length:=Ao hb1;obtain⟨x,hx⟩:=Ah hkl;have htk:=KG hx;have hle:=NZ (l:=l) (k+1);have hpk:=Bu x;have hln:=DM l;have hrest:=IT (l.drop (k+1)) (l.take (k+1));rw[List.take_append_drop]at hrest;have hdl:=DM (l.drop (k+1));rw[List.length_drop]at hdl;refine wk 7 ?_;refine aq 16 (Ae Aj rfl rfl rfl rfl rfl rfl (Int.natCast_nonneg _) (ZI hx) rfl) ?_;refine wk 2 ?_;refine ax 19 (Bs Tryz.func69 (hrec x (List.mem_of_getElem? hx))) ?_;refine aq 20 (AG (r:=.int .i64 (((CE.partsL (l.take k)+(l.length-k)+CE.partsL x.kids:Nat):Int))) rfl rfl rfl Wm) ?_;refine wk 4 ?_;refine aq 12 (A8 rfl rfl hkl hlen) ?_;refine wk 2 ?_;exact⟨k+1,Drop.mk' (by repeat(first|exact EDrop.new _ _|refine EDrop.put ?_ (by first|rfl|exact congrArg (fun n=>some (AV.int .i64 n)) (by rw[htk,Bu];omega)) PS)) FT,hkl,by omega⟩
 refine Ej ?_;have hke:k=l.length:=Nat.le_antisymm hk (As hb1);exact aM
theorem Qb:∀(n:Nat) (l:List CE),CE.partsL l<=n->(∀e∈l,e.Ok)->l.length*64<=reachBytes->CE.partsL l<=1000000->Pu Tryz.prog 69 [(.lst false (l.map CE.cells))] (.int .i64 (CE.partsL l:Int))
 |0,l,hn,hk,hl,h1=>LI l (ca hl) h1 fun x hx=>absurd (B0 hx) (by have:=Bu x;omega)
 |n+1,l,hn,hk,hl,h1=>LI l (ca hl) h1 fun x hx=>Qb n x.kids (by have:=B0 hx;have:=Bu x;omega) (hk x hx).kidsOk.1 (hk x hx).kidsOk.2 (by have:=B0 hx;have:=Bu x;omega)
theorem LG(l:List CS)(hk:∀e∈l,e.Ok)(hlen:l.length<=maxLen)(hp:CS.partsL l<=1000000)(hrec:∀x∈l,Pu Tryz.prog 50 [(.lst false (x.thn.map CS.cells))] (.int .i64 (CS.partsL x.thn:Int))/\Pu Tryz.prog 50 [(.lst false (x.els.map CS.cells))] (.int .i64 (CS.partsL x.els:Int))):Pu Tryz.prog 50 [(.lst false (l.map CS.cells))] (.int .i64 (CS.partsL l:Int)):=by
 refine APure.of_body (n:=36) Aj Tryz.func50 rfl rfl ?_;refine wk 16 ?_;refine Aw (γ:=Nat) 0 (fun k=>⟨36,(Ad (Ad (Ad AM 0 (.lst false (l.map CS.cells))) 3 (.int .i64 ((CS.partsL (l.take k)+(l.length-k):Nat):Int))) 4 (iN k)),(AE 0)⟩) (fun k=>k<=l.length) (fun k=>l.length-k) 0 (Sub.mk' (by repeat(first|exact ESub.new _|refine ESub.put ?_ (by first|rfl|exact congrArg (fun n=>some (AV.int .i64 n)) (by simp[CS.partsL])))) Bn) (Nat.zero_le _) (fun _=>fun b hb=>BO hb) ?_;intro k hkk;refine wk 8 ?_;refine asp 10 (fun hb1=>?_) fun hb1=>?_
 .
  refine act ?_;have hkl:k<l.length:=Ao hb1;obtain⟨x,hx⟩:=Ah hkl;have hxm:=List.mem_of_getElem? hx;have hxk:=hk x hxm;have htk:=Jj hx;have hpk:=C6 x;have hrest:=Hs (l.drop (k+1)) (l.take (k+1));rw[List.take_append_drop]at hrest;have hdl:=Kx (l.drop (k+1));rw[List.length_drop]at hdl;refine wk 7 ?_;refine dq 16 (Ae Aj rfl rfl rfl rfl rfl rfl (Int.natCast_nonneg _) (ZH hx) rfl) ?_;refine wk 2 ?_;refine dx 19 (Bs Tryz.func69 (Qb _ x.es (Nat.le_refl _) hxk.esOk.1 hxk.esOk.2 Aa)) ?_;refine dq 20 (AG (r:=.int .i64 (((CS.partsL (l.take k)+(l.length-k)+CE.partsL x.es:Nat):Int))) rfl rfl rfl Wm) ?_;refine wk 2 ?_;refine dq 23 (Ae Aj rfl rfl rfl rfl rfl rfl (Int.natCast_nonneg _) (ZH hx) rfl) ?_;refine wk 2 ?_;refine dx 26 (Bs Tryz.func50 ((hrec x hxm).1)) ?_;refine dq 27 (AG (r:=.int .i64 (((CS.partsL (l.take k)+(l.length-k)+CE.partsL x.es+CS.partsL x.thn:Nat):Int))) rfl rfl rfl Wm) ?_;refine wk 2 ?_;refine dq 30 (Ae Aj rfl rfl rfl rfl rfl rfl (Int.natCast_nonneg _) (ZH hx) rfl) ?_;refine wk 2 ?_;refine dx 33 (Bs Tryz.func50 ((hrec x hxm).2)) ?_;refine dq 34 (AG (r:=.int .i64 (((CS.partsL (l.take k)+(l.length-k)+CE.partsL x.es+CS.partsL x.thn+CS.partsL x.els:Nat):Int))) rfl rfl rfl Wm) ?_
  refine wk 4 ?_;refine aq 12 (A8 rfl rfl hkl hlen) ?_;refine wk 2 ?_;exact⟨k+1,Drop.mk' (by repeat(first|exact EDrop.new _ _|refine EDrop.put ?_ (by first|rfl|exact congrArg (fun n=>some (AV.int .i64 n)) (by rw[htk,C6];omega)) PS)) FT,hkl,by omega⟩
 refine Ej ?_;have hke:k=l.length:=Nat.le_antisymm hkk (As hb1);exact aM
theorem LH:∀(n:Nat) (l:List CS),CS.partsL l<=n->(∀e∈l,e.Ok)->l.length*96<=reachBytes->CS.partsL l<=1000000->Pu Tryz.prog 50 [(.lst false (l.map CS.cells))] (.int .i64 (CS.partsL l:Int))
 |0,l,hn,hk,hl,h1=>LG l hk (Xy hl) h1 fun x hx=>absurd (CD hx) (by have:=C6 x;omega)
 |n+1,l,hn,hk,hl,h1=>LG l hk (Xy hl) h1 fun x hx=>⟨LH n x.thn YW (hk x hx).thnOk.1 (hk x hx).thnOk.2 YW,LH n x.els YW (hk x hx).elsOk.1 (hk x hx).elsOk.2 YW⟩
theorem UJ(C:Core)(hC:C.Ok)(hp:C.parts<=1000000):Pu Tryz.prog 30 [.agg C.cells] (.int .i64 (C.parts:Int)):=by
 refine APure.of_body (n:=22) Aj Tryz.func30 rfl rfl ?_;refine Rq ?_;refine ax 1 (Ek 2 0) ?_;refine wk 12 ?_;refine Aw (γ:=Nat) 1 (fun k=>⟨22,(Ad (Ad (Ad AM 1 (pZ 0)) 3 (.int .i64 ((((C.funcs.take k).map fun f=>CS.partsL f.body).sum:Nat):Int))) 4 (iN k)),(Ar (AE 1) 0 (rf 2 [C.cells]))⟩) (fun k=>k<=C.funcs.length) (fun k=>C.funcs.length-k) 0 (Sub.mk' AT Bn) (Nat.zero_le _) (fun _=>Dz) ?_;intro k hkk;refine wk 9 ?_;refine asp 9 (fun hb1=>?_) fun hb1=>?_
 .
  refine act ?_;have hkl:k<C.funcs.length:=Ao hb1;obtain⟨x,hx⟩:=Ah hkl;have hxm:=List.mem_of_getElem? hx;have htk:=WC (p:=fun f:CFn=>CS.partsL f.body) hx;have hle:=Zi (k+1) C;have hxb:=GT hxm;refine wk 8 ?_;refine aq 16 Ip ?_;refine wk 2 ?_;refine ax 19 (Bs Tryz.func50 (LH _ x.body (Nat.le_refl _) (hC.funcs x hxm).body (hC.funcs x hxm).len Aa)) ?_;refine aq 20 (AG (r:=.int .i64 ((((((C.funcs.take k).map fun f=>CS.partsL f.body).sum+CS.partsL x.body):Nat):Int))) rfl rfl rfl Wm) ?_;refine wk 4 ?_;refine aq 11 (A8 rfl rfl hkl (jU hC.len)) ?_;refine wk 2 ?_;exact⟨k+1,Drop.mk' (by repeat(first|exact EDrop.new _ _|refine EDrop.put ?_ (by first|rfl|exact congrArg (fun n=>some (AV.int .i64 n)) (by rw[htk])) PS)) FT,hkl,by omega⟩
 refine Ej ?_;have hke:k=C.funcs.length:=Nat.le_antisymm hkk (As hb1);refine wk 6 ?_;refine I9 ⟨[_],⟨rfl,trivial⟩,?_,rfl⟩;subst hke;rw[List.take_length];rfl
theorem Oh(C:Core)(ticks:Int)(hC:C.Ok)(hp:C.parts<=1000000)(h0:0<=C.words)(h1:C.words<=1000000)(h2:0<=ticks)(h3:ticks<=100000):Pu Tryz.prog 12 [.agg C.cells,.int .i64 ticks] (.int .i64 ((ticks+1)*C.k)):=by
 refine APure.of_body (n:=15) Aj Tryz.func12 rfl rfl ?_;refine Rq ?_;refine ax 2 (Ek 2 0) ?_;refine wk 5 ?_;refine dq 6 (AG (r:=.int .i64 (ticks+1)) rfl rfl rfl DL) ?_;refine dq 7 (AG (r:=.int .i64 ((ticks+1)*8)) rfl rfl rfl DL) ?_;refine wk 1 ?_;refine dx 9 (Bs Tryz.func30 (UJ C hC hp)) ?_;refine wk 2 ?_;refine dq 12 (AG (r:=.int .i64 ((C.parts:Int)+C.words)) rfl rfl rfl DL) ?_;refine dq 13 (AG (r:=.int .i64 ((C.parts:Int)+C.words+1)) rfl rfl rfl DL) ?_;refine dq 14 (AG (r:=.int .i64 ((ticks+1)*C.k)) rfl rfl rfl (by simp only[Bh,BP,isShift,cond_false,if_true];rw[show(ticks+1)*8*((C.parts:Int)+C.words+1)=(ticks+1)*C.k from ZN h0 ticks,BF (T2 hp h0 h1 h2 h3).1 (T2 hp h0 h1 h2 h3).2])) ?_;exact V8
theorem Zc(t:Tac):Pu Tryz.prog 71 [.agg t.cells] (.int .i64 t.sets):=by
 refine APure.of_body (n:=14) Aj Tryz.func71 rfl rfl ?_;refine Rq ?_;refine ax 1 (Ek 8 0) ?_;refine wk 15 ?_;refine asp 5 (fun hb1=>?_) fun hb1=>?_
 .
  refine wk 9 ?_;exact RF
 refine wk 6 ?_;refine asp 5 (fun hb2=>?_) fun hb2=>?_
 .
  refine wk 9 ?_;exact RF
 refine wk 6 ?_;refine asp 5 (fun hb3=>?_) fun hb3=>?_
 .
  refine wk 9 ?_;exact RF
 refine wk 6 ?_;refine asp 5 (fun hb4=>?_) fun hb4=>?_
 .
  refine wk 9 ?_;exact RF
 refine wk 6 ?_;refine asp 5 (fun hb5=>?_) fun hb5=>?_
 .
  refine wk 9 ?_;exact RF
 refine wk 5 ?_;refine asp 5 (fun hb6=>?_) fun hb6=>?_
 .
  refine wk 7 ?_;exact RF
 refine wk 6 ?_;exact RF
theorem Y8(t:Tac):Pu Tryz.prog 72 [.agg t.cells] (Pf t.uses):=by
 refine APure.of_body (n:=21) Aj Tryz.func72 rfl rfl ?_;refine Rq ?_;refine ax 1 (Ek 8 0) ?_;refine wk 15 ?_;refine asp 5 (fun hb1=>?_) fun hb1=>?_
 .
  refine wk 7 ?_;exact YH
 refine wk 6 ?_;refine asp 5 (fun hb2=>?_) fun hb2=>?_
 .
  refine wk 7 ?_;exact YH
 refine wk 6 ?_;refine asp 5 (fun hb3=>?_) fun hb3=>?_
 .
  refine wk 7 ?_;exact YH
 refine wk 5 ?_;refine asp 5 (fun hb4=>?_) fun hb4=>?_
 .
  refine wk 5 ?_;exact YH
 refine wk 7 ?_;refine asp 13 (fun hb5=>?_) fun hb5=>?_
 .
  refine wk 9 ?_;exact aO
 refine wk 5 ?_;refine asp 13 (fun hb6=>?_) fun hb6=>?_
 .
  refine wk 7 ?_;exact aO
 refine wk 6 ?_;refine AX (.empty 2 rfl) ?_;exact cF
theorem BZ(i j:Int):Pu Tryz.prog 70 [.int .i64 i,.int .i64 j] (.bool (A4 i j)):=by
 refine APure.of_body (n:=12) Aj Tryz.func70 rfl rfl ?_;refine wk 9 ?_;refine BC 7 (fun hb1=>?_) fun hb1=>?_
 .
  exact aG
 exact aG
theorem ZY(b:Block)(blocks regs:Int):Pu Tryz.prog 51 [.agg b.cells,.int .i64 blocks,.int .i64 regs] (.bool (b.ends blocks regs)):=by
 refine APure.of_body (n:=61) Aj Tryz.func51 rfl rfl ?_;refine Rq ?_;refine ax 3 (Ek 5 0) ?_;refine wk 14 ?_;refine asp 9 (fun hb1=>?_) fun hb1=>?_
 .
  refine wk 6 ?_;refine ax 14 (Bs Tryz.func70 (BZ _ _)) ?_;refine wk 1 ?_;refine BC 15 (fun hb2=>?_) fun hb2=>?_
  .
   refine wk 5 ?_;refine BC 20 (fun hb3=>?_) fun hb3=>?_
   .
    refine wk 6 ?_;exact Nh
   refine wk 6 ?_;exact Nh
  refine wk 11 ?_;exact Nh
 refine wk 6 ?_;refine asp 25 (fun hb4=>?_) fun hb4=>?_
 .
  refine wk 6 ?_;refine ax 30 (Bs Tryz.func70 (BZ _ _)) ?_;refine wk 1 ?_;refine BC 31 (fun hb5=>?_) fun hb5=>?_
  .
   refine wk 3 ?_;refine ax 35 (Bs Tryz.func70 (BZ _ _)) ?_;refine wk 2 ?_;refine BC 37 (fun hb6=>?_) fun hb6=>?_
   .
    refine wk 3 ?_;refine ax 41 (Bs Tryz.func70 (BZ _ _)) ?_;refine wk 3 ?_;exact Nh
   refine wk 7 ?_;exact Nh
  refine wk 13 ?_;exact Nh
 refine wk 8 ?_;refine BC 46 (fun hb7=>?_) fun hb7=>?_
 .
  refine wk 5 ?_;refine BC 51 (fun hb8=>?_) fun hb8=>?_
  .
   refine wk 5 ?_;refine BC 56 (fun hb9=>?_) fun hb9=>?_
   .
    refine wk 6 ?_;exact Nh
   refine wk 6 ?_;exact Nh
  refine wk 11 ?_;exact Nh
 refine wk 16 ?_;exact Nh
theorem ZS(t:Tac)(f regs words:Int)(hw:0<=words)(hw2:words<=1048576):Pu Tryz.prog 52 [.agg t.cells,.int .i64 f,.int .i64 regs,.int .i64 words] (.bool (t.fits f regs words)):=by
 refine APure.of_body (n:=166) Aj Tryz.func52 rfl rfl ?_;refine Rq ?_;refine ax 4 (Ek 8 0) ?_;refine wk 9 ?_;refine BC 15 (fun hb1=>?_) fun hb1=>?_
 .
  refine wk 10 ?_;exact aJ
 refine wk 5 ?_;refine asp 19 (fun hb2=>?_) fun hb2=>?_
 .
  refine wk 5 ?_;exact aJ
 refine wk 7 ?_;refine ax 9 (Lc Aj 1) ?_;refine wk 3 ?_;refine AK (γ:=Int) (fun d=>⟨166,(Ad (Ad (Ad (Ad (Ad AM 1 (.int .i64 f)) 2 (.int .i64 regs)) 3 (.int .i64 words)) 4 (pZ 0)) 9 (pZ 1)),(Ar (Ar (AE 2) 0 (rf 8 [t.cells])) 1 (rf 8 [[.int .i64 t.op,.int .i64 d,.int .i64 0,.int .i64 0,.int .i64 0,.int .i64 0,.int .i64 0,.int .u32 0]]))⟩) (fun d=>(!setsOp t.op||A4 t.d regs)=true/\d=bif setsOp t.op then t.d else 0) ?_ ?_
 .
  refine wk 3 ?_;refine ax 24 (Bs Tryz.func71 (Zc _)) ?_;refine wk 2 ?_;refine BC 26 (fun hb3=>?_) fun hb3=>?_
  .
   refine wk 43 ?_;refine ax 62 (Bs Tryz.func70 (BZ _ _)) ?_;refine wk 2 ?_;refine asp 63 (fun hb4=>?_) fun hb4=>?_
   .
    exact RG
   exact RI
  refine wk 5 ?_;refine BC 31 (fun hb5=>?_) fun hb5=>?_
  .
   refine wk 38 ?_;refine ax 62 (Bs Tryz.func70 (BZ _ _)) ?_;refine wk 2 ?_;refine asp 63 (fun hb6=>?_) fun hb6=>?_
   .
    exact RG
   exact RI
  refine wk 5 ?_;refine BC 36 (fun hb7=>?_) fun hb7=>?_
  .
   refine wk 33 ?_;refine ax 62 (Bs Tryz.func70 (BZ _ _)) ?_;refine wk 2 ?_;refine asp 63 (fun hb8=>?_) fun hb8=>?_
   .
    exact RG
   exact RI
  refine wk 5 ?_;refine BC 41 (fun hb9=>?_) fun hb9=>?_
  .
   refine wk 28 ?_;refine ax 62 (Bs Tryz.func70 (BZ _ _)) ?_;refine wk 2 ?_;refine asp 63 (fun hb10=>?_) fun hb10=>?_
   .
    exact RG
   exact RI
  refine wk 5 ?_;refine BC 46 (fun hb11=>?_) fun hb11=>?_
  .
   refine wk 23 ?_;refine ax 62 (Bs Tryz.func70 (BZ _ _)) ?_;refine wk 2 ?_;refine asp 63 (fun hb12=>?_) fun hb12=>?_
   .
    exact RG
   exact RI
  refine wk 5 ?_;refine BC 51 (fun hb13=>?_) fun hb13=>?_
  .
   refine wk 18 ?_;refine ax 62 (Bs Tryz.func70 (BZ _ _)) ?_;refine wk 2 ?_;refine asp 63 (fun hb14=>?_) fun hb14=>?_
   .
    exact RG
   exact RI
  refine wk 5 ?_;refine asp 55 (fun hb15=>?_) fun hb15=>?_
  .
   refine wk 13 ?_;refine ax 62 (Bs Tryz.func70 (BZ _ _)) ?_;refine wk 2 ?_;refine asp 63 (fun hb16=>?_) fun hb16=>?_
   .
    exact RG
   exact RI
  refine wk 2 ?_;exact⟨0,Sub.mk' AT Bn,⟨by simp[setsOp, *],by simp[setsOp, *]⟩⟩
 intro d ⟨hd,hdd⟩;refine wk 3 ?_;refine ax 65 (Bs Tryz.func72 (Y8 _)) ?_;refine wk 8 ?_;refine Aw (γ:=Nat) 2 (fun j=>⟨166,(Ad (Ad (Ad (Ad (Ad (Ad (Ad AM 1 (.int .i64 f)) 2 (.int .i64 regs)) 3 (.int .i64 words)) 4 (pZ 0)) 9 (pZ 1)) 10 (Pf t.uses)) 11 (iN j)),(Ar (Ar (AE 2) 0 (rf 8 [t.cells])) 1 (rf 8 [[.int .i64 t.op,.int .i64 d,.int .i64 0,.int .i64 0,.int .i64 0,.int .i64 0,.int .i64 0,.int .u32 0]]))⟩) (fun j=>(t.uses.take j).all (fun r=>A4 r regs)=true) (fun j=>t.uses.length-j) 0 (Sub.mk' AT Bn) rfl (fun _=>Dz) ?_;intro j hj;refine wk 8 ?_;refine asp 69 (fun hb17=>?_) fun hb17=>?_
 .
  refine act ?_;have hjl:j<t.uses.length:=Ao hb17;obtain⟨u,hu⟩:=Ah hjl;refine wk 7 ?_;refine aq 74 Ip ?_;refine wk 2 ?_;refine ax 77 (Bs Tryz.func70 (BZ _ _)) ?_;refine wk 2 ?_;refine asp 78 (fun hb18=>?_) fun hb18=>?_
  .
   refine act ?_;have hbw:=hb18;refine wk 4 ?_;refine I9 ⟨[_],⟨rfl,trivial⟩,?_,rfl⟩;refine bc ?_;exact(XO (Bp hu (by simpa using hbw))).symm
  refine Ej ?_;have hbw:=hb18;refine wk 3 ?_;refine aq 71 (A8 rfl rfl hjl (Nat.le_trans (Wx t) Ab)) ?_;exact fh
 refine Ej ?_;have hall:=BB hj (As hb17);refine wk 2 ?_;refine AK (γ:=Int) (fun a=>⟨166,(Ad (Ad (Ad (Ad (Ad (Ad AM 1 (.int .i64 f)) 2 (.int .i64 regs)) 3 (.int .i64 words)) 4 (pZ 0)) 9 (pZ 1)) 10 (Pf t.uses)),(Ar (Ar (AE 2) 0 (rf 8 [t.cells])) 1 (rf 8 [[.int .i64 t.op,.int .i64 d,.int .i64 a,.int .i64 0,.int .i64 0,.int .i64 0,.int .i64 0,.int .u32 0]]))⟩) (fun a=>a=bif use1 t.op||use2 t.op then t.a else 0) ?_ ?_
 .
  refine wk 6 ?_;refine asp 81 (fun hb19=>?_) fun hb19=>?_
  .
   refine wk 7 ?_;exact⟨t.a,Sub.mk' AT Bn,by have h3:=TC t.op;cases h1:use1 t.op<;>cases h2:use2 t.op<;>simp_all[Tac.uses]⟩
  exact fo
 intro a haa;refine VQ ?_;refine AK (γ:=Int) (fun b=>⟨166,(Ad (Ad (Ad (Ad (Ad AM 1 (.int .i64 f)) 2 (.int .i64 regs)) 3 (.int .i64 words)) 4 (pZ 0)) 9 (pZ 1)),(Ar (Ar (AE 2) 0 (rf 8 [t.cells])) 1 (rf 8 [[.int .i64 t.op,.int .i64 d,.int .i64 a,.int .i64 b,.int .i64 0,.int .i64 0,.int .i64 0,.int .u32 0]]))⟩) (fun b=>b=bif use2 t.op then t.b else 0) ?_ ?_
 .
  refine wk 6 ?_;refine asp 87 (fun hb20=>?_) fun hb20=>?_
  .
   refine wk 7 ?_;exact⟨t.b,Sub.mk' AT Bn,by have h3:=TC t.op;cases h1:use1 t.op<;>cases h2:use2 t.op<;>simp_all[Tac.uses]⟩
  exact fo
 intro b hbb;refine wk 12 ?_;refine asp 93 (fun hb21=>?_) fun hb21=>?_
 .
  refine wk 11 ?_;exact aD
 refine wk 6 ?_;refine asp 98 (fun hb22=>?_) fun hb22=>?_
 .
  refine wk 14 ?_;refine BC 106 (fun hb23=>?_) fun hb23=>?_
  .
   refine wk 10 ?_;exact V5
  refine wk 5 ?_;refine asp 110 (fun hb24=>?_) fun hb24=>?_
  .
   refine wk 5 ?_;exact V5
  refine wk 6 ?_;exact aD
 refine wk 7 ?_;refine asp 111 (fun hb25=>?_) fun hb25=>?_
 .
  refine wk 15 ?_;refine ax 120 (Bs Tryz.func70 (BZ _ _)) ?_;refine wk 2 ?_;refine asp 121 (fun hb26=>?_) fun hb26=>?_
  .
   refine wk 5 ?_;exact V5
  refine wk 6 ?_;exact aD
 refine wk 5 ?_;refine asp 111 (fun hb27=>?_) fun hb27=>?_
 .
  refine wk 13 ?_;refine ax 120 (Bs Tryz.func70 (BZ _ _)) ?_;refine wk 2 ?_;refine asp 121 (fun hb28=>?_) fun hb28=>?_
  .
   refine wk 5 ?_;exact V5
  refine wk 6 ?_;exact aD
 refine wk 7 ?_;refine asp 122 (fun hb29=>?_) fun hb29=>?_
 .
  refine wk 20 ?_;refine BC 134 (fun hb30=>?_) fun hb30=>?_
  .
   refine wk 24 ?_;exact PJ
  refine wk 5 ?_;refine BC 139 (fun hb31=>?_) fun hb31=>?_
  .
   refine wk 19 ?_;exact PJ
  refine wk 5 ?_;refine BC 144 (fun hb32=>?_) fun hb32=>?_
  .
   refine wk 14 ?_;exact PJ
  refine wk 9 ?_;refine asp 152 (fun hb33=>?_) fun hb33=>?_
  .
   refine wk 5 ?_;exact PJ
  refine wk 6 ?_;exact aD
 refine wk 5 ?_;refine asp 122 (fun hb34=>?_) fun hb34=>?_
 .
  refine wk 18 ?_;refine BC 134 (fun hb35=>?_) fun hb35=>?_
  .
   refine wk 24 ?_;exact PJ
  refine wk 5 ?_;refine BC 139 (fun hb36=>?_) fun hb36=>?_
  .
   refine wk 19 ?_;exact PJ
  refine wk 5 ?_;refine BC 144 (fun hb37=>?_) fun hb37=>?_
  .
   refine wk 14 ?_;exact PJ
  refine wk 9 ?_;refine asp 152 (fun hb38=>?_) fun hb38=>?_
  .
   refine wk 5 ?_;exact PJ
  refine wk 6 ?_;exact aD
 refine wk 6 ?_;refine asp 153 (fun hb39=>?_) fun hb39=>?_
 .
  refine wk 13 ?_;refine ax 161 (Bs Tryz.func70 (BZ _ _)) ?_;refine wk 2 ?_;refine asp 162 (fun hb40=>?_) fun hb40=>?_
  .
   refine wk 5 ?_;exact V5
  refine wk 6 ?_;exact aD
 refine wk 6 ?_;exact aD
theorem dT(f:BFunc)(number words:Int)(hw:0<=words)(hw2:words<=1048576):Pu Tryz.prog 31 [.agg f.cells,.int .i64 number,.int .i64 words] (.bool (f.one number words)):=by
 refine APure.of_body (n:=68) Aj Tryz.func31 rfl rfl ?_;refine VQ ?_;refine AGo.slot 0 rfl (fun H ι v=>UT) (fun hfit=>?_);refine kj ?_;refine ax 3 (Ek 2 0) ?_;refine wk 9 ?_;refine BC 12 (fun hb1=>?_) fun hb1=>?_
 .
  refine wk 16 ?_;exact Wb
 refine wk 5 ?_;refine BC 17 (fun hb2=>?_) fun hb2=>?_
 .
  refine wk 11 ?_;exact Wb
 refine wk 6 ?_;refine asp 22 (fun hb3=>?_) fun hb3=>?_
 .
  refine wk 5 ?_;exact Wb
 refine Ej ?_;have h0:0<=f.regs/\f.regs<=4000/\f.blocks.length≠0:=by simp_all<;>omega
 refine wk 7 ?_;refine Aw (γ:=Nat) 1 (fun k=>⟨68,(Ad (Ad (Ad (Ad AM 1 (.int .i64 number)) 2 (.int .i64 words)) 3 (pZ 0)) 7 (iN k)),(Ar (AE 1) 0 (rf 2 [f.cells]))⟩) (fun k=>(f.blocks.take k).all (fun x=>x.ok f.blocks.length f.regs number words)=true) (fun k=>f.blocks.length-k) 0 (Sub.mk' AT Bn) rfl (fun _=>Dz) ?_;intro k hk;refine wk 9 ?_;refine asp 27 (fun hb4=>?_) fun hb4=>?_
 .
  refine act ?_;have hkl:k<f.blocks.length:=Ao hb4;obtain⟨x,hx⟩:=Ah hkl;refine wk 9 ?_;refine dq 33 Ip ?_;refine wk 6 ?_;refine dx 40 (Bs Tryz.func51 (ZY x _ _)) ?_;refine dq 41 (TN rfl rfl) ?_;refine wk 1 ?_;refine asp 41 (fun hb5=>?_) fun hb5=>?_
  .
   refine act ?_;have hends:x.ends f.blocks.length f.regs=false:=by simpa using hb5
   refine wk 4 ?_;refine I9 ⟨[_],⟨rfl,trivial⟩,?_,rfl⟩;refine bc ?_;rw[O8 h0.1 h0.2.1 h0.2.2,Bp hx (by simp[Block.ok,hends])]
  refine Ej ?_;have hends:x.ends f.blocks.length f.regs=true:=by simpa using hb5
  refine wk 6 ?_;refine Aw (γ:=Nat) 1 (fun j=>⟨68,(Ad (Ad (Ad (Ad (Ad AM 1 (.int .i64 number)) 2 (.int .i64 words)) 3 (pZ 0)) 7 (iN k)) 8 (iN j)),(Ar (AE 1) 0 (rf 2 [f.cells]))⟩) (fun j=>(x.ins.take j).all (fun t=>t.fits number f.regs words)=true) (fun j=>x.ins.length-j) 0 (Sub.mk' AT Bn) rfl (fun _=>Dz) ?_;intro j hj;refine wk 7 ?_;refine aq 46 Ip ?_;refine wk 5 ?_;refine asp 50 (fun hb6=>?_) fun hb6=>?_
  .
   refine act ?_;have hjl:j<x.ins.length:=Ao hb6;obtain⟨u,hu⟩:=Ah hjl;refine wk 8 ?_;refine dq 56 Ip ?_;refine wk 3 ?_;refine dq 60 Ip ?_;refine wk 5 ?_;refine dx 66 (Bs Tryz.func52 (ZS u _ _ _ hw hw2)) ?_;refine dq 67 (TN rfl rfl) ?_;refine wk 1 ?_;refine asp 67 (fun hb7=>?_) fun hb7=>?_
   .
    refine act ?_;have hbw:=hb7;refine wk 4 ?_;refine I9 ⟨[_],⟨rfl,trivial⟩,?_,rfl⟩;refine bc ?_;rw[O8 h0.1 h0.2.1 h0.2.2,Bp hx (by simp only[Block.ok,Bp (p:=fun t=>Tac.fits t number f.regs words) hu (by simpa using hbw),Bool.and_false])]
   refine Ej ?_;have hbw:=hb7;refine wk 3 ?_;refine aq 52 (A8 rfl rfl hjl (hfit.2 x (List.mem_of_getElem? hx))) ?_;exact fh
  refine Ej ?_;have hins:=BB hj (As hb6);refine wk 3 ?_;refine aq 29 (A8 rfl rfl hkl hfit.1) ?_;refine wk 2 ?_;exact⟨k+1,Drop.mk' FSq FT,Dl hx hk (by simp[Block.ok,hends,hins]),by omega⟩
 refine Ej ?_;have hall:=BB hk (As hb4);refine wk 5 ?_;refine I9 ⟨[_],⟨rfl,trivial⟩,?_,rfl⟩;refine bc ?_;rw[O8 h0.1 h0.2.1 h0.2.2,hall]
theorem WN(b:Blocks):Pu Tryz.prog 15 [.agg b.cells] (.bool b.right):=by
 refine APure.of_body (n:=35) Aj Tryz.func15 rfl rfl ?_;refine VQ ?_;refine AGo.slot 0 rfl (fun H ι v=>Qp) (fun hfit=>?_);refine kj ?_;refine ax 1 (Ek 2 0) ?_;refine wk 9 ?_;refine BC 7 (fun hb1=>?_) fun hb1=>?_
 .
  refine wk 16 ?_;exact Wd
 refine wk 5 ?_;refine BC 12 (fun hb2=>?_) fun hb2=>?_
 .
  refine wk 11 ?_;exact Wd
 refine wk 6 ?_;refine asp 17 (fun hb3=>?_) fun hb3=>?_
 .
  refine wk 5 ?_;exact Wd
 refine Ej ?_;have h0:0<=b.words/\b.words<=1048576/\b.funcs.length≠0:=by simp_all<;>omega
 refine wk 7 ?_;refine Aw (γ:=Nat) 1 (fun k=>⟨35,(Ad (Ad AM 1 (pZ 0)) 3 (iN k)),(Ar (AE 1) 0 (rf 2 [b.cells]))⟩) (fun k=>(b.funcs.zipIdx.take k).all (fun p=>p.1.one (p.2:Int) b.words)=true) (fun k=>b.funcs.length-k) 0 (Sub.mk' AT Bn) rfl (fun _=>Dz) ?_;intro k hk;refine wk 9 ?_;refine asp 22 (fun hb4=>?_) fun hb4=>?_
 .
  refine act ?_;have hkl:k<b.funcs.length:=Ao hb4;obtain⟨x,hx⟩:=Ah hkl;refine wk 8 ?_;refine dq 28 Ip ?_;refine wk 4 ?_;refine dx 33 (Bs Tryz.func31 (dT x _ _ h0.1 h0.2.1)) ?_;refine dq 34 (TN rfl rfl) ?_;refine wk 1 ?_;refine asp 34 (fun hb5=>?_) fun hb5=>?_
  .
   refine act ?_;have hone:=hb5;refine wk 4 ?_;refine I9 ⟨[_],⟨rfl,trivial⟩,?_,rfl⟩;refine bc ?_;rw[NK h0.1 h0.2.1 h0.2.2,Bp (BK hx) (by simpa using hone)]
  refine Ej ?_;have hone:=hb5;refine wk 3 ?_;refine aq 24 (A8 rfl rfl hkl hfit.1) ?_;refine wk 2 ?_;exact⟨k+1,Drop.mk' FSq FT,Dl (BK hx) hk (by simpa using hone),by omega⟩
 refine Ej ?_;have hall:=BB hk (by rw[List.length_zipIdx];exact As hb4);refine wk 5 ?_;refine I9 ⟨[_],⟨rfl,trivial⟩,?_,rfl⟩;refine bc ?_;rw[NK h0.1 h0.2.1 h0.2.2,hall]
theorem TE(b:Blocks)(s:ByteArray)(fuel:Int)(m:Mach)(hfu:fuel<=9223372036854775807):Ca Tryz.prog 41 [.ptr 0 1 0 0] (Hh hNew b s fuel m) (.bool (AI fuel m).1) (Hh hNone b s fuel (AI fuel m).2):=by
 refine ACall.of_body (n:=22) Aj Tryz.func41 rfl rfl ?_;refine wk 17 ?_;refine asp 11 (fun hb1=>?_) fun hb1=>?_
 .
  refine wk 13 ?_;rw[QP hb1];exact⟨[_],⟨rfl,trivial⟩,rfl,HSub.put (HSub.put (HSub.put (HSub.none _) rfl) rfl) rfl⟩
 refine wk 8 ?_;refine aq 19 (A8 rfl rfl (show m.steps<fuel.toNat by have h:=hb1;simp at h;omega) DD) ?_;refine wk 9 ?_;rw[N2 hb1];exact⟨[_],⟨rfl,trivial⟩,rfl,HSub.put (HSub.put (HSub.put (HSub.none _) rfl) rfl) rfl⟩
theorem Zq(b:Blocks)(s:ByteArray)(fuel:Int)(call:Int->Mach->Mach)(t:Tac)(regs:List Int)(m:Mach)(n R:Nat)(ht:cf t n R b.words.toNat)(hr:Dc regs)(hlen:regs.length=R)(hm:m.good b.words.toNat)(h0:m.fin=0)(hbw:b.words<=1048576)(hs:s.size<=9223372036854775807)(hwn:CW t.n)
 (hcall:∀(i:Int),0<=i->i<n->Ca Tryz.prog 25 [.ptr 0 1 0 0,.int .i64 i] (Hh hNew b s fuel m) (.tup []) (Hh hNone b s fuel (call i m))):Ca Tryz.prog 42 [.ptr 0 1 0 0,.agg t.cells,.ref 4 R 0 R] (Ar (Hh hNew b s fuel m) 4 (rt 1 (Au regs))) (.tup []) (Ar (Hh hNone b s fuel (A7 call s t regs m).2) 4 (rt 1 (Au (A7 call s t regs m).1))):=by
 refine ACall.of_body (n:=211) Aj Tryz.func42 rfl rfl ?_;refine Rq ?_;refine ax 4 (Ek 8 5) ?_;refine wk 12 ?_;refine asp 10 (fun hb1=>?_) fun hb1=>?_
 .
  refine act ?_;have ho:t.op=1:=by simpa using hb1
  have hd:=ht.d (by simp[setsOp,ho]);refine wk 6 ?_;refine aq 17 (Ap Aj (hm:=Ci) (h0:=hd.1) (hn:=Ln)) ?_;refine AOps.w rfl rfl (BA Aj rfl rfl rfl rfl rfl rfl Ci (CH Ll) rfl Ab rfl Gc) ?_;refine an ?_;refine⟨[],trivial,rfl,?_⟩;rw[jR ho];exact Un
 refine wk 6 ?_;refine asp 18 (fun hb2=>?_) fun hb2=>?_
 .
  refine act ?_;have ho:t.op=2:=by simpa using hb2
  have hd:=ht.d (by simp[setsOp,ho]);have ha:=ht.a (by simp[use1,use2,ho]);refine wk 7 ?_;refine dq 26 (Ap Aj (hm:=Ci) (h0:=ha.1) (hn:=Ja)) ?_;refine dq 27 (BE Aj rfl rfl rfl (.ptr _ _ _ _ _ _ _ _ rfl Ci (CH Kp)) rfl) ?_;refine dq 28 (Ap Aj (hm:=Ci) (h0:=hd.1) (hn:=Ln)) ?_;refine DOps.w rfl rfl (BA Aj rfl rfl rfl rfl rfl rfl Ci (CH Ll) rfl Ab rfl Gc) ?_;refine wk 1 ?_;refine⟨[],trivial,rfl,?_⟩;rw[jQ ho];exact Un
 refine wk 6 ?_;refine asp 29 (fun hb3=>?_) fun hb3=>?_
 .
  refine act ?_;have ho:t.op=3:=by simpa using hb3
  have hd:=ht.d (by simp[setsOp,ho]);have ha:=ht.a (by simp[use1,use2,ho]);have hb:=ht.b (by simp[use2,ho]);refine wk 7 ?_;refine dq 37 (Ap Aj (hm:=Ci) (h0:=ha.1) (hn:=Ja)) ?_;refine dq 38 (BE Aj rfl rfl rfl (.ptr _ _ _ _ _ _ _ _ rfl Ci (CH Kp)) rfl) ?_;refine wk 3 ?_;refine dq 42 (Ap Aj (hm:=Ci) (h0:=hb.1) (hn:=(by have:=hb.2;omega))) ?_;refine dq 43 (BE Aj rfl rfl rfl (.ptr _ _ _ _ _ _ _ _ rfl Ci (CH (by have:=hb;omega))) rfl) ?_;refine dx 44 (Bs Tryz.func64 (NT t.k (Ak regs t.a) (Ak regs t.b) (DC hr _) (DC hr _))) ?_;refine wk 1 ?_;refine dq 45 (JW rfl rfl rfl) ?_;refine dq 46 (JW rfl rfl rfl) ?_;refine wk 9 ?_;refine asp 48 (fun hb4=>?_) fun hb4=>?_
  .
   refine wk 9 ?_;refine⟨[],trivial,rfl,?_⟩;rw[d6 ho hb4];exact V2
  refine wk 7 ?_;refine aq 56 (Ap Aj (hm:=Ci) (h0:=hd.1) (hn:=Ln)) ?_;refine AOps.w rfl rfl (BA Aj rfl rfl rfl rfl rfl rfl Ci (CH Ll) rfl Ab rfl Gc) ?_;refine an ?_;refine⟨[],trivial,rfl,?_⟩;rw[jP ho hb4];exact Un
 refine wk 6 ?_;refine asp 57 (fun hb5=>?_) fun hb5=>?_
 .
  refine act ?_;have ho:t.op=4:=by simpa using hb5
  have hd:=ht.d (by simp[setsOp,ho]);have hbs:=ht.base (by simp[ho]);refine wk 10 ?_;refine dq 68 (Ap Aj (hm:=Ks) (h0:=hbs.1) (hn:=(by have:=hbs.2;omega))) ?_;refine dq 69 (BE Aj rfl rfl rfl (.ptr _ _ _ _ _ _ _ _ rfl Ks (CH (by have:=hbs;have:=hm.len;omega))) rfl) ?_;refine dq 70 (Ap Aj (hm:=Ci) (h0:=hd.1) (hn:=Ln)) ?_;refine DOps.w rfl rfl (BA Aj rfl rfl rfl rfl rfl rfl Ci (CH Ll) rfl Ab rfl Gc) ?_;refine wk 1 ?_;refine⟨[],trivial,rfl,?_⟩;rw[jO ho];exact Un
 refine wk 6 ?_;refine asp 71 (fun hb6=>?_) fun hb6=>?_
 .
  refine act ?_;have ho:t.op=5:=by simpa using hb6
  have ha:=ht.a (by simp[use1,use2,ho]);have hbs:=ht.base (by simp[ho]);refine wk 10 ?_;refine dq 82 (Ap Aj (hm:=Ci) (h0:=ha.1) (hn:=Ja)) ?_;refine dq 83 (BE Aj rfl rfl rfl (.ptr _ _ _ _ _ _ _ _ rfl Ci (CH Kp)) rfl) ?_;refine dq 84 (Ap Aj (hm:=Ks) (h0:=hbs.1) (hn:=(by have:=hbs.2;omega))) ?_;refine DOps.w rfl rfl (BA Aj rfl rfl rfl rfl rfl rfl Ks (CH (by have:=hbs;have:=hm.len;omega)) rfl Ab rfl Gc) ?_;refine wk 1 ?_;refine⟨[],trivial,rfl,?_⟩;rw[jN ho];exact HSub.put (HSub.put (HSub.put (HSub.put (HSub.none _) rfl) Y2) rfl) rfl
 refine wk 7 ?_;refine asp 85 (fun hb7=>?_) fun hb7=>?_
 .
  refine wk 6 ?_;have ho:t.op=6\/t.op=7:=by simp_all
  have har:=ht.arr ho;have ha:=ht.a (by rcases ho with ho|ho<;>simp[use1,use2,ho]);have hwa:=DC hr t.a;have hwa1:=hwa.1;have hwa2:=hwa.2;refine wk 3 ?_;refine dq 91 (Ap Aj (hm:=Ci) (h0:=ha.1) (hn:=Ja)) ?_;refine dq 92 (BE Aj rfl rfl rfl (.ptr _ _ _ _ _ _ _ _ rfl Ci (CH Kp)) rfl) ?_;refine dq 93 (Co Aj rfl rfl rfl rfl rfl (r:=Ak regs t.a) PO) ?_;refine wk 2 ?_;refine dq 96 (Co Aj rfl rfl rfl rfl rfl (r:=t.size) PO) ?_;refine wk 2 ?_;refine asp 97 (fun hb8=>?_) fun hb8=>?_
  .
   refine act ?_;have hsz:=hb8;refine wk 8 ?_;refine⟨[],trivial,rfl,?_⟩;rw[TV ho hsz];exact V2
  refine Ej ?_;have hsz:=hb8;have hsz2:Ak regs t.a<t.size:=by simpa using hb8
  have hidx:0<=t.base+Ak regs t.a/\t.base+Ak regs t.a<b.words.toNat:=by omega
  refine wk 7 ?_;refine asp 103 (fun hb9=>?_) fun hb9=>?_
  .
   refine act ?_;have ho6:t.op=6:=by simpa using hb9
   exact fO
  refine Ej ?_;have ho7:t.op=7:=by have h:=hb9;simp at h;omega
  exact fN
 refine wk 5 ?_;refine asp 85 (fun hb10=>?_) fun hb10=>?_
 .
  refine wk 4 ?_;have ho:t.op=6\/t.op=7:=by simp_all
  have har:=ht.arr ho;have ha:=ht.a (by rcases ho with ho|ho<;>simp[use1,use2,ho]);have hwa:=DC hr t.a;have hwa1:=hwa.1;have hwa2:=hwa.2;refine wk 3 ?_;refine dq 91 (Ap Aj (hm:=Ci) (h0:=ha.1) (hn:=Ja)) ?_;refine dq 92 (BE Aj rfl rfl rfl (.ptr _ _ _ _ _ _ _ _ rfl Ci (CH Kp)) rfl) ?_;refine dq 93 (Co Aj rfl rfl rfl rfl rfl (r:=Ak regs t.a) PO) ?_;refine wk 2 ?_;refine dq 96 (Co Aj rfl rfl rfl rfl rfl (r:=t.size) PO) ?_;refine wk 2 ?_;refine asp 97 (fun hb11=>?_) fun hb11=>?_
  .
   refine act ?_;have hsz:=hb11;refine wk 8 ?_;refine⟨[],trivial,rfl,?_⟩;rw[TV ho hsz];exact V2
  refine Ej ?_;have hsz:=hb11;have hsz2:Ak regs t.a<t.size:=by simpa using hb11
  have hidx:0<=t.base+Ak regs t.a/\t.base+Ak regs t.a<b.words.toNat:=by omega
  refine wk 7 ?_;refine asp 103 (fun hb12=>?_) fun hb12=>?_
  .
   refine act ?_;have ho6:t.op=6:=by simpa using hb12
   exact fO
  refine Ej ?_;have ho7:t.op=7:=by have h:=hb12;simp at h;omega
  exact fN
 refine wk 6 ?_;refine asp 142 (fun hb13=>?_) fun hb13=>?_
 .
  refine act ?_;have ho:t.op=8:=by simpa using hb13
  have hd:=ht.d (by simp[setsOp,ho]);refine wk 5 ?_;refine aq 147 (Ap Aj (hm:=Ci) (h0:=hd.1) (hn:=Ln)) ?_;refine AOps.w rfl rfl (BA Aj rfl rfl rfl rfl rfl rfl Ci (CH Ll) rfl Ab rfl Gc) ?_;refine wk 14 ?_;refine asp 157 (fun hb14=>?_) fun hb14=>?_
  .
   refine act ?_;have hrd:m.read<s.size:=by have h:=hb14;simp at h;omega
   refine wk 13 ?_;refine dq 169 (DU (c:=FE s m.read) Aj rfl rfl rfl rfl rfl (Int.natCast_nonneg _) (Mu hrd)) ?_;refine dq 170 (Co Aj rfl rfl rfl rfl rfl (r:=((FE s m.read).toNat:Int)) (by rw[IntKind.wrap_u32];have:=(MU (FE s m.read)).2;omega)) ?_;refine dq 171 (Ap Aj (hm:=(by rw[List.length_set,AR,hlen])) (h0:=hd.1) (hn:=Ln)) ?_;refine DOps.w rfl rfl (BA Aj rfl rfl rfl rfl rfl rfl (by rw[List.length_set,AR,hlen]) (Ch (CH Ll)) rfl Ab rfl Gc) ?_;refine wk 6 ?_;refine aq 176 (A8 rfl rfl hrd DD) ?_;refine wk 4 ?_;refine⟨[],trivial,rfl,?_⟩;rw[jK ho hrd];exact Un
  refine Ej ?_;have hrd:¬m.read<s.size:=by have h:=hb14;simp at h;omega
  refine eN ?_;refine⟨[],trivial,rfl,?_⟩;rw[d5 ho hrd];exact Un
 refine wk 6 ?_;refine asp 179 (fun hb15=>?_) fun hb15=>?_
 .
  refine act ?_;have ho:t.op=9:=by simpa using hb15
  have ha:=ht.a (by simp[use1,use2,ho]);have hwa:=DC hr t.a;have hwa1:=hwa.1;have hwa2:=hwa.2;refine wk 10 ?_;refine asp 186 (fun hb16=>?_) fun hb16=>?_
  .
   refine act ?_;have hou:m.out.length>=65536:=by have h:=hb16;simp[AC]at h;omega
   refine wk 8 ?_;refine⟨[],trivial,rfl,?_⟩;rw[d4 ho hou];exact V2
  refine Ej ?_;have hou:¬m.out.length>=65536:=by have h:=hb16;simp[AC]at h;omega
  refine wk 10 ?_;refine dq 198 (Ap Aj (hm:=Ci) (h0:=ha.1) (hn:=Ja)) ?_;refine dq 199 (BE Aj rfl rfl rfl (.ptr _ _ _ _ _ _ _ _ rfl Ci (CH Kp)) rfl) ?_;refine dq 200 (Co Aj rfl rfl rfl rfl rfl (Nq hwa)) ?_;refine dx 201 EI ?_;refine dx 202 (Ba Aj (n:=m.out.length) (m:=1) rfl rfl rfl rfl rfl rfl rfl rfl rfl (by simp[AC]) rfl rfl (Nat.zero_lt_succ _) (.lst _ _) GK Hp rfl (by simp[AC,partVals];have:=hm.out;omega) (by simp[AC,partVals];simp only[maxLen];have:=hm.out;omega)) ?_;refine wk 4 ?_;refine⟨[],trivial,rfl,?_⟩;rw[jJ ho hou];exact HSub.put (HSub.put (HSub.put (HSub.put (HSub.none _) (by first|rfl|exact congrArg (fun n=>some (rf 9 [[.int .i64 b.words,JE b.funcs,.str s,.int .i64 fuel,.ref 1 b.words.toNat 0 b.words.toNat,.ref 2 n 0 n,.int .i64 (m.read:Int),.int .i64 (m.steps:Int),.int .i64 m.fin]])) At)) rfl) (by first|rfl|exact congrArg (fun es=>some (rt 1 es)) (by simp[AC,partVals];rfl))) rfl
 refine wk 6 ?_;refine asp 205 (fun hb17=>?_) fun hb17=>?_
 .
  refine act ?_;have ho:t.op=10:=by simpa using hb17
  have hcl:=ht.call ho;refine wk 4 ?_;refine ax 210 (dW (hcall t.base hcl.1 hcl.2) [2,1,0] [(0,(rf 9 [DE b s fuel (call t.base m)])),(1,(rt 1 (Au ((call t.base m)).words))),(2,(rt 1 (AC ((call t.base m)).out)))] rfl Tryz.func25 Al rfl rfl rfl Wj rfl RM Wk rfl) ?_;refine an ?_;refine⟨[],trivial,rfl,?_⟩;rw[SI ho];exact V2
 refine wk 2 ?_;exact absurd ht.op (by simp_all;omega)
theorem XL(b:Blocks)(s:ByteArray)(fuel:Int)(call:Int->Mach->Mach)(i:Int)(f:BFunc)(m:Mach)(hfu:fuel<=9223372036854775807)(hs:s.size<=9223372036854775807)(hbw:b.words<=1048576)(hf:b.funcs[i.toNat]?=some f)(hi:0<=i)(hone:f.one i b.words=true)
 (hfw:∀x∈f.blocks,XE x.ins) (hfl:∀x∈f.blocks,x.ins.length<=maxLen)
 (hcall:∀(j:Int) (m:Mach),0<=j->j<i->m.fin=0->m.good b.words.toNat->Ca Tryz.prog 25 [.ptr 0 1 0 0,.int .i64 j] (Hh hNew b s fuel m) (.tup []) (Hh hNone b s fuel (call j m)))
 (hcg:∀i m,m.good b.words.toNat->(call i m).good b.words.toNat) (hcs:∀i m,m.steps<=(call i m).steps) (hm:m.good b.words.toNat) (h0:m.fin=0):Ca Tryz.prog 25 [.ptr 0 1 0 0,.int .i64 i] (Hh hNew b s fuel m) (.tup []) (Hh hNone b s fuel (E6 call s fuel f (fuel.toNat+1) 0 (List.replicate f.regs.toNat 0) m)):=by
 have hsp:=Xc hone;refine ACall.of_body (n:=76) Aj Tryz.func25 rfl rfl ?_;refine wk 8 ?_;refine aq 15 (Ae Aj rfl rfl rfl rfl rfl rfl hi (EL hf) rfl) ?_;refine wk 1 ?_;refine ax 4 (Lc Aj 3) ?_;refine wk 6 ?_;refine ax 19 (FW Aj (n:=f.regs.toNat) (m:=f.regs.toNat) 4 true (hni:=(by have:=hsp.1;omega)) (hnj:=(by have:=hsp.1;omega)) (hby:=(by show 4*f.regs.toNat<=_;have:=hsp.2.1;omega)) (hm:=(by simp only[maxLen];have:=hsp.2.1;omega))) ?_;refine wk 7 ?_;refine Aw (γ:=FG) 5 (fun q=>⟨76,(Ad (Ad (Ad (Ad AM 0 (pZ 0)) 4 (pZ 3)) 5 (.ref 4 f.regs.toNat 0 f.regs.toNat)) 6 (.int .i64 q.i)),(Ar (Ar (Ar (Ar (Ar (AE 5) 0 (rf 9 [DE b s fuel q.m])) 1 (rt 1 (Au (q.m).words))) 2 (rt 1 (AC (q.m).out))) 3 (rf 2 [f.cells])) 4 (rt 1 (Au q.regs)))⟩) (fun q=>FInv call s fuel f b.words.toNat f.regs.toNat (E6 call s fuel f (fuel.toNat+1) 0 (List.replicate f.regs.toNat 0) m) q) (fun q=>q.g) ⟨0,List.replicate f.regs.toNat 0,m,fuel.toNat+1⟩ (Sub.mk' AT mL) (FInv.first hm h0 hsp.2.2.1) (fun _=>C8 (C8 (C8 (Dz) rfl) rfl) rfl) ?_
 intro q hF;refine wk 9 ?_;refine asp 24 (fun hb1=>?_) fun hb1=>?_
 .
  refine act ?_;obtain⟨k,hk⟩:=Ah (l:=f.blocks) (k:=q.i.toNat) (by have:=hF.i;omega);have hkm:=List.mem_of_getElem? hk;have hks:=hsp.2.2.2 k hkm;refine wk 7 ?_;refine aq 28 (Ae Aj rfl rfl rfl rfl rfl rfl hF.i.1 (EL hk) rfl) ?_;refine wk 1 ?_;refine ax 7 (Lc Aj 5) ?_;refine wk 8 ?_;refine Aw (γ:=IG) 6 (fun r=>⟨76,(Ad (Ad (Ad (Ad (Ad (Ad AM 0 (pZ 0)) 4 (pZ 3)) 5 (.ref 4 f.regs.toNat 0 f.regs.toNat)) 6 (.int .i64 q.i)) 7 (pZ 5)) 8 (iN r.j)),(Ar (Ar (Ar (Ar (Ar (Ar (AE 6) 0 (rf 9 [DE b s fuel r.m])) 1 (rt 1 (Au (r.m).words))) 2 (rt 1 (AC (r.m).out))) 3 (rf 2 [f.cells])) 4 (rt 1 (Au r.regs))) 5 (rf 5 [k.cells]))⟩) (fun r=>IInv call s fuel k q b.words.toNat f.regs.toNat r) (fun r=>k.ins.length-r.j) ⟨0,q.regs,q.m⟩ (Sub.mk' AT Bn) hF.start (fun _=>C8 (C8 (C8 (C8 (Dz) rfl) rfl) rfl) rfl) ?_;intro r hI;refine wk 9 ?_;refine asp 34 (fun hb2=>?_) fun hb2=>?_
  .
   refine act ?_;have hjl:r.j<k.ins.length:=Ao hb2;obtain⟨u,hu⟩:=Ah hjl;have hum:=List.mem_of_getElem? hu;have hut:=WA (hks.2 u hum);have huw:=hfw k hkm u hum;refine wk 7 ?_;refine ax 38 (dW (TE b s fuel r.m hfu) [2,1,0] [(0,(rf 9 [DE b s fuel (AI fuel r.m).2])),(1,(rt 1 (Au ((AI fuel r.m).2).words))),(2,(rt 1 (AC ((AI fuel r.m).2).out)))] rfl Tryz.func41 Al rfl rfl rfl Wj rfl RM Wk rfl) ?_;refine wk 2 ?_;refine asp 39 (fun hb3=>?_) fun hb3=>?_
   .
    refine act ?_;have hst:(AI fuel r.m).1=false:=by simpa using hb3
    refine I9 ?_;refine⟨[],trivial,rfl,?_⟩;rw[show(E6 call s fuel f (fuel.toNat+1) 0 (List.replicate f.regs.toNat 0) m)=_ from j9 hF hk hI hu hst];exact HSub.put (HSub.put (HSub.put (HSub.none _) rfl) rfl) rfl
   refine Ej ?_;have hst:(AI fuel r.m).1=true:=by simpa using hb3
   have hsf:(AI fuel r.m).2.fin=0:=by rw[(GV hst).2];exact hI.fin
   refine wk 7 ?_;refine aq 44 Ip ?_;refine wk 2 ?_;refine ax 47 (dW (Zq b s fuel call u r.regs (AI fuel r.m).2 i.toNat f.regs.toNat hut hI.regs hI.len (DN hI.good) hsf hbw hs huw (fun j h1 h2=>hcall j _ h1 Aa hsf (DN hI.good))) [4,2,1,0] [(0,(rf 9 [DE b s fuel (A7 call s u r.regs (AI fuel r.m).2).2])),(1,(rt 1 (Au ((A7 call s u r.regs (AI fuel r.m).2).2).words))),(2,(rt 1 (AC ((A7 call s u r.regs (AI fuel r.m).2).2).out))),(4,(rt 1 (Au (A7 call s u r.regs (AI fuel r.m).2).1)))] rfl Tryz.func42 Al rfl rfl rfl Wj rfl RM Wk rfl) ?_;refine wk 9 ?_;refine asp 52 (fun hb4=>?_) fun hb4=>?_
   .
    refine act ?_;have hnz:=hb4;refine I9 ?_;refine⟨[],trivial,rfl,?_⟩;rw[show(E6 call s fuel f (fuel.toNat+1) 0 (List.replicate f.regs.toNat 0) m)=_ from j8 hF hk hI hu hst hnz];exact HSub.put (HSub.put (HSub.put (HSub.none _) rfl) rfl) rfl
   refine Ej ?_;have hnz:=hb4;refine wk 3 ?_;refine aq 36 (A8 rfl rfl hjl (hfl k hkm)) ?_;refine wk 2 ?_;exact⟨⟨r.j+1,(A7 call s u r.regs (AI fuel r.m).2).1,(A7 call s u r.regs (AI fuel r.m).2).2⟩,Drop.mk' FSq FT,(hI.next hcg hcs hu huw hst hnz),(by show k.ins.length-(r.j+1)<k.ins.length-r.j;omega)⟩
  refine Ej ?_;have hge:=As hb2;refine wk 5 ?_;refine ax 54 (dW (TE b s fuel r.m hfu) [2,1,0] [(0,(rf 9 [DE b s fuel (AI fuel r.m).2])),(1,(rt 1 (Au ((AI fuel r.m).2).words))),(2,(rt 1 (AC ((AI fuel r.m).2).out)))] rfl Tryz.func41 Al rfl rfl rfl Wj rfl RM Wk rfl) ?_;refine wk 2 ?_;refine BC 56 (fun hb5=>?_) fun hb5=>?_
  .
   refine wk 7 ?_;exact fc
  have hst:(AI fuel r.m).1=true:=by simpa using hb5
  refine wk 5 ?_;refine asp 60 (fun hb6=>?_) fun hb6=>?_
  .
   refine wk 2 ?_;exact fc
  refine wk 14 ?_;refine BC 66 (fun hb7=>?_) fun hb7=>?_
  .
   have hv:=eH hks.1 hb7;refine wk 3 ?_;refine aq 70 (Ap Aj (hm:=(by rw[AR,hI.len])) (h0:=hv.1) (hn:=(by have:=hv.2;omega))) ?_;refine aq 71 (BE Aj rfl rfl rfl (.ptr _ _ _ _ _ _ _ _ rfl (by rw[AR,hI.len]) (CH (by have:=hv;have:=hI.len;omega))) rfl) ?_;refine wk 3 ?_;refine asp 73 (fun hb8=>?_) fun hb8=>?_
   .
    refine wk 6 ?_;exact cO
   refine wk 2 ?_;exact cO
  refine wk 10 ?_;exact cO
 refine Ej ?_;have hbad:=hb1;refine wk 1 ?_;exact absurd hF.fin (by simpa using hbad)
theorem XM(b:Blocks)(s:ByteArray)(fuel:Int)(hfu:fuel<=9223372036854775807)(hs:s.size<=9223372036854775807)(hb:b.right=true)(hbw:b.insW)(hbl:∀f∈b.funcs,∀x∈f.blocks,x.ins.length<=maxLen):
 ∀(n:Nat) (i:Int) (m:Mach),0<=i->i<n->i<b.funcs.length->m.fin=0->m.good b.words.toNat->Ca Tryz.prog 25 [.ptr 0 1 0 0,.int .i64 i] (Hh hNew b s fuel m) (.tup []) (Hh hNone b s fuel (El b s fuel n i m))
 |0,i,m,h1,h2,_,_,_=>absurd h2 Aa
 |n+1,i,m,h1,h2,h3,h4,h5=>by
  obtain⟨f,hf⟩:=Ah (l:=b.funcs) (k:=i.toNat) Aa;have hr:=LM hb;have hfm:=List.mem_of_getElem? hf;have hone:f.one i b.words=true:=by
   have:=hr.2.2.2 i.toNat f hf;rwa[Int.toNat_of_nonneg h1]at this
  have key:=XL b s fuel (El b s fuel n) i f m hfu hs hr.2.1 hf h1 hone (hbw f hfm) (hbl f hfm)
   (fun j m' j1 j2 j3 j4=>XM b s fuel hfu hs hb hbw hbl n j m' j1 Aa Aa j3 j4) (fun j m' hg=>N7 hbw n j m' hg) (fun j m'=>Fz n j m') h5 h4
  have e:El b s fuel (n+1) i m=E6 (El b s fuel n) s fuel f (fuel.toNat+1) 0 (List.replicate f.regs.toNat 0) m:=by
   rw[El,hf]
  rw[e];exact key
theorem WK(b:Blocks)(s:ByteArray)(fuel:Int)(hfu:fuel<=9223372036854775807)(hs:s.size<=9223372036854775807)(hb:b.right=true)(hbw:b.insW)(hbl:∀f∈b.funcs,∀x∈f.blocks,x.ins.length<=maxLen):Pu Tryz.prog 10 [.agg b.cells,.str s,.int .i64 fuel] (.agg (Jp (JA b s fuel))):=by
 have hr:=LM hb;have hne:0<b.funcs.length:=List.length_pos_iff.2 hr.2.2.1;refine APure.of_body (n:=51) Aj Tryz.func10 rfl rfl ?_;refine VQ ?_;refine AGo.slot 0 rfl (fun H ι v=>Qp) (fun hfit=>?_);refine kj ?_;refine ax 3 (Ek 2 3) ?_;refine ax 6 (Lc Aj 4) ?_;refine wk 9 ?_;refine asp 11 (fun hb1=>?_) fun hb1=>?_
 .
  refine wk 7 ?_;exact absurd hne (by have h:=hb1;simp[JE]at h;simp[h])
 refine wk 3 ?_;refine AK (γ:=Unit) (fun _u=>⟨51,(Ad (Ad (Ad (Ad (Ad AM 0 (.agg b.cells)) 1 (.str s)) 3 (pZ 3)) 6 (pZ 4)) 2 (.int .i64 (E2 fuel))),(Ar (Ar (Ar (Ar (Ar (AE 5) 3 (rf 2 [b.cells])) 4 (rf 3 [[.int .i64 0,.str .empty,.int .i64 0]])) 0 .free) 1 .free) 2 .free)⟩) (fun _u=>True) ?_ ?_
 .
  refine wk 5 ?_;refine asp 14 (fun hb2=>?_) fun hb2=>?_
  .
   refine wk 4 ?_;exact fj
  refine wk 2 ?_;exact fj
 intro _u _;refine VQ ?_;have hfu0:E2 fuel<=9223372036854775807:=by unfold E2;cases decide (fuel<0)<;>simp<;>omega
 have m0_good:(m0 b).good b.words.toNat:=⟨by simp[m0],GH _,by simp[m0]⟩;refine wk 6 ?_;refine dx 20 (FW Aj (n:=b.words.toNat) (m:=b.words.toNat) 1 true (hni:=(by have:=hr.1;omega)) (hnj:=(by have:=hr.1;omega)) (hby:=(by show 4*b.words.toNat<=_;have:=hr.2.1;omega)) (hm:=(by simp only[maxLen];have:=hr.2.1;omega))) ?_;refine wk 1 ?_;refine dx 22 (Ek 9 0) ?_;refine wk 3 ?_;refine AX (.dryCell 0 0 5 2 1 true rfl rfl rfl rfl rfl Ab) ?_;refine AGo.sub (s':=⟨51,(Ad (Ad (Ad (Ad (Ad AM 0 (.agg b.cells)) 1 (.str s)) 3 (pZ 3)) 6 (pZ 4)) 7 (pZ 0)),(Ar (Ar (Ar (Ar (Ar hNone 0 (rf 9 [DE b s (E2 fuel) (m0 b)])) 1 (rt 1 (Au ((m0 b)).words))) 2 (rt 1 (AC ((m0 b)).out))) 3 (rf 2 [b.cells])) 4 (rf 3 [[.int .i64 0,.str .empty,.int .i64 0]]))⟩) (Sub.mk' AT mL) ?_;refine kj ?_;have hmx:=hfit.1;refine wk 4 ?_;refine aq 27 (AG (r:=.int .i64 ((b.funcs.length:Int)-1)) rfl rfl rfl (by simp only[Bh,BP,isShift,cond_false,if_true];rw[List.length_map,BF Aa (by simp only[maxLen]at hmx;omega)])) ?_;refine ax 28 (dW (XM b s (E2 fuel) hfu0 hs hb hbw hbl b.funcs.length ((b.funcs.length:Int)-1) (m0 b) Aa Aa Aa rfl m0_good) [2,1,0] [(0,(rf 9 [DE b s (E2 fuel) (El b s (E2 fuel) b.funcs.length ((b.funcs.length:Int)-1) (m0 b))])),(1,(rt 1 (Au ((El b s (E2 fuel) b.funcs.length ((b.funcs.length:Int)-1) (m0 b))).words))),(2,(rt 1 (AC ((El b s (E2 fuel) b.funcs.length ((b.funcs.length:Int)-1) (m0 b))).out)))] rfl Tryz.func25 Al rfl rfl rfl Wj rfl RM Wk rfl) ?_;refine wk 2 ?_;refine AK (γ:=Mach) (fun m=>⟨51,(Ad (Ad (Ad (Ad (Ad AM 0 (.agg b.cells)) 1 (.str s)) 3 (pZ 3)) 6 (pZ 4)) 7 (pZ 0)),(Ar (Ar (Ar (Ar (Ar hNone 0 (rf 9 [DE b s (E2 fuel) m])) 1 (rt 1 (Au (m).words))) 2 (rt 1 (AC (m).out))) 3 (rf 2 [b.cells])) 4 (rf 3 [[.int .i64 0,.str .empty,.int .i64 0]]))⟩) (fun m=>m=JA b s fuel) ?_ ?_
 .
  refine wk 8 ?_;refine asp 33 (fun hb3=>?_) fun hb3=>?_
  .
   refine wk 7 ?_;exact⟨{(El b s (E2 fuel) b.funcs.length ((b.funcs.length:Int)-1) (m0 b))with fin:=1},Sub.mk' AT Bn,(by simp[JA, *])⟩
  refine wk 2 ?_;exact⟨(El b s (E2 fuel) b.funcs.length ((b.funcs.length:Int)-1) (m0 b)),Sub.mk' AT Bn,(by simp[JA, *])⟩
 intro m hm;refine VQ ?_;refine AX (.freezeCell 0 0 5 2 rfl rfl rfl rfl (by simp[AC]) Ab) ?_;refine wk 9 ?_;refine dq 45 (LX (l:=m.out) Aj rfl f8 rfl rfl rfl rfl rfl rfl) ?_;refine wk 8 ?_;refine⟨[_],⟨⟨_,_,_,_,rfl,rfl,.ptr _ _ _ _ _ _ _ _ rfl rfl rfl,rfl⟩,trivial⟩,?_,rfl⟩;subst hm;rfl
theorem Xj(n:Int):Pu Tryz.prog 14 [.int .u32 n] (.agg (Vn n).cells):=by
 refine APure.of_body (n:=5) Aj Tryz.func14 rfl rfl ?_;refine Rq ?_;refine ax 2 (Lc Aj 0) ?_;refine wk 4 ?_;refine aq 4 (Hc (y:=.agg (Vn n).cells) Uu (fun _ _ _ h=>Lj h rfl)) ?_;refine wk 3 ?_;exact Wc
theorem W0(e:CE):Pu Tryz.prog 13 [.agg e.cells] (.agg (WJ e).cells):=by
 obtain⟨k_,o_,n_,s_,z_,l_⟩:=e;refine APure.of_body (n:=6) Aj Tryz.func13 rfl rfl ?_;refine Rq ?_;refine ax 1 (Ek 6 0) ?_;refine ax 2 (Lc Aj 1) ?_;refine wk 4 ?_;refine ax 4 EI ?_;refine aq 5 (Hc (y:=.agg (WJ (.mk k_ o_ n_ s_ z_ l_)).cells) Uu (fun _ _ _ h=>Lj h rfl)) ?_;refine wk 3 ?_;exact Wc
theorem Tm:Pu Tryz.prog 4 [] (.bool true):=by
 refine APure.of_body (n:=21) Aj Tryz.func4 rfl rfl ?_;refine wk 6 ?_;refine ax 3 (Bs Tryz.func14 (Xj 65)) ?_;refine ax 4 (Bs Tryz.func13 (W0 (Vn 65))) ?_;refine ax 5 EI ?_;refine wk 1 ?_;refine ax 7 EI ?_;refine wk 1 ?_;refine ax 1 (Lc Aj 0) ?_;refine wk 5 ?_;refine ax 10 (Bs Tryz.func11 (MW aliveC alive_bld.ok alive_bld.r alive_bld.okL alive_bld.partsL)) ?_;refine ax 2 (Lc Aj 1) ?_;refine wk 5 ?_;refine dx 12 (Bs Tryz.func15 ((WN aliveC.build).mono (fun r h=>by rw[h,alive_bld.right]))) ?_;refine wk 3 ?_;refine dx 16 (Bs Tryz.func12 (Oh aliveC 0 alive_bld.ok (by have:=alive_bld.parts;omega) alive_bld.r.w0 (by have:=alive_bld.r.w1;omega) Np Np)) ?_;refine dx 17 (Bs Tryz.func10 (WK aliveC.build ⟨#[]⟩ _ (T3 (n:=0) Ab alive_bld.kle) Np alive_bld.right alive_bld.w alive_bld.ins2)) ?_;refine wk 1 ?_;refine dx 19 (Bs Tryz.func9 ((Oq _ ⟨[],[65],0,0,1⟩).mono (fun r h=>h.trans (congrArg AV.bool (Oo (M3 _).1 (M3 _).2))))) ?_;refine dq 20 (Hy true rfl rfl rfl rfl) ?_;exact V8
theorem Nl(p:PProg)(s:ByteArray)(hp:p.Ok):Pu Tryz.prog 3 [.agg p.cells,.str s] (.bool true):=by
 refine APure.of_body (n:=51) Aj Tryz.func3 rfl rfl ?_;refine wk 2 ?_;refine ax 2 (Ek 3 0) ?_;refine wk 5 ?_;refine ax 8 (Bs Tryz.func4 (Tm)) ?_;refine wk 8 ?_;refine ax 11 (Bs Tryz.func5 (XS p 200 Ab Ab)) ?_;refine wk 2 ?_;refine BC 13 (fun hb1=>?_) fun hb1=>?_
 .
  refine wk 16 ?_;exact PI
 refine wk 1 ?_;refine ax 15 (Bs Tryz.func6 (LO p)) ?_;refine wk 3 ?_;refine BC 18 (fun hb2=>?_) fun hb2=>?_
 .
  refine wk 11 ?_;exact PI
 refine wk 5 ?_;refine asp 22 (fun hb3=>?_) fun hb3=>?_
 .
  refine wk 6 ?_;exact PI
 refine wk 1 ?_;have hfew:p.few 200=true:=by have h:=hb1;simpa using h
 have hrt:p.right=true:=by have h:=hb2;simpa using h
 have hs60_s:s.size<=60:=by have h:=hb3;simp at h;omega
 have hsz:=WM (eA hfew) hrt;refine wk 4 ?_;refine ax 25 (Bs Tryz.func7 (Zw p hsz)) ?_;refine wk 3 ?_;refine ax 5 (Lc Aj 1) ?_;refine wk 1 ?_;refine wk 8 ?_;refine BC 30 (fun hb4=>?_) fun hb4=>?_
 .
  refine wk 11 ?_;exact PI
 refine wk 5 ?_;refine asp 34 (fun hb5=>?_) fun hb5=>?_
 .
  refine wk 6 ?_;exact PI
 refine wk 1 ?_;have hE:TQ p=0:=by have h:=hb4;simpa using h
 obtain⟨hsnd,hw,e1,e2⟩:=Zv hE;obtain⟨hF,hB⟩:=R7 hp hfew hsnd hw;rw[e1,e2];refine wk 5 ?_;refine ax 37 (Bs Tryz.func8 (WL p s 60 hsz Ab Aa hp hF.fit hF.main (TH hrt) rfl)) ?_;refine ax 7 (Lc Aj 2) ?_;refine wk 1 ?_;refine wk 8 ?_;refine asp 40 (fun hb6=>?_) fun hb6=>?_
 .
  refine wk 6 ?_;exact PI
 refine wk 1 ?_;have h5:(Js p s 60).fin≠5:=by have h:=hb6;simpa using h
 have hcr:=UY hF s 60 h5;have hst:=Z5 p.core s 60;rw[hcr.2.2]at hst;have hst2:((Js p s 60).steps:Int)<=60:=hst;have hend:=hB.ends (s:=s) (fuel:=60) (by rw[hcr.1];exact h5) (n:=(Js p s 60).steps) (by rw[hcr.2.2];exact Nat.le_refl _);rw[hcr.1,hcr.2.1]at hend;refine wk 4 ?_;refine dx 42 (Bs Tryz.func11 (MW p.core hB.ok hB.r hB.okL hB.partsL)) ?_;refine wk 4 ?_;refine dx 47 (Bs Tryz.func12 (Oh p.core ((Js p s 60).steps:Int) hB.ok (by have:=hB.parts;omega) hB.r.w0 (by have:=hB.r.w1;omega) Np Np)) ?_;refine dx 48 (Bs Tryz.func10 (WK p.core.build s _ (T3 (n:=(Js p s 60).steps) Aa hB.kle) Np hB.right hB.w hB.ins2)) ?_;refine wk 1 ?_;refine dx 50 (Bs Tryz.func9 ((Oq _ (Js p s 60)).mono (fun r h=>h.trans (congrArg AV.bool (Oo hend.1 hend.2))))) ?_;refine wk 3 ?_;exact PI
end Go.Proofs.YtmfihmkopmgelaaGreat.Sv
namespace Go.Proofs.YtmfihmkopmgelaaGreat
open Go.ChangeShapes Go.WideShapes Go.ChangeAt Go.RowKit Sv
set_option linter.unusedVariables false

set_option maxRecDepth 100000 in
theorem buildMeans_lifted(os:Os)(started:os.Started)(H:Type)(enc:TypeId×Value->H):
 ReturnsInHanded {} Tryz.checked os 3 .any (Rows.buildMeansSpec.pre6 enc Tryz.prog Tryz.f3 Rows.buildMeansRow.domain false) (Rows.buildMeansSpec.post enc Tryz.prog Tryz.f3 false true false false):=by
 refine returnsInHanded_of_change_sized (C:=Tryz.checked) own' started (by kernel_rfl) Tryz.func3
  (ChangeSpec.witness6 (enc:=enc) (C:=Tryz.checked) false ⟨#[],#[.agg #[.slice none 0 0,.slice none 0 0,.slice none 0 0],.string ⟨#[]⟩],[]⟩ 8 (by kernel_rfl) (by kernel_rfl) (by kernel_rfl) (by kernel_rfl)) ?_
 intro W base args ds gs before hval0 hW hcnd hwt0 hh;have hval:∀(j:Nat) t v,Tryz.f3.params[j]?=some t->args[j]?=some v->Value.okWide Tryz.prog W .any base t v:=hval0
 have hW':=hW;obtain⟨p,q,hA0,hV,rfl,hfz,hnd⟩:=hW;have hA:DataW.TrodAll enc Tryz.prog W 0 (fun _=>true) true Tryz.f3.params.toList args.toList ds p:=hA0;have hwt:(DataW.weightsEach Tryz.prog (Tryz.f3.params.toList++Rows.buildMeansSpec.plain.varTypes Tryz.prog) (ds++gs)).all (· <=reachBytes)=true:=hwt0;rw[Tryz.params3]at hA hval hwt;obtain⟨v0,vs0,d0,ds0,p0,q0,hargs,rfl,rfl,h0,r0⟩:=trodAll_cons hA;obtain⟨v1,vs1,d1,ds1,p1,q1,rfl,rfl,rfl,h1,r1⟩:=trodAll_cons r0;obtain⟨rfl,rfl,rfl⟩:=trodAll_nil r1;obtain rfl:args= #[v0,v1]:=by cases args;simp_all
 obtain⟨rfl,rfl⟩:=trodVars_none hV;obtain⟨x0,e0,g0⟩:=Ue h0 (C2 hwt (i:=0) rfl rfl) decProg;obtain⟨x1,e1,g1⟩:=Ue h1 (C2 hwt (i:=1) rfl rfl) decStr;exact Vc laidOut' rfl (by kernel_rfl) rfl bool' rfl rfl rfl hW' (.cons (e0.val (Su Aj rfl rfl (hval 0 26 v0 rfl rfl))) (.cons (e1.val1 (okWide_cellS Aj rfl rfl (hval 1 9 v1 rfl rfl))) .nil)) (Nl x0 x1 g0) (fun g l h=>by cases h)

theorem buildMeans_holds:Rows.BuildMeansSaid:=
 OpenClaim.holds_of_wide 3 Tryz.f3 rfl rfl rfl rfl rfl rfl rfl ⟨rfl,rfl,rfl,rfl,rfl⟩ rfl rfl rfl rfl rfl (by kernel_rfl) Tryz.func3 (by kernel_rfl)
  (of_decide_eq_true (by kernel_rfl)) (by unfold Func.isWrapper;first|(rw[if_pos (by decide+kernel)];kernel_rfl)|(rw[if_neg (by decide+kernel)];exact⟨rfl,rfl⟩))
  (fun os started H enc _=>buildMeans_lifted os started H enc)

end Go.Proofs.YtmfihmkopmgelaaGreat
