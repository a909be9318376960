/-
  The law OptimizeSplits of the given program answers true for every input of the bulk that is named, and leaves its arguments as they were. Own work.
-/
import Derived.Test.YtbbfelelocccmaaGreatPOptimizeSplits6
import Derived.Test.YtbbfelelocccmaaGreatPOptimizeSplits7
import Derived.Test.YtbbfelelocccmaaGreatPOptimizeSplits2
import Derived.Test.YtbbfelelocccmaaGreatPOptimizeSplits4
import Derived.Test.YtbbfelelocccmaaGreatPOptimizeSplits3
import Derived.Test.YtbbfelelocccmaaGreatPOptimizeSplits5
import Derived.Deep.CondSized
import Derived.JoinedCond
set_option linter.unusedVariables false
set_option linter.unusedSimpArgs false
set_option maxRecDepth 100000
set_option maxHeartbeats 2000000
namespace Go.Proofs.YtbbfelelocccmaaGreat.Sv
open Go
theorem Yg(f:BFunc)(hs:f.sane)(hn0:0<f.blocks.length)(hn:f.blocks.length<=100000)(hr:f.regs<=100000)(hi: ∀x∈f.blocks,x.ins.length<=100000):APure Tryz.prog 43 [.agg f.cells] (fun r=>r= .tup [.agg (U2 f).cells,.agg [MU (Hk (U2 f))]]):=by
 have hr0:=hs.regs;obtain⟨R,hRf⟩: ∃R:Nat,f.regs=(R:Int):=⟨f.regs.toNat,by omega⟩
 have hR:R<=100000:=by omega
 refine APure.of_body (n:=83) Ah Tryz.func43 rfl rfl ?_;refine LN ?_;refine ax 1 (Fx 2 0) ?_;refine ax 2 (Ew Ah 1) ?_;refine ax 3 (Ew Ah 9) ?_;refine wk 4 ?_;refine AOps.call 10 (hn:=Ey _ (DH (HG f R (SB f) ((List.range R).map By) (R) (fun b=>decide (b<R))) (DF f R (SB f) G0))) (r:=.ptr 2 1 0 0) rfl rfl rfl (ag (W:=hNew) (W':=(DH (HG f R (SB f) ((List.range R).map By) (R) (fun b=>decide (b<R))) (DF f R (SB f) G0))) kD rfl Tryz.func58 (by kernel_rfl) rfl rfl rfl (fun b hb=>by have:=QZ hb;(try simp only[hputs]);show _=some AObj.free;(repeat(first | refine Ay (by exact Af (by omega)) ?_ | refine hrm_skip (by omega) ?_));rfl) (fun b hb=>⟨.free,rfl,rfl⟩) (fun b hb=>rfl) (fun b hb=>Oq rfl (B5 _ _ _ _ _ _) (A7 Cs f R _ _) hb) rfl (QU f hs R hRf hR hn hi)) ?_;refine ax 4 (Ew Ah 8) ?_;refine wk 4 ?_;refine A6 (γ:=RSd) (kf 10) (fun st=>⟨83,(Aa (Aa (Aa (Aa A8 1 (.ptr 0 1 0 0)) 2 (.ptr 1 1 0 0)) 3 (.ptr 9 1 0 0)) 4 (.ptr 8 1 0 0)),(GV (nb [(.row false 2 [f.cells]),(.row false 2 [[.int .i64 0,.nil]]),(.row false 8 [RF f R (st.es).length (st.ws.length)]),(.row false 1 (Aw (aR (Au f)) f.blocks.length)),(.row false 1 (Aw (oR f.blocks.length R (SB f)) R)),(.row false 1 (Aw (gR f) f.blocks.length)),(.row true 1 (st.es)),(.row true 1 (bC R (st.w))),ArW,(.row false 1 [[.nil]])]) (DF f R (SB f) st.G))⟩) (fun st=>SI f R st) (fun st=>je f R st) (jf R) (Sub.mk' Cw (BQ (k0:=10) rfl (by repeat(first | exact trivial | refine⟨⟨by first | rfl | exact BI rfl | exact dh,by first | rfl | exact Ad (fun _ _=>A9 (Aq _) _ _) | exact Ad (fun _ _=>A0 (Aq _) _ _ _ _) | exact Ad (fun _ _=>BP (Aq _) _ _)⟩,?_⟩)) Gt JG)) (SI.first hs hRf) (fun g b hb=>Bz (k0:=10) rfl hb) ?_
 intro st hQ;obtain⟨G,w,ws,es⟩:=st;dsimp only at hQ |-;refine wk 10 ?_;refine asp 16 (fun hb1=>?_) fun hb1=>?_
 .
  refine act ?_;obtain⟨ws',v,hws⟩: ∃ws' v,ws=ws'++[v]:=by
   rcases ED ws with h | h
   . have h2:=hb1;rw[h]at h2;simp at h2
   . exact h
  subst hws;have hpop:=hQ.q.wt.pop;have hv:=hpop.2.1;refine wk 13 ?_;refine dq 26 (Bx (r:=.int .i64 (ws'.length:Int)) rfl rfl rfl (JZ (by have:=hQ.q.wt.le;simp at this;omega))) ?_;refine dq 27 (Ac Ah rfl rfl rfl rfl rfl rfl rfl rfl rfl (Int.natCast_nonneg _) (by simp;omega)) ?_;refine dq 28 (AA Ah rfl rfl rfl (.ptr _ _ _ _ _ _ _ (By v) rfl rfl (by rw[Nat.zero_add,Int.toNat_natCast];exact hQ.q.st.get)) rfl) ?_;refine wk 14 ?_;refine dq 39 (Bx (r:=.int .i64 (ws'.length:Int)) rfl rfl rfl (JZ (by have:=hQ.q.wt.le;simp at this;omega))) ?_;refine dq 40 (E2 Ah (es:=es) (m:=ws'.length) rfl rfl rfl rfl rfl rfl rfl rfl rfl (by simp)) ?_;refine wk 11 ?_;refine aq 48 (Ac Ah rfl rfl rfl rfl rfl rfl rfl (An _ _).symm rfl (Int.natCast_nonneg _) (by omega)) ?_;refine AOps.w rfl rfl (o_store Ah rfl rfl rfl rfl rfl rfl (An _ _).symm WD rfl (by decide) rfl Ee) ?_;refine wk 4 ?_;refine AOps.call 51 (hn:=Ey _ (DH (HG f R (SB f) ((G9 f v (⟨G,Cj w v false,ws',es⟩:RSd)).es) ((G9 f v (⟨G,Cj w v false,ws',es⟩:RSd)).ws.length) ((G9 f v (⟨G,Cj w v false,ws',es⟩:RSd)).w)) (DF f R (SB f) (G9 f v (⟨G,Cj w v false,ws',es⟩:RSd)).G))) (r:=.tup []) rfl rfl rfl (D2 (HG f R (SB f) es ws'.length (Cj w v false)) (HG f R (SB f) (G9 f v (⟨G,Cj w v false,ws',es⟩:RSd)).es (G9 f v (⟨G,Cj w v false,ws',es⟩:RSd)).ws.length (G9 f v (⟨G,Cj w v false,ws',es⟩:RSd)).w) (DF f R (SB f) (G9 f v (⟨G,Cj w v false,ws',es⟩:RSd)).G) rfl Tryz.func59 (by kernel_rfl) rfl rfl rfl rfl rfl (B5 _ _ _ _ _ _) (B5 _ _ _ _ _ _) (by repeat(first | exact trivial | refine⟨by first | rfl | exact congrArg (fun es=>some (AObj.row true 1 es)) (Hr false),?_⟩)) Gt (A7 Cs f R _ _) (A7 Cs f R _ _) rfl (Rh f hs R hRf (⟨G,Cj w v false,ws',es⟩:RSd) ⟨hpop.1,hQ.q.st.pop⟩ v hv hn hR hi)) ?_
  refine an ?_;exact⟨(G9 f v (⟨G,Cj w v false,ws',es⟩:RSd)),DropK.mk' HD (Bg (k0:=10) rfl kg Gt (A7 (Aq _) f R _ _)),(hQ.reg hs hRf rfl).1,(hQ.reg hs hRf rfl).2⟩
 refine acf ?_;have hws:ws=[]:=by
  rcases ED ws with h |⟨L,b,h⟩
  . exact h
  . have h2:=hb1;rw[h]at h2;simp at h2
 subst hws;have hdn:Cg f G=U2 f:=hQ.done hs hRf rfl;refine wk 8 ?_;refine dx 57 (Az Ah (n:=f.blocks.length) (m:=f.blocks.length) 11 true rfl rfl rfl (by simp) (by simp) rfl rfl rfl rfl rfl (Nat.zero_lt_succ _) rfl (Nat.le_refl _) (by show 56*f.blocks.length<=_;omega) (by simp only[maxLen];omega)) ?_;refine wk 1 ?_;refine dx 6 (Ew Ah 10) ?_;refine wk 11 ?_;refine A6 (γ:=Nat) (kf 12) (fun k=>⟨83,(Aa (Aa (Aa (Aa (Aa (Aa (Aa (Aa A8 1 (.ptr 0 1 0 0)) 2 (.ptr 1 1 0 0)) 3 (.ptr 9 1 0 0)) 4 (.ptr 8 1 0 0)) 6 (.ptr 10 1 0 0)) 60 (BZ f.blocks)) 61 (.int .i64 (f.blocks.length:Int))) 62 (.int .i64 (k:Int))),(GV (nb [(.row false 2 [f.cells]),(.row false 2 [[.int .i64 0,.nil]]),(.row false 8 [RF f R (es).length (([]:List Nat).length)]),(.row false 1 (Aw (aR (Au f)) f.blocks.length)),(.row false 1 (Aw (oR f.blocks.length R (SB f)) R)),(.row false 1 (Aw (gR f) f.blocks.length)),(.row true 1 (es)),(.row true 1 (bC R (w))),ArW,(.row false 1 [[.nil]]),(.row false 2 [[.int .i64 f.regs,.ref 11 f.blocks.length 0 f.blocks.length]]),(.row true 5 (((Cg f G).blocks.take k).map Block.cells++List.replicate (f.blocks.length-k) [.nil,.int .i64 0,.int .i64 0,.int .i64 0,.int .i64 0]))]) (DF f R (SB f) G))⟩) (fun k=>k<=f.blocks.length) (fun k=>f.blocks.length-k) 0 (Sub.mk' Dw (BQ (k0:=12) rfl gr Fo (fun c h1 h2=>by rcases(by omega:c=12\/c=13\/c=14\/c=15)with rfl | rfl | rfl | rfl<;>first | rfl |(try simp only[hputs];repeat(first | rfl | refine Ay (by exact Af (by omega)) ?_ | refine hrm_skip (by omega) ?_))))) (Nat.zero_le _) (fun g b hb=>Bz (k0:=12) rfl hb) ?_
 intro k hk;refine wk 5 ?_;refine asp 63 (fun hb2=>?_) fun hb2=>?_
 .
  refine act ?_;have hkl:k<f.blocks.length:=by have h:=hb2;simp at h;exact h
  obtain⟨x,hx⟩:=Ae hkl;have hxm:=List.mem_of_getElem? hx;refine wk 6 ?_;refine aq 65 (JF Ah (AC hx)) ?_;refine wk 1 ?_;refine ax 7 (Ew Ah 12) ?_;refine ax 8 (Ew Ah 13) ?_;refine wk 7 ?_;refine aq 69 (FO rfl rfl rfl) ?_;refine AOps.call 70 (hn:=_) (r:=DY (D5 (G k) x.ins 0)) rfl rfl rfl (ah (W:=WS f R (SB f) G es ([]:List Nat).length w k) kW rfl Tryz.func60 (by kernel_rfl) rfl rfl rfl (Wr Bu Bu Bu Bu Bu Bu Bu Bu (fun x_=>by(try simp only[hputs]);(try dsimp only);first | exact Ao _ _ _ |((repeat(first | refine Ay (by exact Af (by omega)) ?_ | refine hrm_skip (by omega) ?_));exact Ao _ _ _))) (TG f R (SB f) G es _ w k) Ws rfl (T2 f R (SB f) G es _ w k x hx (hi x hxm))) ?_;refine wk 8 ?_;refine aq 76 (Ac Ah rfl rfl rfl rfl rfl rfl rfl (Av (cutF_len f G) (Nat.le_of_lt hkl)) rfl (Int.natCast_nonneg _) (by omega)) ?_;refine AOps.w rfl rfl (o_store Ah rfl rfl rfl rfl rfl rfl (Av (cutF_len f G) (Nat.le_of_lt hkl)) (fill_get (cutF_len f G) hkl) rfl (by decide) rfl Ee) ?_;refine wk 2 ?_;refine aq 77 (Be rfl rfl hkl (by simp only[maxLen];omega)) ?_;refine wk 2 ?_;exact⟨k+1,DropK.mk' HD (Bg (k0:=12) rfl (by repeat(first | exact trivial | refine⟨⟨by first | rfl | exact congrArg (fun es=>some (AObj.row true 5 es)) (BJ (f:=Block.cells) (x:=x.mid (D5 (G k) x.ins 0)) (cutF_len f G) (E9 hx)),by first | rfl | exact Ad (fun _ _=>A9 (Aq _) _ _) | exact Ad (fun _ _=>A0 (Aq _) _ _ _ _) | exact Ad (fun _ _=>BP (Aq _) _ _)⟩,?_⟩)) Fo (A7 (Aq _) f R _ _)),hkl,by omega⟩
 refine acf ?_;have hge:f.blocks.length<=k:=by have h:=hb2;simp at h;omega
 refine wk 2 ?_;refine AGo.ghost (.freezeCell 10 0 1 11 rfl rfl rfl rfl (Av (cutF_len f G) hk) (by decide)) ?_;rw[Cf (f:=Block.cells) (z:=[.nil,.int .i64 0,.int .i64 0,.int .i64 0,.int .i64 0]) (cutF_len f G) hge];refine wk 3 ?_;refine dx 80 (DX Tryz.func62 (d7 (Cg f G) (Yh hQ.c hs) (by rw[cutF_len];exact hn0) (by rw[cutF_len];exact hn) hr (bE hi))) ?_;refine dq 81 (VP Ah rfl rfl rfl rfl rfl rfl rfl rfl) ?_;refine wk 5 ?_;refine⟨[_,_],⟨⟨_,_,_,_,rfl,rfl,.ptr _ _ _ _ _ _ _ _ rfl rfl rfl,rfl⟩,⟨_,_,_,_,rfl,rfl,.ptr _ _ _ _ _ _ _ _ rfl rfl rfl,rfl⟩,trivial⟩,?_,rfl⟩;rw[<-hdn];rfl
theorem V8(next:List (List Int))(hnl:next.length<=100000)(b:Int)(s:DS)(es:List (List AV))(hl:s.been.length=next.length)(hw:WayIn next.length s es):ACall Tryz.prog 156 [.int .i64 b,.ptr 1 1 0 0,.ptr 2 1 0 0,.ptr 3 1 0 0] (hput (hput (hput (hput (hput hNew 0 (.row true 1 ((s).been.map A1))) 1 (.row false 1 [[AU next]])) 2 (.row false 1 [[.ref 0 next.length 0 next.length]])) 3 (.row false 1 [[.ref 4 (es).length 0 (s).way.length]])) 4 (.row true 2 (es))) (fun r h'=>r= .tup []/\HSub (hput (hput (hput (hput (hput hNone 0 (.row true 1 (((BD b s)).been.map A1))) 1 (.row false 1 [[AU next]])) 2 (.row false 1 [[.ref 0 next.length 0 next.length]])) 3 (.row false 1 [[.ref 4 ((Q6 b s es)).length 0 ((BD b s)).way.length]])) 4 (.row true 2 ((Q6 b s es)))) h'):=by
 refine ACall.of_body (n:=28) Ah Tryz.func156 rfl rfl ?_;refine wk 5 ?_;refine Ex 7 (fun hb1=>?_) fun hb1=>?_
 .
  refine wk 6 ?_;refine Ex 13 (fun hb2=>?_) fun hb2=>?_
  .
   have hb0:0<=b/\b<s.been.length:=by simp_all[AU]<;>omega
   obtain⟨v,hv⟩:=Ae (l:=s.been) (k:=b.toNat) (by omega);refine wk 2 ?_;refine aq 16 (Ac Ah rfl rfl rfl rfl rfl rfl rfl (by simp[hl]) rfl hb0.1 (by omega)) ?_;refine aq 17 (AA Ah rfl rfl rfl (.ptr _ _ _ _ _ _ _ _ rfl (by simp[hl]) (show _=some [AV.bool v] by rw[Nat.zero_add,List.getElem?_map,hv];rfl)) rfl) ?_;refine wk 3 ?_;refine asp 19 (fun hb3=>?_) fun hb3=>?_
   .
    refine act ?_;have hnb:notBeen s.been b=true:=by rw[notBeen,hv];simp_all
    have hcap:=hw.cap;have hle:=hw.le;refine wk 4 ?_;refine aq 22 (Ac Ah rfl rfl rfl rfl rfl rfl rfl (by simp[hl]) rfl hb0.1 (by omega)) ?_;refine AOps.w rfl rfl (o_store Ah rfl rfl rfl rfl rfl rfl (by simp[hl]) (show _=some [AV.bool v] by rw[Nat.zero_add,List.getElem?_map,hv];rfl) rfl (by decide) rfl Ee) ?_;refine wk 5 ?_;refine ax 26 (Cq Ah rfl rfl rfl rfl rfl rfl (by decide) rfl rfl rfl rfl rfl rfl) ?_;refine ax 27 (KU Ah (es:=es) rfl rfl rfl rfl rfl rfl rfl rfl rfl rfl hw.le rfl rfl (Nat.zero_lt_succ _) (.lst _ _) rfl (fun _=>rfl) (by show _*16<=_;omega) (by simp only[maxLen];omega)) ?_;refine wk 2 ?_;refine⟨[],trivial,rfl,?_⟩;rw[show BD b s=_ from dinto_eq hnb,show Q6 b s es=_ from aS hnb];exact HSub.put (HSub.put (HSub.put (HSub.put (HSub.put (HSub.none _) (by first | rfl | exact congrArg (fun es=>some (AObj.row true 1 es)) (TE _ _ _))) rfl) rfl) (by first | rfl | exact congrArg (fun m=>some (AObj.row false 1 [[AV.ref 4 _ 0 m]])) (by simp))) (by rfl)
   refine acf ?_;exact jZ
  exact jm
 refine AOps.k 8 rfl rfl rfl ?_;refine AOps.k 9 rfl rfl rfl ?_;refine AOps.k 10 rfl rfl rfl ?_;refine AOps.k 11 rfl rfl rfl ?_;refine wk 2 ?_;exact jm
theorem eA(b:Int):ACall Tryz.prog 155 [.int .i64 b] hNew (fun r h'=>r= .tup []/\HSub hNone h'):=by
 refine ACall.of_body (n:=2) Ah Tryz.func155 rfl rfl ?_;refine fa ?_;exact⟨[],trivial,rfl,HSub.none _⟩
theorem cR(next:List (List Int))(hnl:next.length<=100000)(hsm: ∀l∈next,l.length<=100000)(been:List Bool)(hbl:been.length=next.length):ACall Tryz.prog 154 [AU next,.ref 0 next.length 0 next.length,.fn (.func 155) [] []] (hput hNew 0 (.row true 1 (been.map A1))) (fun r h'=>r= .tup []/\HSub (hput hNone 0 (.row true 1 ((F2 next been).map A1))) h'):=by
 refine ACall.of_body (n:=69) Ah Tryz.func154 rfl rfl ?_;refine LN ?_;refine ax 3 (Fx 1 1) ?_;refine ax 4 (Fx 1 2) ?_;refine wk 3 ?_;refine ax 6 (Ew Ah 3) ?_;refine wk 2 ?_;refine AGo.ghost (.dryCell 3 0 0 4 2 true rfl rfl rfl rfl rfl (by decide)) ?_;refine YE ?_;refine aq 10 (FO rfl rfl rfl) ?_;refine wk 5 ?_;refine ax 12 (L5 (hc:=(hput (hput (hput (hput (hput hNew 0 (.row true 1 (((DS.mk been [])).been.map A1))) 1 (.row false 1 [[AU next]])) 2 (.row false 1 [[.ref 0 next.length 0 next.length]])) 3 (.row false 1 [[.ref 4 (([]:List (List AV))).length 0 ((DS.mk been [])).way.length]])) 4 (.row true 2 (([]:List (List AV)))))) (hw:=(hput (hput (hput (hput (hput hNone 0 (.row true 1 (((BD 0 (DS.mk been []))).been.map A1))) 1 (.row false 1 [[AU next]])) 2 (.row false 1 [[.ref 0 next.length 0 next.length]])) 3 (.row false 1 [[.ref 4 ((Q6 0 (DS.mk been []) ([]:List (List AV)))).length 0 ((BD 0 (DS.mk been []))).way.length]])) 4 (.row true 2 ((Q6 0 (DS.mk been []) ([]:List (List AV))))))) [4,3,2,1,0] [(0,(.row true 1 (((BD 0 (DS.mk been []))).been.map A1))),(1,(.row false 1 [[AU next]])),(2,(.row false 1 [[.ref 0 next.length 0 next.length]])),(3,(.row false 1 [[.ref 4 ((Q6 0 (DS.mk been []) ([]:List (List AV)))).length 0 ((BD 0 (DS.mk been []))).way.length]])),(4,(.row true 2 ((Q6 0 (DS.mk been []) ([]:List (List AV))))))] rfl rfl Tryz.func156 (by kernel_rfl) rfl rfl rfl ⟨⟨_,rfl,rfl⟩,⟨_,rfl,rfl⟩,⟨_,rfl,rfl⟩,⟨_,rfl,rfl⟩,⟨_,rfl,rfl⟩,trivial⟩ rfl (Bq rfl (Bq rfl (Bq rfl (Bq rfl (Bq rfl (Ce _)))))) ⟨⟨_,rfl,rfl,rfl⟩,⟨_,rfl,rfl,rfl⟩,⟨_,rfl,rfl,rfl⟩,⟨_,rfl,rfl,rfl⟩,⟨_,rfl,rfl,rfl⟩,trivial⟩ rfl (V8 next hnl 0 (DS.mk been []) ([]:List (List AV)) hbl (OY hbl))) ?_
 refine wk 2 ?_;refine A4 (γ:=FW) 5 (fun q=>⟨69,(Aa (Aa (Aa (Aa (Aa A8 2 (.fn (.func 155) [] [])) 3 (.ptr 1 1 0 0)) 4 (.ptr 2 1 0 0)) 6 (.ptr 3 1 0 0)) 7 (.fn (.func 156) [] [.ptr 1 1 0 0,.ptr 2 1 0 0,.ptr 3 1 0 0])),(hput (hput (hput (hput (hput (Bw 5) 0 (.row true 1 ((q.s).been.map A1))) 1 (.row false 1 [[AU next]])) 2 (.row false 1 [[.ref 0 next.length 0 next.length]])) 3 (.row false 1 [[.ref 4 (q.es).length 0 (q.s).way.length]])) 4 (.row true 2 (q.es)))⟩) (fun q=>FWInv next (Hp next (Ri next (EP been)+1) (EP been)) q) (fun q=>q.g) ⟨EP been,Q6 0 (DS.mk been []) [],Ri next (EP been)+1⟩ (Sub.mk' Cw Qf) (FWInv.first hbl) (fun _=>Ag (Ag (Ag (Ag (Ag (fun b hb=>AO hb) rfl) rfl) rfl) rfl) rfl) ?_;intro q hF;refine wk 7 ?_;refine asp 15 (fun hb1=>?_) fun hb1=>?_
 .
  refine act ?_;have hpos:0<q.s.way.length:=by simpa using hb1
  obtain⟨⟨b,i⟩,hp⟩: ∃p,q.s.way.getLast?=some p:=⟨_,List.getLast?_eq_some_getLast (List.ne_nil_of_length_pos hpos)⟩
  have htop:=(hF.way.top hp).1;have hbi:=hF.ok.way (b,i) (by rw[FJ hp];simp);simp only at hbi;obtain⟨l,hnx⟩:=Ae (l:=next) (k:=b.toNat) (by omega);have hrl:Bj next b=l:=by simp[Bj,hnx]
  rw[hrl]at hbi;refine wk 7 ?_;refine aq 19 (Bx (r:=.int .i64 ((q.s.way.length-1:Nat):Int)) rfl rfl rfl (NB hpos (by have:=hF.way.cap;have:=hF.way.le;omega))) ?_;refine aq 20 (Ac Ah rfl rfl rfl rfl rfl rfl rfl rfl rfl (Int.natCast_nonneg _) (by have:=hF.way.le;omega)) ?_;refine wk 8 ?_;refine dq 24 (AA Ah rfl rfl rfl (.ptr _ _ _ _ _ _ _ _ rfl rfl (show _=some (Dc (b,i)) by rw[Nat.zero_add,Int.toNat_natCast];exact htop)) rfl) ?_;refine wk 4 ?_;refine dq 29 (AA Ah rfl rfl rfl (.ptr _ _ _ _ _ _ _ _ rfl rfl (show _=some (Dc (b,i)) by rw[Nat.zero_add,Int.toNat_natCast];exact htop)) rfl) ?_;refine dq 30 (At Ah rfl rfl rfl rfl rfl rfl hbi.1 (H7 hnx) rfl) ?_;refine wk 4 ?_;refine asp 33 (fun hb2=>?_) fun hb2=>?_
  .
   refine act ?_;have hil:i<l.length:=by have h:=hb2;simp at h;exact h
   obtain⟨y,hlx⟩:=Ae (l:=l) (k:=i.toNat) (by omega);refine wk 5 ?_;refine aq 37 (AA Ah rfl rfl rfl (.ptr _ _ _ _ _ _ _ _ rfl rfl (show _=some (Dc (b,i)) by rw[Nat.zero_add,Int.toNat_natCast];exact htop)) rfl) ?_;refine aq 38 (Bx (r:=.int .i64 (i+1)) rfl rfl rfl (by simp only[AX,BL,isShift,cond_false,if_true];rw[CB (by omega) (by have:=hsm _ (List.mem_of_getElem? hnx);omega)])) ?_;refine wk 2 ?_;refine AOps.w rfl rfl (o_store Ah rfl rfl rfl rfl rfl rfl rfl (show _=some (Dc (b,i)) by rw[Nat.zero_add,Int.toNat_natCast];exact htop) rfl (by decide) rfl Ee) ?_;refine wk 2 ?_;refine AGo.sub (s':=⟨69,(Aa (Aa (Aa (Aa (Aa (Aa A8 2 (.fn (.func 155) [] [])) 3 (.ptr 1 1 0 0)) 4 (.ptr 2 1 0 0)) 6 (.ptr 3 1 0 0)) 7 (.fn (.func 156) [] [.ptr 1 1 0 0,.ptr 2 1 0 0,.ptr 3 1 0 0])) 8 (.ptr 4 q.es.length (0+(((q.s.way.length-1:Nat):Int)).toNat) 0)),(hput (hput (hput (hput (hput hNone 0 (.row true 1 (((DS.mk q.s.been (q.s.way.dropLast++[(b,i+1)]))).been.map A1))) 1 (.row false 1 [[AU next]])) 2 (.row false 1 [[.ref 0 next.length 0 next.length]])) 3 (.row false 1 [[.ref 4 ((q.es.set (q.s.way.length-1) (Dc (b,i+1)))).length 0 ((DS.mk q.s.been (q.s.way.dropLast++[(b,i+1)]))).way.length]])) 4 (.row true 2 ((q.es.set (q.s.way.length-1) (Dc (b,i+1))))))⟩) (Sub.mk' Cw (by repeat(first | exact HSub.none _ | exact AL _ | exact AG (by decide) | refine HSub.put ?_ (by first | rfl | exact congrArg (fun es=>some (AObj.row true 2 es)) (by rw[Nat.zero_add,Int.toNat_natCast];rfl) | exact congrArg (fun p:Nat×Nat=>some (AObj.row false 1 [[AV.ref 4 p.1 0 p.2]])) (Qk hp _ _)) | refine AK ?_ (by decide)))) ?_
   refine wk 6 ?_;refine dq 46 (AA Ah rfl rfl rfl (.ptr _ _ _ _ _ _ _ _ rfl (by simp) (show _=some (Dc (b,i+1)) by rw[Nat.zero_add,Int.toNat_natCast,List.getElem?_set_self (by have:=hF.way.le;omega)])) rfl) ?_;refine dq 47 (At Ah rfl rfl rfl rfl rfl rfl hbi.1 (H7 hnx) rfl) ?_;refine wk 4 ?_;refine dq 52 (AA Ah rfl rfl rfl (.ptr _ _ _ _ _ _ _ _ rfl (by simp) (show _=some (Dc (b,i+1)) by rw[Nat.zero_add,Int.toNat_natCast,List.getElem?_set_self (by have:=hF.way.le;omega)])) rfl) ?_;refine dq 53 (Bx (r:=.int .i64 i) rfl rfl rfl (by simp only[AX,BL,isShift,cond_false,if_true];rw[show i+1-1=i by omega,CB (by omega) (by have:=hsm _ (List.mem_of_getElem? hnx);omega)])) ?_;refine dq 54 (At Ah rfl rfl rfl rfl rfl rfl hbi.2.2.1 (cs:=[.int .i64 (((Bj next b)[i.toNat]?).getD 0)]) (by show(List.map (fun b=>[AV.int .i64 b]) l)[i.toNat]?=_;rw[List.getElem?_map,hlx,hrl,hlx];rfl) rfl) ?_;refine wk 1 ?_;refine dx 56 (L5 (hc:=(hput (hput (hput (hput (hput hNew 0 (.row true 1 (((DS.mk q.s.been (q.s.way.dropLast++[(b,i+1)]))).been.map A1))) 1 (.row false 1 [[AU next]])) 2 (.row false 1 [[.ref 0 next.length 0 next.length]])) 3 (.row false 1 [[.ref 4 ((q.es.set (q.s.way.length-1) (Dc (b,i+1)))).length 0 ((DS.mk q.s.been (q.s.way.dropLast++[(b,i+1)]))).way.length]])) 4 (.row true 2 ((q.es.set (q.s.way.length-1) (Dc (b,i+1))))))) (hw:=(hput (hput (hput (hput (hput hNone 0 (.row true 1 (((BD (((Bj next b)[i.toNat]?).getD 0) (DS.mk q.s.been (q.s.way.dropLast++[(b,i+1)])))).been.map A1))) 1 (.row false 1 [[AU next]])) 2 (.row false 1 [[.ref 0 next.length 0 next.length]])) 3 (.row false 1 [[.ref 4 ((Q6 (((Bj next b)[i.toNat]?).getD 0) (DS.mk q.s.been (q.s.way.dropLast++[(b,i+1)])) (q.es.set (q.s.way.length-1) (Dc (b,i+1))))).length 0 ((BD (((Bj next b)[i.toNat]?).getD 0) (DS.mk q.s.been (q.s.way.dropLast++[(b,i+1)])))).way.length]])) 4 (.row true 2 ((Q6 (((Bj next b)[i.toNat]?).getD 0) (DS.mk q.s.been (q.s.way.dropLast++[(b,i+1)])) (q.es.set (q.s.way.length-1) (Dc (b,i+1)))))))) [4,3,2,1,0] [(0,(.row true 1 (((BD (((Bj next b)[i.toNat]?).getD 0) (DS.mk q.s.been (q.s.way.dropLast++[(b,i+1)])))).been.map A1))),(1,(.row false 1 [[AU next]])),(2,(.row false 1 [[.ref 0 next.length 0 next.length]])),(3,(.row false 1 [[.ref 4 ((Q6 (((Bj next b)[i.toNat]?).getD 0) (DS.mk q.s.been (q.s.way.dropLast++[(b,i+1)])) (q.es.set (q.s.way.length-1) (Dc (b,i+1))))).length 0 ((BD (((Bj next b)[i.toNat]?).getD 0) (DS.mk q.s.been (q.s.way.dropLast++[(b,i+1)])))).way.length]])),(4,(.row true 2 ((Q6 (((Bj next b)[i.toNat]?).getD 0) (DS.mk q.s.been (q.s.way.dropLast++[(b,i+1)])) (q.es.set (q.s.way.length-1) (Dc (b,i+1)))))))] rfl rfl Tryz.func156 (by kernel_rfl) rfl rfl rfl ⟨⟨_,rfl,rfl⟩,⟨_,rfl,rfl⟩,⟨_,rfl,rfl⟩,⟨_,rfl,rfl⟩,⟨_,rfl,rfl⟩,trivial⟩ rfl (Bq rfl (Bq rfl (Bq rfl (Bq rfl (Bq rfl (Ce _)))))) ⟨⟨_,rfl,rfl,rfl⟩,⟨_,rfl,rfl,rfl⟩,⟨_,rfl,rfl,rfl⟩,⟨_,rfl,rfl,rfl⟩,⟨_,rfl,rfl,rfl⟩,trivial⟩ rfl (V8 next hnl (((Bj next b)[i.toNat]?).getD 0) (DS.mk q.s.been (q.s.way.dropLast++[(b,i+1)])) (q.es.set (q.s.way.length-1) (Dc (b,i+1))) hF.ok.len (hF.way.seen hp))) ?_
   refine wk 2 ?_;exact jT
  refine acf ?_;have hil: ¬i<l.length:=by have h:=hb2;simp at h;omega
  refine wk 6 ?_;refine aq 60 (AA Ah rfl rfl rfl (.ptr _ _ _ _ _ _ _ _ rfl rfl (show _=some (Dc (b,i)) by rw[Nat.zero_add,Int.toNat_natCast];exact htop)) rfl) ?_;refine wk 7 ?_;refine aq 64 (Bx (r:=.int .i64 ((q.s.way.length-1:Nat):Int)) rfl rfl rfl (NB hpos (by have:=hF.way.cap;have:=hF.way.le;omega))) ?_;refine aq 65 (E2 (m:=(DS.mk q.s.been q.s.way.dropLast).way.length) Ah rfl rfl rfl rfl rfl rfl rfl rfl (by simp) (by simp)) ?_;refine wk 5 ?_;refine ax 68 (L5 (hc:=hNew) (hw:=hNone) [] [] rfl rfl Tryz.func155 (by kernel_rfl) rfl rfl rfl trivial rfl (Ce _) trivial rfl (eA b)) ?_;refine an ?_;exact jT
 refine acf ?_;have hnil:q.s.way=[]:=List.length_eq_zero_iff.1 (by have h:=hb1;simp at h;simpa using h);refine wk 1 ?_;refine⟨[],trivial,rfl,?_⟩;rw[show F2 next been=q.s.been from(congrArg DS.been (hF.done hnil)).symm];exact HSub.put (HSub.none _) rfl
theorem Zt(next:List (List Int))(hnl:next.length<=100000)(hsm: ∀l∈next,l.length<=100000):APure Tryz.prog 148 [AU next] (fun r=>r=Ch (F2 next (List.replicate next.length false))):=by
 refine APure.of_body (n:=11) Ah Tryz.func148 rfl rfl ?_;refine wk 8 ?_;refine ax 6 (Az Ah (n:=next.length) (m:=next.length) 0 true rfl rfl rfl (by simp) (by simp) rfl rfl rfl rfl rfl (Nat.zero_lt_succ _) rfl (Nat.le_refl _) (by show 1*next.length<=_;omega) (by simp only[maxLen];omega)) ?_;refine wk 3 ?_;refine AGo.sub (s':=⟨11,(Aa (Aa A8 0 (AU next)) 3 (.ref 0 next.length 0 next.length)),(hput hNone 0 (.row true 1 (((List.replicate next.length false)).map A1)))⟩) (Sub.mk' Cw (by repeat(first | exact HSub.none _ | exact AL _ | exact AG (by decide) | refine HSub.put ?_ (by first | rfl | exact congrArg (fun es=>some (AObj.row true 1 es)) (by rw[List.map_replicate];rfl)) | refine AK ?_ (by decide)))) ?_;refine wk 3 ?_;refine ax 9 (fx (cR next hnl hsm (List.replicate next.length false) (by simp)) [0] [(0,(.row true 1 ((F2 next (List.replicate next.length false)).map A1)))] rfl Tryz.func154 (by kernel_rfl) rfl rfl rfl ⟨⟨_,rfl,rfl⟩,trivial⟩ rfl (Bq rfl (Ce _)) ⟨⟨_,rfl,rfl,rfl⟩,trivial⟩ rfl) ?_
 refine wk 2 ?_;refine AGo.ghost (.freezeA 3 0 rfl rfl (by simp[Jb])) ?_;refine wk 4 ?_;refine Ge ⟨[_],⟨rfl,trivial⟩,?_,rfl⟩;rfl
theorem T9(f:BFunc)(reach:List Bool)(hn:f.blocks.length<=1000)(hr:reach.length=f.blocks.length)(hle:f.leads):APure Tryz.prog 149 [.agg f.cells,AU f.nexts,Ch reach] (fun r=>r= .tup [AM (f.takes reach),Ch (f.takenAt reach f.blocks.length)]):=by
 refine APure.of_body (n:=104) Ah Tryz.func149 rfl rfl ?_;refine LN ?_;refine ax 3 (Fx 2 0) ?_;refine wk 8 ?_;refine ax 18 (Az Ah (n:=f.blocks.length) (m:=f.blocks.length) 1 true rfl rfl rfl (by simp) (by simp) rfl rfl rfl rfl rfl (Nat.zero_lt_succ _) rfl (Nat.le_refl _) (by show 8*f.blocks.length<=_;omega) (by simp only[maxLen];omega)) ?_;refine wk 10 ?_;refine A4 (γ:=Nat) 2 (fun k=>⟨104,(Aa (Aa (Aa (Aa (Aa (Aa (Aa (Aa A8 0 (.agg f.cells)) 1 (AU f.nexts)) 2 (Ch reach)) 3 (.ptr 0 1 0 0)) 8 (.ref 1 f.blocks.length 0 f.blocks.length)) 19 (AU f.nexts)) 20 (.int .i64 (f.blocks.length:Int))) 21 (.int .i64 (k:Int))),(hput (hput (Bw 2) 0 (.row false 2 [f.cells])) 1 (.row true 1 (BA (Bm f.nexts reach k))))⟩) (fun k=>k<=f.blocks.length) (fun k=>f.blocks.length-k) 0 (Sub.mk' (by repeat(first | exact ESub.new _ | refine ESub.put ?_ (by first | rfl | exact congrArg (fun(n:Nat)=>some (AV.int .i64 (n:Int))) (by simp[AE])))) (by repeat(first | exact HSub.none _ | exact AL _ | exact AG (by decide) | refine HSub.put ?_ (by first | rfl | exact congrArg (fun es=>some (AObj.row true 1 es)) (by rw[Bm,AE];exact Kb _)) | refine AK ?_ (by decide)))) (Nat.zero_le _) (fun _=>Ag (Ag (fun b hb=>AO hb) rfl) rfl) ?_
 intro k hk;refine wk 5 ?_;refine asp 22 (fun hb1=>?_) fun hb1=>?_
 .
  refine act ?_;have hkl:k<f.blocks.length:=by simpa using hb1
  obtain⟨x,hx⟩:=Ae hkl;have hnx:=Cz hx;obtain⟨rk,hrk⟩:=Ae (l:=reach) (k:=k) (by omega);refine wk 6 ?_;refine aq 24 (At Ah rfl rfl rfl rfl rfl rfl (Int.natCast_nonneg _) (AC (by assumption)) rfl) ?_;refine wk 9 ?_;refine aq 28 (At Ah rfl rfl rfl rfl rfl rfl (Int.natCast_nonneg _) (AC (by assumption)) rfl) ?_;refine wk 3 ?_;refine asp 30 (fun hb2=>?_) fun hb2=>?_
  .
   refine act ?_;have hrf:reach[k]?=some false:=by rw[hrk];simpa using hb2
   exact jK
  refine acf ?_;have hrt:reach[k]?=some true:=by rw[hrk];simpa using hb2
  have h2:=KY f x.nexts (List.mem_of_getElem? hnx);refine wk 8 ?_;refine A4 (γ:=Nat) 2 (fun j=>⟨104,(Aa (Aa (Aa (Aa (Aa (Aa (Aa (Aa (Aa (Aa (Aa (Aa A8 0 (.agg f.cells)) 1 (AU f.nexts)) 2 (Ch reach)) 3 (.ptr 0 1 0 0)) 8 (.ref 1 f.blocks.length 0 f.blocks.length)) 19 (AU f.nexts)) 20 (.int .i64 (f.blocks.length:Int))) 21 (.int .i64 (k:Int))) 9 (.int .i64 (k:Int))) 31 (AM x.nexts)) 32 (.int .i64 (x.nexts.length:Int))) 33 (.int .i64 (j:Int))),(hput (hput (Bw 2) 0 (.row false 2 [f.cells])) 1 (.row true 1 (BA ((x.nexts.take j).foldl Ik (Bm f.nexts reach k)))))⟩) (fun j=>j<=x.nexts.length) (fun j=>x.nexts.length-j) 0 (Sub.mk' Dw Qf) (Nat.zero_le _) (fun _=>Ag (Ag (fun b hb=>AO hb) rfl) rfl) ?_;intro j hj;refine wk 5 ?_;refine asp 34 (fun hb3=>?_) fun hb3=>?_
  .
   refine act ?_;have hjl:j<x.nexts.length:=by simpa using hb3
   obtain⟨y,hy⟩:=Ae hjl;have hyr:=hle x.nexts (List.mem_of_getElem? hnx) y (List.mem_of_getElem? hy);have hub:=PH (JD (x.nexts.take j) (Lp (KY f) reach k)) y;have hjt:(x.nexts.take j).length=j:=by rw[List.length_take];omega
   rw[hjt]at hub;refine wk 5 ?_;refine aq 35 (At Ah rfl rfl rfl rfl rfl rfl (Int.natCast_nonneg _) (AC (by assumption)) rfl) ?_;refine wk 6 ?_;refine aq 39 (Ac Ah rfl rfl rfl rfl rfl rfl rfl (by rw[Bf,CJ,Bo,AE]) rfl hyr.1 (by omega)) ?_;refine aq 40 (AA Ah rfl rfl rfl (.ptr _ _ _ _ _ _ _ _ rfl (by rw[Bf,CJ,Bo,AE]) (NJ (by rw[CJ,Bo,AE];exact hyr))) rfl) ?_;refine aq 41 (Bx (r:=.int .i64 (iget ((x.nexts.take j).foldl Ik (Bm f.nexts reach k)) y+1)) rfl rfl rfl (by simp only[AX,BL,isShift,cond_false,if_true];rw[CB (by omega) (by omega)])) ?_;refine aq 42 (Ac Ah rfl rfl rfl rfl rfl rfl rfl (by rw[Bf,CJ,Bo,AE]) rfl hyr.1 (by omega)) ?_;refine AOps.w rfl rfl (o_store Ah rfl rfl rfl rfl rfl rfl (by rw[Bf,CJ,Bo,AE]) (NJ (by rw[CJ,Bo,AE];exact hyr)) rfl (by decide) rfl Ee) ?_;refine wk 2 ?_;refine aq 43 (Be rfl rfl hjl (by simp only[maxLen];omega)) ?_;refine wk 2 ?_;exact⟨j+1,Drop.mk' Qd (by repeat(first | exact HDrop.none _ _ | exact HDrop.tail _ _ | refine HDrop.put ?_ (by first | rfl | exact congrArg (fun es=>some (AObj.row true 1 es)) (by rw[U5 hy];exact PJ _ _ _)) rfl rfl)),hjl,by omega⟩
  refine acf ?_;have hge2:x.nexts.length<=j:=by simpa using hb3
  exact jK
 refine acf ?_;have hge:f.blocks.length<=k:=by simpa using hb1
 obtain rfl:k=f.blocks.length:=by omega
 refine wk 6 ?_;refine ax 48 (Az Ah (n:=f.blocks.length) (m:=f.blocks.length) 2 true rfl rfl rfl (by simp) (by simp) rfl rfl rfl rfl rfl (Nat.zero_lt_succ _) rfl (Nat.le_refl _) (by show 8*f.blocks.length<=_;omega) (by simp only[maxLen];omega)) ?_;refine wk 7 ?_;refine ax 52 (Az Ah (n:=f.blocks.length) (m:=f.blocks.length) 3 true rfl rfl rfl (by simp) (by simp) rfl rfl rfl rfl rfl (Nat.zero_lt_succ _) rfl (Nat.le_refl _) (by show 1*f.blocks.length<=_;omega) (by simp only[maxLen];omega)) ?_;refine wk 11 ?_;refine A4 (γ:=Nat) 4 (fun k=>⟨104,(Aa (Aa (Aa (Aa (Aa (Aa (Aa (Aa (Aa (Aa A8 0 (.agg f.cells)) 1 (AU f.nexts)) 2 (Ch reach)) 3 (.ptr 0 1 0 0)) 8 (.ref 1 f.blocks.length 0 f.blocks.length)) 6 (.ref 2 f.blocks.length 0 f.blocks.length)) 7 (.ref 3 f.blocks.length 0 f.blocks.length)) 54 (BZ f.blocks)) 55 (.int .i64 (f.blocks.length:Int))) 56 (.int .i64 (k:Int))),(hput (hput (hput (hput (Bw 4) 0 (.row false 2 [f.cells])) 1 (.row true 1 (BA (waysF f.nexts reach)))) 2 (.row true 1 (((f.takes reach).take k).map Q7++List.replicate (f.blocks.length-k) [.int .i64 0]))) 3 (.row true 1 ((f.takenAt reach k).map A1)))⟩) (fun k=>k<=f.blocks.length) (fun k=>f.blocks.length-k) 0 (Sub.mk' Dw (by repeat(first | exact HSub.none _ | exact AL _ | exact AG (by decide) | refine HSub.put ?_ (by first | rfl | exact congrArg (fun w=>some (AObj.row true 1 (BA w))) (by rw[waysF,AE]) | exact congrArg (fun es=>some (AObj.row true 1 es)) (by simp[BFunc.takenAt,A1])) | refine AK ?_ (by decide)))) (Nat.zero_le _) (fun _=>Ag (Ag (Ag (Ag (fun b hb=>AO hb) rfl) rfl) rfl) rfl) ?_
 intro k hk;refine wk 5 ?_;refine asp 57 (fun hb4=>?_) fun hb4=>?_
 .
  refine act ?_;have hkl:k<f.blocks.length:=by simpa using hb4
  obtain⟨x,hx⟩:=Ae hkl;obtain⟨rk,hrk⟩:=Ae (l:=reach) (k:=k) (by omega);have htk:=KD (reach:=reach) hx;refine wk 6 ?_;refine aq 59 (At Ah rfl rfl rfl rfl rfl rfl (Int.natCast_nonneg _) (AC (by assumption)) rfl) ?_;refine wk 1 ?_;refine ax 14 (Ew Ah 4) ?_;refine wk 7 ?_;refine aq 63 (Ac Ah rfl rfl rfl rfl rfl rfl rfl (Av (AI f reach) (Nat.le_of_lt hkl)) rfl (Int.natCast_nonneg _) (by omega)) ?_;refine AOps.w rfl rfl (o_store Ah rfl rfl rfl rfl rfl rfl (Av (AI f reach) (Nat.le_of_lt hkl)) (fill_get (AI f reach) hkl) rfl (by decide) rfl Ee) ?_;refine wk 5 ?_;refine aq 66 (At Ah rfl rfl rfl rfl rfl rfl (Int.natCast_nonneg _) (AC (by assumption)) rfl) ?_;refine wk 2 ?_;refine Ex 68 (fun hb5=>?_) fun hb5=>?_
  .
   refine wk 5 ?_;refine Ex 73 (fun hb6=>?_) fun hb6=>?_
   .
    refine wk 5 ?_;refine Ex 78 (fun hb7=>?_) fun hb7=>?_
    .
     refine wk 6 ?_;refine Ex 84 (fun hb8=>?_) fun hb8=>?_
     .
      have hto:=H5 hle hx (.inl (by simp_all));refine wk 3 ?_;refine aq 88 (Ac Ah rfl rfl rfl rfl rfl rfl rfl (by rw[Bf,waysF,Bo,AE]) rfl hto.1 (by omega)) ?_;refine aq 89 (AA Ah rfl rfl rfl (.ptr _ _ _ _ _ _ _ _ rfl (by rw[Bf,waysF,Bo,AE]) (NJ (by rw[waysF,Bo,AE];exact hto))) rfl) ?_;refine wk 3 ?_;refine asp 91 (fun hb9=>?_) fun hb9=>?_
      .
       refine act ?_;have hyes:takeOf f.nexts reach k x=x.to:=Ua hrk (by simp_all);refine wk 6 ?_;refine aq 96 (Ac Ah rfl rfl rfl rfl rfl rfl rfl (by rw[List.length_set];exact Av (AI f reach) (Nat.le_of_lt hkl)) rfl (Int.natCast_nonneg _) (by omega)) ?_;refine AOps.w rfl rfl (o_store Ah rfl rfl rfl rfl rfl rfl (by rw[List.length_set];exact Av (AI f reach) (Nat.le_of_lt hkl)) (OO (fill_get (AI f reach) hkl)) rfl (by decide) rfl Ee) ?_;refine wk 5 ?_;refine aq 100 (Ac Ah rfl rfl rfl rfl rfl rfl rfl (by rw[List.length_map,B7]) rfl hto.1 (by omega)) ?_;refine AOps.w rfl rfl (o_store Ah rfl rfl rfl rfl rfl rfl (by rw[List.length_map,B7]) (cs:=[.bool (bget (f.takenAt reach k) x.to)]) (by rw[Nat.zero_add];exact iY (by rw[B7];exact hto)) rfl (by decide) rfl Ee) ?_;exact n6
      refine acf ?_;have hno:takeOf f.nexts reach k x= -1:=takeOf_no hrk (by simp_all);exact n6
     refine AOps.k 85 rfl rfl rfl ?_;refine AOps.k 86 rfl rfl rfl ?_;refine AOps.k 87 rfl rfl rfl ?_;refine AOps.k 88 rfl rfl rfl ?_;refine AOps.k 89 rfl rfl rfl ?_;refine AOps.k 90 rfl rfl rfl ?_;refine wk 3 ?_;have hno:takeOf f.nexts reach k x= -1:=takeOf_no hrk (by simp_all);exact n6
    exact gh
   refine AOps.k 74 rfl rfl rfl ?_;refine AOps.k 75 rfl rfl rfl ?_;refine AOps.k 76 rfl rfl rfl ?_;refine wk 2 ?_;exact gh
  refine AOps.k 69 rfl rfl rfl ?_;refine AOps.k 70 rfl rfl rfl ?_;refine AOps.k 71 rfl rfl rfl ?_;refine wk 2 ?_;refine AOps.k 74 rfl rfl rfl ?_;refine AOps.k 75 rfl rfl rfl ?_;refine AOps.k 76 rfl rfl rfl ?_;refine wk 2 ?_;exact gh
 refine acf ?_;have hge:f.blocks.length<=k:=by simpa using hb4
 obtain rfl:k=f.blocks.length:=by omega
 refine wk 2 ?_;refine AGo.ghost (.freezeA 6 2 rfl rfl (Av (AI f reach) (Nat.le_refl _))) ?_;refine AGo.ghost (.freezeA 7 3 rfl rfl (by rw[List.length_map,B7])) ?_;refine wk 7 ?_;refine⟨[_,_],⟨rfl,rfl,trivial⟩,?_,rfl⟩;have e1:=Cf (f:=Q7) (z:=[.int .i64 0]) (AI f reach) (Nat.le_refl _);rw[List.drop_zero,List.take_of_length_le (Nat.le_of_eq (Av (AI f reach) (Nat.le_refl _)).symm)]at e1;show AV.tup [.lst false _,.lst false _]=_;rw[e1];rfl
theorem XT(takes:List Int)(i:Int)(hn:takes.length<=1000)(hi:0<=i/\i<takes.length)(hin: ∀v∈takes,v= -1\/(0<=v/\v<takes.length))(he:ends takes takes.length i=true):ACall Tryz.prog 150 [.int .i64 i,.ptr 2 1 0 0] (hput hNew 2 (.row false 1 [[AM takes]])) (fun r h'=>r=AM (A5 takes i)/\HSub (hput hNone 2 (.row false 1 [[AM takes]])) h'):=by
 refine ACall.of_body (n:=21) Ah Tryz.func150 rfl rfl ?_;refine wk 7 ?_;refine ax 6 (o_litRow Ah 3 true rfl rfl rfl rfl rfl rfl (by decide) rfl rfl rfl rfl Ee rfl rfl) ?_;refine wk 4 ?_;refine AGo.loopI (γ:=fM) (fun q=>⟨21,(Aa (Aa (Aa A8 0 (.int .i64 q.c)) 1 (.ptr 2 1 0 0)) 4 (.ref 3 q.acc.length 0 q.acc.length)),(hput (hput hNone 2 (.row false 1 [[AM takes]])) 3 (.row true 1 (BA q.acc)))⟩) (fun q=>FInv2 takes (A5 takes i) q) (fun q=>q.g) ⟨i,[i],takes.length⟩ (Sub.mk' Cw Qf) (FInv2.first hi he) ?_;intro q hF;refine wk 5 ?_;refine aq 9 (At Ah rfl rfl rfl rfl rfl rfl hF.c.1 (aT hF.c) rfl) ?_;refine wk 3 ?_;refine asp 11 (fun hb1=>?_) fun hb1=>?_
 .
  refine act ?_;have hnx:=hF.next hin hb1;have hlen:=hF.len;have hg0:0<q.g:=by omega
  refine wk 6 ?_;refine aq 14 (At Ah rfl rfl rfl rfl rfl rfl hF.c.1 (aT hF.c) rfl) ?_;refine wk 6 ?_;refine ax 18 (Cq Ah rfl rfl rfl rfl rfl rfl (by decide) rfl rfl rfl rfl rfl rfl) ?_;refine ax 19 (o_append Ah (n:=q.acc.length) (m:=1) rfl rfl rfl rfl rfl rfl rfl rfl rfl (by rw[Bf]) rfl rfl (Nat.zero_lt_succ _) (.lst _ _) (by intro cs h;simp[partVals]at h;subst h;rfl) (fun _ cs h=>by simp[partVals]at h;subst h;rfl) rfl (by simp[Bf,partVals];show _*8<=_;omega) (by simp[Bf,partVals];simp only[maxLen];omega)) ?_;refine wk 2 ?_;exact⟨⟨iget takes q.c,q.acc++[iget takes q.c],q.g-1⟩,Sub.mk' (by repeat(first | exact ESub.new _ | refine ESub.put ?_ (by first | rfl | exact congrArg (fun n=>some (AV.ref 3 n 0 n)) (by simp)))) (by repeat(first | exact HSub.none _ | exact AL _ | exact AG (by decide) | refine HSub.put ?_ (by first | rfl | exact congrArg (fun es=>some (AObj.row true 1 es)) (by simp[BA,partVals];rfl)) | refine AK ?_ (by decide))),hnx.1,hnx.2⟩
 refine acf ?_;have hdone:=hF.done hb1;refine wk 2 ?_;refine AGo.ghost (.freezeA 4 3 rfl rfl (by rw[Bf])) ?_;refine wk 5 ?_;refine⟨[_],⟨rfl,trivial⟩,?_,HSub.put (HSub.none _) rfl⟩;rw[<-hdone];rfl
theorem XJ(f:BFunc)(p:List Int)(hf: ∀x∈f.blocks,x.ins.length<=10000)(hp:oc f.blocks.length p)(hl:p.length<=100000):APure Tryz.prog 151 [.agg f.cells,AM p] (fun r=>r=DY (f.joined p)):=by
 obtain⟨hne,hin⟩:=hp;obtain⟨i0,rest,rfl⟩: ∃i0 rest,p=i0::rest:=⟨p.head hne,p.tail,(List.cons_head_tail hne).symm⟩
 have h0:=hin i0 (by simp);have hrl:rest.length<=100000:=by simp at hl;omega
 refine APure.of_body (n:=40) Ah Tryz.func151 rfl rfl ?_;refine LN ?_;refine ax 2 (Fx 2 0) ?_;refine wk 7 ?_;refine dq 12 (At Ah rfl rfl rfl rfl rfl rfl (by decide) (cs:=[.int .i64 i0]) rfl rfl) ?_;refine wk 1 ?_;refine dq 14 (At Ah rfl rfl rfl rfl rfl rfl h0.1 (H7 (Bs h0)) rfl) ?_;refine wk 11 ?_;refine aq 22 (Sk Ah rfl rfl rfl rfl rfl rfl rfl) ?_;refine wk 6 ?_;refine aq 24 (iu Ah (c:=[.int .i64 i0]) (es:=BA rest) rfl rfl rfl rfl rfl rfl (by intro cs h;simp[BA]at h;rcases h with rfl |⟨n,_,rfl⟩<;>rfl)) ?_;refine wk 4 ?_;refine AGo.loopI (γ:=Nat) (fun k=>⟨40,(Aa (Aa (Aa (Aa (Aa A8 2 (.ptr 0 1 0 0)) 6 (Q0 (S9 f rest k) 1 (Hz f i0 rest k))) 24 (AM rest)) 25 (.int .i64 (rest.length:Int))) 26 (.int .i64 (k:Int))),(hput (hput hNone 0 (.row false 2 [f.cells])) 1 (K4 (S9 f rest k) 8 (Hz f i0 rest k)))⟩) (fun k=>k<=rest.length) (fun k=>rest.length-k) 0 (Sub.mk' (by repeat(first | exact ESub.new _ | refine ESub.put ?_ (by first | rfl | exact congrArg (fun es=>some (AV.lst true es)) (by simp[Hz,BFunc.joined]) | exact congrArg (fun(n:Nat)=>some (AV.int .i64 (n:Int))) (by simp[Bf])))) Qf) (Nat.zero_le _) ?_
 intro k hk;refine wk 5 ?_;refine asp 27 (fun hb1=>?_) fun hb1=>?_
 .
  refine act ?_;have hkl:k<rest.length:=by simpa[Bf]using hb1
  obtain⟨y,hy⟩:=Ae hkl;have hyr:=hin y (by simp[List.mem_of_getElem? hy]);have hb1:(Hz f i0 rest k).length+(List.map Tac.cells (f.blockAt y).ins).length<=2000000000:=by
   have h1:=Jy hf (i0::(rest.take k));have h2:=Jy hf [y];simp only[BFunc.joined,List.flatMap_cons,List.flatMap_nil,List.append_nil,List.length_append,List.length_cons,List.length_nil,List.length_take]at h1 h2;simp only[Hz,BFunc.joined,List.length_map,List.length_append];omega
  refine wk 5 ?_;refine aq 28 (JF Ah (AC hy)) ?_;refine wk 8 ?_;refine aq 34 (At Ah rfl rfl rfl rfl rfl rfl hyr.1 (H7 (Bs hyr)) rfl) ?_;refine wk 2 ?_;refine ax 37 (Pm Ah 1 rfl rfl rfl rfl rfl rfl rfl rfl rfl rfl rfl (Nat.zero_lt_succ _) (LF f i0 rest k).1 (LF f i0 rest k).2 (PG _).1 (PG _).2 (by show _*64<=_;omega) (by simp only[maxLen];omega)) ?_;refine wk 3 ?_;refine aq 38 (Be rfl rfl hkl (by simp only[maxLen];omega)) ?_;refine wk 2 ?_;exact⟨k+1,Sub.mk' (by repeat(first | exact ESub.new _ | refine ESub.put ?_ (by first | rfl | exact congrArg (fun p:Bool×List (List AV)=>some (Q0 p.1 1 p.2)) (fG hy)))) (by repeat(first | exact HSub.none _ | exact AL _ | exact AG (by decide) | refine HSub.put ?_ (by first | rfl | exact congrArg (fun p:Bool×List (List AV)=>some (K4 p.1 8 p.2)) (fG hy)) | refine AK ?_ (by decide))),hkl,by omega⟩
 refine acf ?_;have hge:rest.length<=k:=by simpa[Bf]using hb1
 obtain rfl:k=rest.length:=by omega
 refine wk 2 ?_;refine AGo.ghost (.endJ 6 1 rfl rfl) ?_;refine wk 4 ?_;refine Ge ⟨[_],⟨rfl,trivial⟩,?_,rfl⟩;show AV.lst false _=AV.lst false _;rw[Hz,List.take_length];rfl
theorem W0(f:BFunc)(hf:f.tame):APure Tryz.prog 144 [.agg f.cells] (fun r=>r= .tup [.agg f.tidy.cells,AU f.tpaths]):=by
 have hn:=hf.mild;have hle:=hf.leads;have hnn:=AE f;have hrl:=JS f;have hn2: ∀l∈f.nexts,l.length<=100000:=fun l hl=>by have:=KY f l hl;omega
 have htl:f.tk.length=f.blocks.length:=AI f _;have hti:=GI hle f.reach;refine APure.of_body (n:=119) Ah Tryz.func144 rfl rfl ?_;refine LN ?_;refine ax 1 (Fx 2 0) ?_;refine ax 2 (Ew Ah 1) ?_;refine wk 5 ?_;refine ax 17 (DX Tryz.func80 (QT f (by omega))) ?_;refine wk 5 ?_;refine ax 19 (DX Tryz.func148 (Zt f.nexts (by omega) hn2)) ?_;refine wk 7 ?_;refine ax 24 (DX Tryz.func149 (T9 f f.reach hn hrl hle)) ?_;refine wk 3 ?_;refine ax 6 (Ew Ah 2) ?_;refine wk 8 ?_;refine AGo.ghost (.dry 8 4 1 true rfl rfl rfl (by decide)) ?_;refine wk 4 ?_;refine ax 30 (Az Ah (n:=f.blocks.length) (m:=f.blocks.length) 3 true rfl rfl rfl (by simp) (by simp) rfl rfl rfl rfl rfl (Nat.zero_lt_succ _) rfl (Nat.le_refl _) (by show 8*f.blocks.length<=_;omega) (by simp only[maxLen];omega)) ?_;refine wk 4 ?_;refine aq 31 (FO rfl rfl rfl) ?_;refine wk 11 ?_;refine A4 (γ:=Nat) 5 (fun k=>⟨119,(Aa (Aa (Aa (Aa (Aa (Aa (Aa (Aa (Aa A8 1 (.ptr 0 1 0 0)) 2 (.ptr 1 1 0 0)) 9 (.ref 3 f.blocks.length 0 f.blocks.length)) 5 (Ch f.reach)) 7 (Ch (f.takenAt f.reach f.blocks.length))) 8 (.ref 4 (f.pathsTo k).length 0 (f.pathsTo k).length)) 10 (.fn (.func 150) [] [.ptr 2 1 0 0])) 34 (.int .i64 (f.blocks.length:Int))) 35 (.int .i64 (k:Int))),(hput (hput (hput (hput (hput (Bw 5) 0 (.row false 2 [f.cells])) 1 (.row false 2 [[.int .i64 0,.nil]])) 2 (.row false 1 [[AM f.tk]])) 3 (.row true 1 (BA (f.numsTo k)))) 4 (.row true 1 ((f.pathsTo k).map pathCell)))⟩) (fun k=>k<=f.blocks.length) (fun k=>f.blocks.length-k) 0 (Sub.mk' Dw (by repeat(first | exact HSub.none _ | exact AL _ | exact AG (by decide) | refine HSub.put ?_ (by first | rfl | exact congrArg (fun es=>some (AObj.row true 1 es)) (Kb _)) | refine AK ?_ (by decide) | refine BR ?_ (by decide)))) (Nat.zero_le _) (fun _=>Ag (Ag (Ag (Ag (Ag (fun b hb=>AO hb) rfl) rfl) rfl) rfl) rfl) ?_
 intro k hk;refine wk 5 ?_;refine asp 36 (fun hb1=>?_) fun hb1=>?_
 .
  refine act ?_;have hkl:k<f.blocks.length:=by simpa using hb1
  obtain⟨rk,hrk⟩:=Ae (l:=f.reach) (k:=k) (by omega);obtain⟨tk,htk⟩:=Ae (l:=(f.takenAt f.reach f.blocks.length)) (k:=k) (by rw[B7];omega);have hhd:=PO hrk htk;refine wk 12 ?_;refine aq 40 (At Ah rfl rfl rfl rfl rfl rfl (Int.natCast_nonneg _) (AC (by assumption)) rfl) ?_;refine wk 2 ?_;refine Ex 42 (fun hb2=>?_) fun hb2=>?_
  .
   refine wk 2 ?_;refine aq 45 (At Ah rfl rfl rfl rfl rfl rfl (Int.natCast_nonneg _) (AC (by assumption)) rfl) ?_;refine wk 4 ?_;refine asp 48 (fun hb3=>?_) fun hb3=>?_
   .
    refine act ?_;have hhead:f.headOf k=true:=by rw[hhd];simp_all
    have hpl:=DC f k;refine wk 6 ?_;refine aq 53 (Ac Ah rfl rfl rfl rfl rfl rfl rfl (by rw[Bf,BN]) rfl (Int.natCast_nonneg _) (by omega)) ?_;refine AOps.w rfl rfl (o_store Ah rfl rfl rfl rfl rfl rfl (by rw[Bf,BN]) (NJ (by rw[BN];omega)) rfl (by decide) rfl Ee) ?_;refine wk 5 ?_;refine ax 57 (L5 (hc:=(hput hNew 2 (.row false 1 [[AM f.tk]]))) (hw:=(hput hNone 2 (.row false 1 [[AM f.tk]]))) [2] [(2,(.row false 1 [[AM f.tk]]))] rfl rfl Tryz.func150 (by kernel_rfl) rfl rfl rfl ⟨⟨_,rfl,rfl⟩,trivial⟩ rfl (Bq rfl (Ce _)) ⟨⟨_,rfl,rfl,rfl⟩,trivial⟩ rfl (XT f.tk k (by omega) (by omega) hti (hf.ends k hhead))) ?_;refine ax 58 (Cq Ah rfl rfl rfl rfl rfl rfl (by decide) rfl rfl rfl rfl rfl rfl) ?_;refine ax 59 (o_append Ah (n:=(f.pathsTo k).length) (m:=1) rfl rfl rfl rfl rfl rfl rfl rfl rfl (by simp) rfl rfl (Nat.zero_lt_succ _) (.lst _ _) (by intro cs h;simp[partVals]at h;subst h;rfl) (fun _ cs h=>by simp[partVals]at h;subst h;rfl) rfl (by simp[partVals];show _*24<=_;omega) (by simp[partVals];simp only[maxLen];omega)) ?_
    refine wk 3 ?_;exact gk
   refine acf ?_;have hhead:f.headOf k=false:=by rw[hhd];simp_all
   refine wk 2 ?_;exact gk
  refine AOps.k 43 rfl rfl rfl ?_;refine AOps.k 44 rfl rfl rfl ?_;refine AOps.k 45 rfl rfl rfl ?_;refine AOps.k 46 rfl rfl rfl ?_;refine AOps.k 47 rfl rfl rfl ?_;refine wk 3 ?_;have hhead:f.headOf k=false:=by rw[hhd];simp_all
  refine wk 2 ?_;exact gk
 refine acf ?_;have hge:f.blocks.length<=k:=by simpa using hb1
 obtain rfl:k=f.blocks.length:=by omega
 refine wk 2 ?_;refine AGo.ghost (.freezeA 8 4 rfl rfl (by simp)) ?_;have hml:f.tpaths.length<=f.blocks.length:=DC f f.blocks.length;refine wk 5 ?_;refine dx 65 (Az Ah (n:=f.tpaths.length) (m:=f.tpaths.length) 5 true rfl rfl rfl (by simp[BFunc.tpaths]) (by simp[BFunc.tpaths]) rfl rfl rfl rfl rfl (Nat.zero_lt_succ _) rfl (Nat.le_refl _) (by show 56*f.tpaths.length<=_;have:=DC f f.blocks.length;have:f.tpaths.length<=f.blocks.length:=this;omega) (by have:=DC f f.blocks.length;have:f.tpaths.length<=f.blocks.length:=this;simp only[maxLen];omega)) ?_;refine wk 1 ?_;refine dx 12 (Ew Ah 6) ?_;refine wk 10 ?_;refine A4 (γ:=Nat) 7 (fun k=>⟨119,(Aa (Aa (Aa (Aa (Aa (Aa (Aa (Aa A8 1 (.ptr 0 1 0 0)) 2 (.ptr 1 1 0 0)) 9 (.ref 3 f.blocks.length 0 f.blocks.length)) 8 (AU f.tpaths)) 12 (.ptr 6 1 0 0)) 67 (AU f.tpaths)) 68 (.int .i64 (f.tpaths.length:Int))) 69 (.int .i64 (k:Int))),(hput (hput (hput (hput (hput (Bw 7) 0 (.row false 2 [f.cells])) 1 (.row false 2 [[.int .i64 0,.nil]])) 3 (.row true 1 (BA f.nums))) 5 (.row true 5 (((f.tpaths.map f.newBlock).take k).map Block.cells++List.replicate (f.tpaths.length-k) [.nil,.int .i64 0,.int .i64 0,.int .i64 0,.int .i64 0]))) 6 (.row false 2 [[.int .i64 f.regs,.ref 5 f.tpaths.length 0 f.tpaths.length]]))⟩) (fun k=>k<=f.tpaths.length) (fun k=>f.tpaths.length-k) 0 (Sub.mk' (by repeat(first | exact ESub.new _ | refine ESub.put ?_ (by first | rfl | exact congrArg (fun(n:Nat)=>some (AV.int .i64 (n:Int))) (by simp[BFunc.tpaths])))) (by repeat(first | exact HSub.none _ | exact AL _ | exact AG (by decide) | refine HSub.put ?_ (by rfl) | refine AK ?_ (by decide) | refine BR ?_ (by decide)))) (Nat.zero_le _) (fun _=>Ag (Ag (Ag (Ag (Ag (fun b hb=>AO hb) rfl) rfl) rfl) rfl) rfl) ?_
 intro k hk;refine wk 5 ?_;refine asp 70 (fun hb4=>?_) fun hb4=>?_
 .
  refine act ?_;have hkl:k<f.tpaths.length:=by simpa using hb4
  obtain⟨p,hp⟩:=Ae hkl;have hpm:=List.mem_of_getElem? hp;have hpin:=HX hle _ (Nat.le_refl _) p hpm;have hplen:0<p.length:=List.length_pos_iff.2 hpin.1;have hlast:=hpin.2 _ (J8 hpin.1);have hbx:=Bs hlast;have hnb:(f.tpaths.map f.newBlock)[k]?=some (f.newBlock p):=by simp[hp]
  refine wk 6 ?_;refine aq 72 (At Ah rfl rfl rfl rfl rfl rfl (Int.natCast_nonneg _) (AC (by assumption)) rfl) ?_;refine wk 11 ?_;refine dq 79 (Bx (r:=.int .i64 ((p.length-1:Nat):Int)) rfl rfl rfl (by rw[List.length_map];exact NB hplen (by have:=E4 _ p hpm;omega))) ?_;refine dq 80 (At Ah rfl rfl rfl rfl rfl rfl (Int.natCast_nonneg _) (cs:=[.int .i64 (AH p)]) (by show(List.map (fun b=>[AV.int .i64 b]) p)[_]?=_;rw[Int.toNat_natCast,List.getElem?_map,ST hpin.1];rfl) rfl) ?_;refine wk 1 ?_;refine dq 82 (At Ah rfl rfl rfl rfl rfl rfl hlast.1 (H7 (Bs hlast)) rfl) ?_;refine wk 1 ?_;refine dx 15 (Ew Ah 7) ?_;refine wk 6 ?_;refine ax 86 (DX Tryz.func151 (XJ f p hf.ins hpin (by have:=E4 _ p hpm;omega))) ?_;refine wk 10 ?_;refine Ex 91 (fun hb5=>?_) fun hb5=>?_
  .
   refine AOps.k 92 rfl rfl rfl ?_;refine AOps.k 93 rfl rfl rfl ?_;refine AOps.k 94 rfl rfl rfl ?_;refine wk 3 ?_;have hto:=H5 hle hbx (by simp_all);refine wk 4 ?_;refine aq 99 (Ac Ah rfl rfl rfl rfl rfl rfl rfl WC rfl hto.1 (by omega)) ?_;refine aq 100 (AA Ah rfl rfl rfl (.ptr _ _ _ _ _ _ _ _ rfl WC (NJ (by rw[show f.nums.length=f.blocks.length from BN f _];exact hto))) rfl) ?_;refine wk 10 ?_;refine asp 104 (fun hb6=>?_) fun hb6=>?_
   .
    exact ge
   refine wk 7 ?_;exact n9
  refine wk 5 ?_;refine asp 95 (fun hb7=>?_) fun hb7=>?_
  .
   refine act ?_;have hto:=H5 hle hbx (by simp_all);refine wk 4 ?_;refine aq 99 (Ac Ah rfl rfl rfl rfl rfl rfl rfl WC rfl hto.1 (by omega)) ?_;refine aq 100 (AA Ah rfl rfl rfl (.ptr _ _ _ _ _ _ _ _ rfl WC (NJ (by rw[show f.nums.length=f.blocks.length from BN f _];exact hto))) rfl) ?_;refine wk 10 ?_;refine asp 104 (fun hb8=>?_) fun hb8=>?_
   .
    exact ge
   refine wk 7 ?_;exact n9
  refine wk 9 ?_;refine asp 104 (fun hb9=>?_) fun hb9=>?_
  .
   exact ge
  refine wk 7 ?_;exact n9
 refine acf ?_;have hge:f.tpaths.length<=k:=by simpa using hb4
 refine wk 2 ?_;refine AGo.ghost (.freezeCell 6 0 1 5 rfl rfl rfl rfl (Av (by simp:(f.tpaths.map f.newBlock).length=f.tpaths.length) hk) (by decide)) ?_;refine wk 7 ?_;refine⟨[_,_],⟨⟨_,_,_,_,rfl,rfl,.ptr _ _ _ _ _ _ _ _ rfl rfl rfl,rfl⟩,rfl,trivial⟩,?_,rfl⟩;have e1:=Cf (f:=Block.cells) (z:=[.nil,.int .i64 0,.int .i64 0,.int .i64 0,.int .i64 0]) (by simp:(f.tpaths.map f.newBlock).length=f.tpaths.length) hge;show AV.tup [.agg [_,.lst false _],_]=_;rw[e1];rfl
theorem P3(op a b:Int)(hb:0<=b):APure Tryz.prog 103 [.int .i64 op,.int .u32 a,.int .u32 b] (fun r=>r=fq (wdivide op a b)):=by
 refine APure.of_body (n:=18) Ah Tryz.func103 rfl rfl ?_;refine wk 11 ?_;refine asp 9 (fun hb1=>?_) fun hb1=>?_
 .
  refine wk 7 ?_;refine⟨[_,_],⟨rfl,rfl,trivial⟩,?_,rfl⟩;show AV.tup _=AV.tup _;simp[wdivide, *]
 refine acf ?_;have hb0: ¬b=0:=by simpa using hb1
 refine wk 7 ?_;refine asp 11 (fun hb2=>?_) fun hb2=>?_
 .
  refine wk 5 ?_;refine aq 14 (Bx (r:=.int .u32 (IntKind.u32.wrap (a.tdiv b))) rfl rfl rfl (by simp[AX,BL,isShift,hb0])) ?_;refine wk 4 ?_;refine⟨[_,_],⟨rfl,rfl,trivial⟩,?_,rfl⟩;show AV.tup _=AV.tup _;simp[wdivide, *]
 refine wk 6 ?_;refine aq 17 (Bx (r:=.int .u32 (a.tmod b)) rfl rfl rfl (by simp[AX,BL,isShift,hb0])) ?_;refine wk 4 ?_;refine⟨[_,_],⟨rfl,rfl,trivial⟩,?_,rfl⟩;show AV.tup _=AV.tup _;simp[wdivide, *]
theorem R9(op a b:Int)(hb:0<=b):APure Tryz.prog 104 [.int .i64 op,.int .u32 a,.int .u32 b] (fun r=>r= .int .u32 (Qh op a b)):=by
 refine APure.of_body (n:=19) Ah Tryz.func104 rfl rfl ?_;refine wk 12 ?_;refine asp 7 (fun hb1=>?_) fun hb1=>?_
 .
  refine wk 5 ?_;exact f7
 refine wk 7 ?_;refine asp 10 (fun hb2=>?_) fun hb2=>?_
 .
  refine wk 5 ?_;refine aq 15 (Bx (r:=.int .u32 (IntKind.u32.wrap (a*2^(min b.toNat IntKind.u32.bits)))) rfl rfl rfl (by simp only[AX,BL,isShift,cond_true,if_neg (show ¬b<0 by omega)])) ?_;refine wk 2 ?_;exact f7
 refine wk 6 ?_;refine aq 18 (Bx (r:=.int .u32 (a.fdiv (2^(min b.toNat IntKind.u32.bits)))) rfl rfl rfl (by simp only[AX,BL,isShift,cond_true,if_neg (show ¬b<0 by omega)])) ?_;refine wk 2 ?_;exact f7
theorem N9(op a b:Int)(hb:0<=b):APure Tryz.prog 105 [.int .i64 op,.int .u32 a,.int .u32 b] (fun r=>r= .int .u32 (JI op a b)):=by
 refine APure.of_body (n:=23) Ah Tryz.func105 rfl rfl ?_;refine wk 16 ?_;refine Ex 10 (fun hb1=>?_) fun hb1=>?_
 .
  refine wk 6 ?_;refine asp 7 (fun hb2=>?_) fun hb2=>?_
  .
   refine wk 7 ?_;exact TY
  refine wk 7 ?_;refine Ex 18 (fun hb3=>?_) fun hb3=>?_
  .
   refine wk 6 ?_;refine asp 15 (fun hb4=>?_) fun hb4=>?_
   .
    refine wk 7 ?_;exact TY
   refine wk 7 ?_;exact TY
  refine wk 13 ?_;exact TY
 refine wk 13 ?_;refine Ex 18 (fun hb5=>?_) fun hb5=>?_
 .
  refine wk 6 ?_;refine asp 15 (fun hb6=>?_) fun hb6=>?_
  .
   refine wk 7 ?_;exact TY
  refine wk 7 ?_;exact TY
 refine wk 13 ?_;exact TY
theorem ca(op a b:Int)(hb:0<=b):APure Tryz.prog 96 [.int .i64 op,.int .u32 a,.int .u32 b] (fun r=>r=fq (DP op a b)):=by
 refine APure.of_body (n:=62) Ah Tryz.func96 rfl rfl ?_;refine wk 16 ?_;refine asp 9 (fun hb1=>?_) fun hb1=>?_
 .
  refine wk 10 ?_;exact Ky
 refine wk 6 ?_;refine asp 14 (fun hb2=>?_) fun hb2=>?_
 .
  refine wk 10 ?_;exact Ky
 refine wk 6 ?_;refine asp 19 (fun hb3=>?_) fun hb3=>?_
 .
  refine wk 10 ?_;exact Ky
 refine wk 7 ?_;refine asp 24 (fun hb4=>?_) fun hb4=>?_
 .
  refine wk 8 ?_;refine ax 30 (DX Tryz.func103 (P3 _ _ _ hb)) ?_;refine wk 6 ?_;exact Ky
 refine wk 5 ?_;refine asp 24 (fun hb5=>?_) fun hb5=>?_
 .
  refine wk 6 ?_;refine ax 30 (DX Tryz.func103 (P3 _ _ _ hb)) ?_;refine wk 6 ?_;exact Ky
 refine wk 6 ?_;refine asp 33 (fun hb6=>?_) fun hb6=>?_
 .
  refine wk 10 ?_;exact Ky
 refine wk 6 ?_;refine asp 38 (fun hb7=>?_) fun hb7=>?_
 .
  refine wk 10 ?_;exact Ky
 refine wk 6 ?_;refine asp 43 (fun hb8=>?_) fun hb8=>?_
 .
  refine wk 10 ?_;exact Ky
 refine wk 7 ?_;refine asp 48 (fun hb9=>?_) fun hb9=>?_
 .
  refine wk 8 ?_;refine ax 54 (DX Tryz.func104 (R9 _ _ _ hb)) ?_;refine wk 4 ?_;exact Ky
 refine wk 5 ?_;refine asp 48 (fun hb10=>?_) fun hb10=>?_
 .
  refine wk 6 ?_;refine ax 54 (DX Tryz.func104 (R9 _ _ _ hb)) ?_;refine wk 4 ?_;exact Ky
 refine wk 7 ?_;refine asp 55 (fun hb11=>?_) fun hb11=>?_
 .
  refine wk 8 ?_;refine ax 61 (DX Tryz.func105 (N9 _ _ _ hb)) ?_;refine wk 4 ?_;exact Ky
 refine wk 5 ?_;refine asp 55 (fun hb12=>?_) fun hb12=>?_
 .
  refine wk 6 ?_;refine ax 61 (DX Tryz.func105 (N9 _ _ _ hb)) ?_;refine wk 4 ?_;exact Ky
 refine wk 8 ?_;exact Ky
theorem XR(t:Tac)(K:Cv)(hK:Kt K):ACall Tryz.prog 76 [.agg t.cells,.map 0] (hput hNew 0 (.map (kvs .i64 (nm K)))) (fun r h'=>r= .tup [.int .u32 (Dr t K).1,.bool (Dr t K).2]/\HSub (hput hNone 0 (.map (kvs .i64 (nm K)))) h'):=by
 refine ACall.of_body (n:=60) Ah Tryz.func76 rfl rfl ?_;refine LN ?_;refine ax 2 (Fx 8 1) ?_;refine wk 15 ?_;refine asp 16 (fun hb1=>?_) fun hb1=>?_
 .
  refine wk 6 ?_;refine aq 22 (KQ Ah rfl rfl rfl rfl rfl rfl rfl rfl (by kernel_rfl)) ?_;refine wk 14 ?_;exact YK
 refine wk 6 ?_;refine asp 27 (fun hb2=>?_) fun hb2=>?_
 .
  refine wk 6 ?_;refine aq 33 (KQ Ah rfl rfl rfl rfl rfl rfl rfl rfl (by kernel_rfl)) ?_;refine wk 11 ?_;refine aq 40 (KQ Ah rfl rfl rfl rfl rfl rfl rfl rfl (by kernel_rfl)) ?_;refine wk 12 ?_;refine Ex 45 (fun hb3=>?_) fun hb3=>?_
  .
   refine AOps.k 46 rfl rfl rfl ?_;refine AOps.k 47 rfl rfl rfl ?_;refine wk 9 ?_;exact YK
  refine wk 4 ?_;refine asp 48 (fun hb4=>?_) fun hb4=>?_
  .
   refine wk 7 ?_;exact YK
  refine wk 8 ?_;refine ax 54 (DX Tryz.func96 (ca _ _ _ (QQ hK _).1)) ?_;refine wk 15 ?_;exact YK
 refine wk 8 ?_;exact YK
theorem XU(l:List Tac)(hl:I2 l)(hn:l.length<=100000):APure Tryz.prog 56 [DY l] (fun r=>r=DY (Du [] l)):=by
 refine APure.of_body (n:=51) Ah Tryz.func56 rfl rfl ?_;refine wk 6 ?_;refine ax 10 (II .i64 0 rfl rfl) ?_;refine wk 6 ?_;refine ax 13 (Az Ah (n:=l.length) (m:=l.length) 1 true rfl rfl rfl (by simp) (by simp) rfl rfl rfl rfl rfl (Nat.zero_lt_succ _) rfl (Nat.le_refl _) (by show 64*l.length<=_;omega) (by simp only[maxLen];omega)) ?_;refine wk 10 ?_;refine A4 (γ:=Nat) 2 (fun k=>⟨51,(Aa (Aa (Aa (Aa (Aa A8 3 (.map 0)) 4 (.ref 1 l.length 0 l.length)) 14 (DY l)) 15 (.int .i64 (l.length:Int))) 16 (.int .i64 (k:Int))),(hput (hput (Bw 2) 0 (.map (kvs .i64 (nm (fknow l k))))) 1 (.row true 8 (((Du [] l).take (k)).map Tac.cells++List.replicate (l.length-(k)) [.int .i64 0,.int .i64 0,.int .i64 0,.int .i64 0,.int .i64 0,.int .i64 0,.int .i64 0,.int .u32 0])))⟩) (fun k=>k<=l.length) (fun k=>l.length-k) 0 (Sub.mk' Dw (by repeat(first | exact HSub.none _ | exact AL _ | exact AG (by decide) | refine HSub.put ?_ (by first | rfl |(simp;rfl)) | refine AK ?_ (by decide)))) (Nat.zero_le _) (fun _=>Ag (Ag (fun b hb=>AO hb) rfl) rfl) ?_
 intro k hk;refine wk 5 ?_;refine asp 17 (fun hb1=>?_) fun hb1=>?_
 .
  refine act ?_;have hkl:k<l.length:=by simpa using hb1
  obtain⟨x,hx⟩:=Ae hkl;refine wk 6 ?_;refine aq 19 (At Ah rfl rfl rfl rfl rfl rfl (Int.natCast_nonneg _) (AC (by assumption)) rfl) ?_;refine wk 1 ?_;refine ax 6 (Ew Ah 2) ?_;refine wk 8 ?_;refine ax 24 (fx (XR x (fknow l k) (Wg hl k)) [0] [] rfl Tryz.func76 (by kernel_rfl) rfl rfl rfl ⟨⟨_,rfl,rfl⟩,trivial⟩ rfl (Bq rfl (Ce _)) ⟨⟨_,rfl,rfl,rfl⟩,trivial⟩ rfl) ?_;refine wk 6 ?_;refine AGo.join (γ:=Tac) (fun u=>⟨51,(Aa (Aa (Aa (Aa (Aa (Aa (Aa A8 3 (.map 0)) 4 (.ref 1 l.length 0 l.length)) 14 (DY l)) 15 (.int .i64 (l.length:Int))) 16 (.int .i64 (k:Int))) 5 (.int .i64 (k:Int))) 6 (.ptr 2 1 0 0)),(hput (hput (hput (Bw 3) 0 (.map (kvs .i64 (nm (fknow l k))))) 1 (.row true 8 (((Du [] l).take (k)).map Tac.cells++List.replicate (l.length-(k)) [.int .i64 0,.int .i64 0,.int .i64 0,.int .i64 0,.int .i64 0,.int .i64 0,.int .i64 0,.int .u32 0]))) 2 (.row false 8 [u.cells]))⟩) (fun u=>u=C3 (fknow l k) x) ?_ ?_
  .
   refine wk 4 ?_;refine asp 27 (fun hb2=>?_) fun hb2=>?_
   .
    refine wk 8 ?_;exact⟨(J9 x.d (Dr x (fknow l k)).1),Sub.mk' Cw Qf,(by simp[C3, *])⟩
   refine wk 2 ?_;exact⟨x,Sub.mk' Cw Qf,(by simp[C3, *])⟩
  intro u hu;refine wk 5 ?_;refine aq 35 (Ac Ah rfl rfl rfl rfl rfl rfl rfl (Av (BH l []) (Nat.le_of_lt hkl)) rfl (Int.natCast_nonneg _) (by omega)) ?_;refine AOps.w rfl rfl (o_store Ah rfl rfl rfl rfl rfl rfl (Av (BH l []) (Nat.le_of_lt hkl)) (fill_get (BH l []) hkl) rfl (by decide) rfl Ee) ?_;refine wk 4 ?_;refine ax 37 (DX Tryz.func77 (Kr _)) ?_;refine wk 8 ?_;refine asp 39 (fun hb3=>?_) fun hb3=>?_
  .
   refine wk 3 ?_;exact gj
  refine wk 8 ?_;refine asp 42 (fun hb4=>?_) fun hb4=>?_
  .
   refine wk 6 ?_;refine AOps.w rfl rfl (QS Ah rfl rfl rfl rfl rfl rfl rfl rfl rfl rfl) ?_;refine wk 2 ?_;exact gj
  refine wk 4 ?_;refine AOps.w rfl rfl (o_deleteW Ah rfl rfl rfl rfl rfl rfl rfl rfl rfl) ?_;refine wk 2 ?_;exact gj
 refine acf ?_;have hge:l.length<=k:=by simpa using hb1
 refine wk 6 ?_;refine AGo.ghost (.freeze 2 1 rfl rfl (Av (BH l []) hk)) ?_;refine Ge ⟨[_],⟨rfl,trivial⟩,?_,rfl⟩;show AV.lst false _=AV.lst false _;rw[Cf (BH l []) hge]
theorem XW(f:BFunc)(hf:f.mild):APure Tryz.prog 41 [.agg f.cells] (fun r=>r= .tup [.agg f.fold.cells,.agg f.all.cells]):=by
 refine APure.of_body (n:=59) Ah Tryz.func41 rfl rfl ?_;refine LN ?_;refine ax 1 (Fx 2 0) ?_;refine ax 2 (Ew Ah 1) ?_;refine ax 3 (Ew Ah 2) ?_;refine wk 8 ?_;refine dx 15 (Az Ah (n:=f.blocks.length) (m:=f.blocks.length) 3 true rfl rfl rfl (by simp) (by simp) rfl rfl rfl rfl rfl (Nat.zero_lt_succ _) rfl (Nat.le_refl _) (by show 56*f.blocks.length<=_;have:=hf.2.2.1;omega) (by simp only[maxLen];have:=hf.2.2.1;omega)) ?_;refine wk 1 ?_;refine dx 4 (Ew Ah 4) ?_;refine wk 7 ?_;refine ax 20 (Az Ah (n:=f.blocks.length) (m:=f.blocks.length) 5 true rfl rfl rfl (by simp) (by simp) rfl rfl rfl rfl rfl (Nat.zero_lt_succ _) rfl (Nat.le_refl _) (by show 24*f.blocks.length<=_;have:=hf.2.2.1;omega) (by simp only[maxLen];have:=hf.2.2.1;omega)) ?_;refine wk 1 ?_;refine ax 5 (Ew Ah 6) ?_;refine wk 11 ?_;refine A4 (γ:=Nat) 7 (fun k=>⟨59,(Aa (Aa (Aa (Aa (Aa (Aa (Aa (Aa A8 1 (.ptr 0 1 0 0)) 2 (.ptr 1 1 0 0)) 3 (.ptr 2 1 0 0)) 4 (.ptr 4 1 0 0)) 5 (.ptr 6 1 0 0)) 23 (BZ f.blocks)) 24 (.int .i64 (f.blocks.length:Int))) 25 (.int .i64 (k:Int))),(hput (hput (hput (hput (hput (hput (hput (Bw 7) 0 (.row false 2 [f.cells])) 1 (.row false 2 [[.int .i64 0,.nil]])) 2 (.row false 1 [[.nil]])) 4 (.row false 2 [[.int .i64 f.regs,.ref 3 f.blocks.length 0 f.blocks.length]])) 6 (.row false 1 [[.ref 5 f.blocks.length 0 f.blocks.length]])) 3 (.row true 5 ((((f.blocks.map Block.fold).take (k)).map Block.cells)++List.replicate (f.blocks.length-(k)) [.nil,.int .i64 0,.int .i64 0,.int .i64 0,.int .i64 0]))) 5 (.row true 1 ((((List.replicate f.blocks.length (List.replicate f.regs.toNat true)).take (k)).map CO)++List.replicate (f.blocks.length-(k)) [.nil])))⟩) (fun k=>k<=f.blocks.length) (fun k=>f.blocks.length-k) 0 (Sub.mk' Dw Qf) (Nat.zero_le _) (fun _=>Ag (Ag (Ag (Ag (Ag (Ag (Ag (fun b hb=>AO hb) rfl) rfl) rfl) rfl) rfl) rfl) rfl) ?_
 intro k hk;refine wk 5 ?_;refine asp 26 (fun hb1=>?_) fun hb1=>?_
 .
  refine act ?_;have hkl:k<f.blocks.length:=by simpa using hb1
  obtain⟨x,hx⟩:=Ae hkl;refine wk 6 ?_;refine aq 28 (At Ah rfl rfl rfl rfl rfl rfl (Int.natCast_nonneg _) (AC (by assumption)) rfl) ?_;refine wk 1 ?_;refine ax 7 (Ew Ah 7) ?_;refine wk 7 ?_;refine ax 32 (DX Tryz.func56 (XU _ (hf.2.2.2 x (List.mem_of_getElem? hx)).2 (hf.2.2.2 x (List.mem_of_getElem? hx)).1)) ?_;refine wk 9 ?_;refine aq 38 (Ac Ah rfl rfl rfl rfl rfl rfl rfl (Av (by simp:(f.blocks.map Block.fold).length=f.blocks.length) (Nat.le_of_lt hkl)) rfl (Int.natCast_nonneg _) (by omega)) ?_;refine AOps.w rfl rfl (o_store Ah rfl rfl rfl rfl rfl rfl (Av (by simp:(f.blocks.map Block.fold).length=f.blocks.length) (Nat.le_of_lt hkl)) (fill_get (by simp:(f.blocks.map Block.fold).length=f.blocks.length) hkl) rfl (by decide) rfl Ee) ?_;refine wk 5 ?_;refine ax 41 (Az Ah (n:=f.regs.toNat) (m:=f.regs.toNat) 8 true rfl rfl rfl (by have:=hf.1;omega) (by have:=hf.1;omega) rfl rfl rfl rfl rfl (Nat.zero_lt_succ _) rfl (Nat.le_refl _) (by show 1*f.regs.toNat<=_;have:=hf.2.1;omega) (by simp only[maxLen];have:=hf.2.1;omega)) ?_
  refine wk 10 ?_;refine A4 (γ:=Nat) 9 (fun j=>⟨59,(Aa (Aa (Aa (Aa (Aa (Aa (Aa (Aa (Aa (Aa (Aa (Aa A8 1 (.ptr 0 1 0 0)) 2 (.ptr 1 1 0 0)) 3 (.ptr 2 1 0 0)) 4 (.ptr 4 1 0 0)) 5 (.ptr 6 1 0 0)) 23 (BZ f.blocks)) 24 (.int .i64 (f.blocks.length:Int))) 25 (.int .i64 (k:Int))) 6 (.int .i64 (k:Int))) 8 (.ref 8 f.regs.toNat 0 f.regs.toNat)) 43 (.int .i64 (f.regs.toNat:Int))) 44 (.int .i64 (j:Int))),(hput (hput (hput (hput (hput (hput (hput (hput (Bw 9) 0 (.row false 2 [f.cells])) 1 (.row false 2 [[.int .i64 0,.nil]])) 2 (.row false 1 [[.nil]])) 4 (.row false 2 [[.int .i64 f.regs,.ref 3 f.blocks.length 0 f.blocks.length]])) 6 (.row false 1 [[.ref 5 f.blocks.length 0 f.blocks.length]])) 3 (.row true 5 (((f.blocks.map Block.fold).take (k+1)).map Block.cells++List.replicate (f.blocks.length-(k+1)) [.nil,.int .i64 0,.int .i64 0,.int .i64 0,.int .i64 0]))) 5 (.row true 1 ((((List.replicate f.blocks.length (List.replicate f.regs.toNat true)).take (k)).map CO)++List.replicate (f.blocks.length-(k)) [.nil]))) 8 (.row true 1 ((((List.replicate f.regs.toNat true).take (j)).map A1)++List.replicate (f.regs.toNat-(j)) [.bool false])))⟩) (fun j=>j<=f.regs.toNat) (fun j=>f.regs.toNat-j) 0 (Sub.mk' Cw (by repeat(first | exact HSub.none _ | exact AL _ | exact AG (by decide) | refine HSub.put ?_ (by first | rfl | exact congrArg (fun es=>some (AObj.row true 5 es)) (BJ (f:=Block.cells) (x:=x.fold) (by simp:(f.blocks.map Block.fold).length=f.blocks.length) (by simp[hx]))) | refine AK ?_ (by decide)))) (Nat.zero_le _) (fun _=>Ag (Ag (Ag (Ag (Ag (Ag (Ag (Ag (fun b hb=>AO hb) rfl) rfl) rfl) rfl) rfl) rfl) rfl) rfl) ?_
  intro j hj;refine wk 5 ?_;refine asp 45 (fun hb2=>?_) fun hb2=>?_
  .
   refine act ?_;have hjl:j<f.regs.toNat:=by have h:=hb2;simp at h;omega
   refine wk 11 ?_;refine aq 49 (Ac Ah rfl rfl rfl rfl rfl rfl rfl (Av (by simp:(List.replicate f.regs.toNat true).length=f.regs.toNat) (Nat.le_of_lt hjl)) rfl (Int.natCast_nonneg _) (by omega)) ?_;refine AOps.w rfl rfl (o_store Ah rfl rfl rfl rfl rfl rfl (Av (by simp:(List.replicate f.regs.toNat true).length=f.regs.toNat) (Nat.le_of_lt hjl)) (fill_get (by simp:(List.replicate f.regs.toNat true).length=f.regs.toNat) hjl) rfl (by decide) rfl Ee) ?_;refine wk 2 ?_;refine aq 50 (Be rfl rfl hjl (by simp only[maxLen];have:=hf.2.1;omega)) ?_;refine wk 2 ?_;exact jE
  refine acf ?_;have hge2:f.regs.toNat<=j:=by have h:=hb2;simp at h;omega
  refine wk 1 ?_;refine AGo.ghost (.freeze 8 8 rfl rfl (Av (by simp:(List.replicate f.regs.toNat true).length=f.regs.toNat) hj)) ?_;refine wk 5 ?_;refine aq 55 (Ac Ah rfl rfl rfl rfl rfl rfl rfl (Av (by simp:(List.replicate f.blocks.length (List.replicate f.regs.toNat true)).length=f.blocks.length) (Nat.le_of_lt hkl)) rfl (Int.natCast_nonneg _) (by omega)) ?_;refine AOps.w rfl rfl (o_store Ah rfl rfl rfl rfl rfl rfl (Av (by simp:(List.replicate f.blocks.length (List.replicate f.regs.toNat true)).length=f.blocks.length) (Nat.le_of_lt hkl)) (fill_get (by simp:(List.replicate f.blocks.length (List.replicate f.regs.toNat true)).length=f.blocks.length) hkl) rfl (by decide) rfl Ee) ?_;refine wk 2 ?_;refine aq 56 (Be rfl rfl hkl (by simp only[maxLen];have:=hf.2.2.1;omega)) ?_;refine wk 2 ?_;exact⟨k+1,Drop.mk' Qd (by repeat(first | exact HDrop.none _ _ | exact HDrop.tail _ _ | refine HDrop.put ?_ (by first | rfl | exact congrArg (fun es=>some (AObj.row true 5 es)) (BJ (f:=Block.cells) (x:=x.fold) (by simp:(f.blocks.map Block.fold).length=f.blocks.length) (by simp[hx])) | exact congrArg (fun es=>some (AObj.row true 1 es)) (by rw[<-BJ (f:=CO) (x:=List.replicate f.regs.toNat true) (by simp:(List.replicate f.blocks.length (List.replicate f.regs.toNat true)).length=f.blocks.length) (by simp[hkl])];exact congrArg (fun b=>List.set _ _ [AV.lst false b]) (Cf (f:=A1) (by simp:(List.replicate f.regs.toNat true).length=f.regs.toNat) hge2))) rfl rfl)),hkl,by omega⟩
 refine acf ?_;have hge:f.blocks.length<=k:=by simpa using hb1
 refine wk 2 ?_;refine AGo.ghost (.freezeCell 4 0 1 3 rfl rfl rfl rfl (Av (by simp:(f.blocks.map Block.fold).length=f.blocks.length) hk) (by decide)) ?_;refine AGo.ghost (.freezeCell 6 0 0 5 rfl rfl rfl rfl (Av (by simp:(List.replicate f.blocks.length (List.replicate f.regs.toNat true)).length=f.blocks.length) hk) (by decide)) ?_;refine wk 7 ?_;refine⟨[_,_],⟨⟨_,_,_,_,rfl,rfl,.ptr _ _ _ _ _ _ _ _ rfl rfl rfl,rfl⟩,⟨_,_,_,_,rfl,rfl,.ptr _ _ _ _ _ _ _ _ rfl rfl rfl,rfl⟩,trivial⟩,?_,rfl⟩;have e1:=Cf (f:=Block.cells) (z:=[.nil,.int .i64 0,.int .i64 0,.int .i64 0,.int .i64 0]) (by simp:(f.blocks.map Block.fold).length=f.blocks.length) hge;exact jr
theorem Z3(b:Blocks)(ks:List Int)(G:BFunc->Int->OPass)(I:BFunc->Prop)(hL:b.Lim)(hks:ks.length<=20)(hv: ∀k∈ks,kind35 k=true)(hI0: ∀f∈b.funcs,I f)(hS: ∀f,I f->∀k∈ks,I (G f k).f/\APure Tryz.prog 21 [.agg f.cells,.int .i64 k] (fun r=>r= .tup [.agg (G f k).f.cells,.agg (G f k).cells,.int .i64 0])):APure Tryz.prog 15 [.agg b.cells,AM ks] (fun r=>r= .tup [.agg (⟨b.words,b.funcs.map (HE G ks)⟩:Blocks).cells,NA (b.funcs.map (CF G ks)),.int .i64 0]):=by
 refine APure.of_body (n:=90) Ah Tryz.func15 rfl rfl ?_;refine LN ?_;refine ax 2 (Fx 2 0) ?_;refine ax 4 (Ew Ah 1) ?_;refine wk 10 ?_;refine asp 19 (fun hb1=>?_) fun hb1=>?_
 .
  refine wk 9 ?_;exfalso;simp_all;omega
 refine wk 10 ?_;refine A4 (γ:=Nat) 2 (fun k=>⟨90,(Aa (Aa (Aa (Aa (Aa (Aa (Aa (Aa A8 1 (AM ks)) 2 (.ptr 0 1 0 0)) 4 (.ptr 1 1 0 0)) 5 .nil) 6 (.int .i64 0)) 21 (AM ks)) 22 (.int .i64 (ks.length:Int))) 23 (.int .i64 (k:Int))),(hput (hput (Bw 2) 0 (.row false 2 [b.cells])) 1 (.row false 2 [[.int .i64 0,.nil]]))⟩) (fun k=>True) (fun k=>ks.length-k) 0 (Sub.mk' Dw Gu) trivial (fun _=>Ag (Ag (fun b hb=>AO hb) rfl) rfl) ?_;intro k _;refine wk 5 ?_;refine asp 24 (fun hb2=>?_) fun hb2=>?_
 .
  refine act ?_;have hkl:k<ks.length:=by have h:=hb2;simp at h;omega
  obtain⟨q,hq⟩:=Ae hkl;refine wk 5 ?_;refine aq 25 (JF Ah (AC hq)) ?_;refine wk 6 ?_;refine ax 29 (DX Tryz.func31 (Rc _)) ?_;refine wk 11 ?_;refine asp 33 (fun hb3=>?_) fun hb3=>?_
  .
   refine wk 9 ?_;exfalso;have h:=hv q (List.mem_of_getElem? hq);simp_all
  refine wk 3 ?_;refine aq 35 (Be rfl rfl hkl (by simp only[maxLen];omega)) ?_;refine wk 2 ?_;exact⟨k+1,Drop.mk' Mp OC,trivial,by omega⟩
 refine acf ?_
 skip
 refine wk 8 ?_;refine dx 41 (Az Ah (n:=b.funcs.length) (m:=b.funcs.length) 2 true rfl rfl rfl (by simp) (by simp) rfl rfl rfl rfl rfl (Nat.zero_lt_succ _) rfl (Nat.le_refl _) (by show 32*b.funcs.length<=_;have:=hL.n;omega) (by simp only[maxLen];have:=hL.n;omega)) ?_;refine wk 1 ?_;refine dx 11 (Ew Ah 3) ?_;refine wk 7 ?_;refine ax 46 (Az Ah (n:=b.funcs.length) (m:=b.funcs.length) 4 false rfl rfl rfl (by simp) (by simp) rfl rfl rfl rfl rfl (Nat.zero_lt_succ _) rfl (Nat.le_refl _) (by show 24*b.funcs.length<=_;have:=hL.n;omega) (by simp only[maxLen];have:=hL.n;omega)) ?_;refine wk 11 ?_;refine A4 (γ:=Nat) 5 (fun k=>⟨90,(Aa (Aa (Aa (Aa (Aa (Aa (Aa (Aa A8 1 (AM ks)) 2 (.ptr 0 1 0 0)) 4 (.ptr 1 1 0 0)) 11 (.ptr 3 1 0 0)) 12 (.ref 4 b.funcs.length 0 b.funcs.length)) 48 (Gl b.funcs)) 49 (.int .i64 (b.funcs.length:Int))) 50 (.int .i64 (k:Int))),(hput (hput (hput (hput (hput (Bw 5) 0 (.row false 2 [b.cells])) 1 (.row false 2 [[.int .i64 0,.nil]])) 2 (.row true 2 ((((b.funcs.map (HE G ks)).take (k)).map BFunc.cells)++List.replicate (b.funcs.length-(k)) [AV.int .i64 0,AV.nil]))) 3 (.row false 2 [[.int .i64 b.words,.ref 2 b.funcs.length 0 b.funcs.length]])) 4 (.row false 1 ((((b.funcs.map (CF G ks)).take (k)).map (fun x=>[BG x]))++List.replicate (b.funcs.length-(k)) [AV.nil])))⟩) (fun k=>k<=b.funcs.length) (fun k=>b.funcs.length-k) 0 (Sub.mk' Dw Gu) (Nat.zero_le _) (fun _=>Ag (Ag (Ag (Ag (Ag (fun b hb=>AO hb) rfl) rfl) rfl) rfl) rfl) ?_
 intro k hk;refine wk 5 ?_;refine asp 51 (fun hb4=>?_) fun hb4=>?_
 .
  refine act ?_;have hkl:k<b.funcs.length:=by have h:=hb4;simp at h;omega
  obtain⟨f,hf⟩:=Ae hkl;have hfI:=hI0 f (List.mem_of_getElem? hf);refine wk 6 ?_;refine aq 53 (JF Ah (AC hf)) ?_;refine wk 1 ?_;refine ax 14 (Ew Ah 5) ?_;refine wk 9 ?_;refine ax 59 (Az Ah (n:=ks.length) (m:=ks.length) 6 true rfl rfl rfl (by simp) (by simp) rfl rfl rfl rfl rfl (Nat.zero_lt_succ _) rfl (Nat.le_refl _) (by show 88*ks.length<=_;omega) (by simp only[maxLen];omega)) ?_;refine aq 60 (Ac Ah rfl rfl rfl rfl rfl rfl rfl (Av (by simp:(b.funcs.map (CF G ks)).length=b.funcs.length) (Nat.le_of_lt hkl)) rfl (Int.natCast_nonneg _) (by omega)) ?_;refine AOps.w rfl rfl (o_store Ah rfl rfl rfl rfl rfl rfl (Av (by simp:(b.funcs.map (CF G ks)).length=b.funcs.length) (Nat.le_of_lt hkl)) (fill_get (by simp:(b.funcs.map (CF G ks)).length=b.funcs.length) hkl) rfl (by decide) rfl Ee) ?_;refine wk 9 ?_;refine A4 (γ:=Nat) 7 (fun j=>⟨90,(Aa (Aa (Aa (Aa (Aa (Aa (Aa (Aa (Aa (Aa (Aa (Aa (Aa A8 1 (AM ks)) 2 (.ptr 0 1 0 0)) 4 (.ptr 1 1 0 0)) 11 (.ptr 3 1 0 0)) 12 (.ref 4 b.funcs.length 0 b.funcs.length)) 48 (Gl b.funcs)) 49 (.int .i64 (b.funcs.length:Int))) 50 (.int .i64 (k:Int))) 13 (.int .i64 (k:Int))) 14 (.ptr 5 1 0 0)) 61 (AM ks)) 62 (.int .i64 (ks.length:Int))) 63 (.int .i64 (j:Int))),(hput (hput (hput (hput (hput (hput (hput (Bw 7) 0 (.row false 2 [b.cells])) 1 (.row false 2 [[.int .i64 0,.nil]])) 2 (.row true 2 ((((b.funcs.map (HE G ks)).take (k)).map BFunc.cells)++List.replicate (b.funcs.length-(k)) [AV.int .i64 0,AV.nil]))) 3 (.row false 2 [[.int .i64 b.words,.ref 2 b.funcs.length 0 b.funcs.length]])) 4 (.row false 1 (((((b.funcs.map (CF G ks)).take (k)).map (fun x=>[BG x]))++List.replicate (b.funcs.length-(k)) [AV.nil]).set (0+((k:Nat):Int).toNat) [AV.ref 6 ks.length 0 ks.length]))) 5 (.row false 2 [(HE G (ks.take j) f).cells])) 6 (.row true 5 ((((CF G ks f).take j).map OPass.cells)++List.replicate (ks.length-j) [AV.int .i64 0,AV.nil,AV.nil,AV.int .i64 0,AV.nil])))⟩) (fun j=>j<=ks.length/\I (HE G (ks.take j) f)) (fun j=>ks.length-j) 0 (Sub.mk' Dw Gu) ⟨Nat.zero_le _,hfI⟩ (fun _=>Ag (Ag (Ag (Ag (Ag (Ag (Ag (fun b hb=>AO hb) rfl) rfl) rfl) rfl) rfl) rfl) rfl) ?_
  intro j hJ;refine wk 5 ?_;refine asp 64 (fun hb5=>?_) fun hb5=>?_
  .
   refine act ?_;have hjl:j<ks.length:=by have h:=hb5;simp at h;omega
   obtain⟨q,hq⟩:=Ae hjl;have hqs:=hS _ hJ.2 q (List.mem_of_getElem? hq);refine wk 6 ?_;refine aq 66 (JF Ah (AC hq)) ?_;refine wk 7 ?_;refine dq 71 (Ac Ah rfl rfl rfl rfl rfl rfl rfl (Fv (by simp:(b.funcs.map (CF G ks)).length=b.funcs.length) (Nat.le_of_lt hkl)) rfl (Int.natCast_nonneg _) (by omega)) ?_;refine dq 72 (AA Ah rfl rfl rfl (.ptr _ _ _ _ _ _ _ _ rfl (Fv (by simp:(b.funcs.map (CF G ks)).length=b.funcs.length) (Nat.le_of_lt hkl)) (Fw (by simp:(b.funcs.map (CF G ks)).length=b.funcs.length) hkl)) rfl) ?_;refine wk 3 ?_;refine dx 76 (DX Tryz.func21 ((hS _ hJ.2 q (List.mem_of_getElem? hq)).2)) ?_;refine wk 5 ?_;refine dq 80 (Ac Ah rfl rfl rfl rfl rfl rfl rfl (Av (DA G ks f) (Nat.le_of_lt hjl)) rfl (Int.natCast_nonneg _) (by omega)) ?_;refine DOps.w rfl rfl (o_store Ah rfl rfl rfl rfl rfl rfl (Av (DA G ks f) (Nat.le_of_lt hjl)) (fill_get (DA G ks f) hjl) rfl (by decide) rfl Ee) ?_
   refine wk 2 ?_;refine aq 81 (Be rfl rfl hjl (by simp only[maxLen];omega)) ?_;refine wk 2 ?_;exact jR
  refine acf ?_;have hge2:ks.length<=j:=by have h:=hb5;simp at h;omega
  refine wk 1 ?_;refine AGo.ghost (.freezeCell 4 (0+((k:Nat):Int).toNat) 0 6 rfl (Fw (by simp:(b.funcs.map (CF G ks)).length=b.funcs.length) hkl) rfl rfl (Av (DA G ks f) hJ.1) (by decide)) ?_;have hrow:(((((b.funcs.map (CF G ks)).take (k)).map (fun x=>[BG x]))++List.replicate (b.funcs.length-(k)) [AV.nil]).set (0+((k:Nat):Int).toNat) [AV.ref 6 ks.length 0 ks.length]).set (0+((k:Nat):Int).toNat) ([AV.ref 6 ks.length 0 ks.length].set 0 (.lst false ((((((CF G ks f).take j).map OPass.cells)++List.replicate (ks.length-j) [AV.int .i64 0,AV.nil,AV.nil,AV.int .i64 0,AV.nil]).drop 0).take ks.length)))=((((b.funcs.map (CF G ks)).take (k+1)).map (fun x=>[BG x]))++List.replicate (b.funcs.length-(k+1)) [AV.nil]):=by
   exact jo
  rw[hrow,List.take_of_length_le hge2];refine wk 5 ?_;refine aq 86 (Ac Ah rfl rfl rfl rfl rfl rfl rfl (Av (by simp:(b.funcs.map (HE G ks)).length=b.funcs.length) (Nat.le_of_lt hkl)) rfl (Int.natCast_nonneg _) (by omega)) ?_;refine AOps.w rfl rfl (o_store Ah rfl rfl rfl rfl rfl rfl (Av (by simp:(b.funcs.map (HE G ks)).length=b.funcs.length) (Nat.le_of_lt hkl)) (fill_get (by simp:(b.funcs.map (HE G ks)).length=b.funcs.length) hkl) rfl (by decide) rfl Ee) ?_;refine wk 2 ?_;refine aq 87 (Be rfl rfl hkl (by simp only[maxLen];have:=hL.n;omega)) ?_;refine wk 2 ?_;exact jP
 refine acf ?_;have hge:b.funcs.length<=k:=by have h:=hb4;simp at h;omega
 refine wk 2 ?_;refine AGo.ghost (.freezeCell 3 0 1 2 rfl rfl rfl rfl (Av (by simp:(b.funcs.map (HE G ks)).length=b.funcs.length) hk) (by decide)) ?_;rw[Cf (by simp:(b.funcs.map (HE G ks)).length=b.funcs.length) hge];have hr4:((((b.funcs.map (CF G ks)).take (k)).map (fun x=>[BG x]))++List.replicate (b.funcs.length-(k)) [AV.nil])=(b.funcs.map (CF G ks)).map (fun x=>[BG x]):=by have h:=Cf (f:=fun x=>[BG x]) (z:=[AV.nil]) (by simp:(b.funcs.map (CF G ks)).length=b.funcs.length) hge;rwa[List.drop_zero,List.take_of_length_le (by have:=Av (f:=fun x=>[BG x]) (z:=[AV.nil]) (by simp:(b.funcs.map (CF G ks)).length=b.funcs.length) hk;omega)]at h
 rw[hr4];refine AGo.ghost (.plain 4 rfl (J0 _)) ?_;refine AGo.ghost (.freezeA 12 4 rfl rfl (by simp)) ?_;refine wk 8 ?_;refine⟨[_,_,_],⟨⟨_,_,_,_,rfl,rfl,.ptr _ _ _ _ _ _ _ _ rfl rfl rfl,rfl⟩,rfl,rfl,trivial⟩,?_,rfl⟩;rfl
set_option maxRecDepth 100000
theorem PS35.passes{n w:Int}{f:BFunc}(h:PS35 n w f):Rt f (EA f):=by
 obtain⟨h1,h2,h3,h4⟩:=Dd h.one;have hl:=h.len;obtain⟨R,hR⟩: ∃R:Nat,f.regs=(R:Int):=⟨f.regs.toNat,by omega⟩
 have hR':f.regs.toNat=R:=by omega
 have hs:=one_sane h.one;have hr:=h.r;refine⟨XW f h.mild,forwardOf_ok f ⟨h1,h2,by omega,fun x hx=>by have:=hl.2 x hx;omega,fun x hx t ht=>?_,fun x hx e=>?_⟩,Yg f hs (List.length_pos_iff.2 h3) (by omega) (by omega) (fun x hx=>by have:=hl.2 x hx;omega),W0 f h.tame,rfl,rfl,rfl,rfl⟩
 . rw[hR'];have:=(h4 x hx).2 t ht;rw[hR]at this;exact fits_tacR this
 . have:=hs.fin x hx e;omega
theorem Z0(b:Blocks)(hb:All35 b)(ks:List Int)(hks:ks.length<=20)(hv: ∀k∈ks,kind35 k=true):APure Tryz.prog 15 [.agg b.cells,AM ks] (fun r=>r= .tup [.agg (Jr b ks).cells,NA (b.funcs.map (CF EA ks)),.int .i64 0]):=
 Z3 b ks EA (fun f=>∃n w,PS35 n w f) hb.lim hks hv (fun f hf=>by obtain⟨i,hi⟩:=List.getElem?_of_mem hf;exact⟨_,_,hb.e i f hi⟩) (fun f ⟨n,w,hf⟩ k hk=>⟨⟨n,w,hf.step k⟩,SD f (EA f) hf.passes k (hv k hk)⟩)
theorem Z7(k:Int):APure Tryz.prog 22 [.int .i64 k] (fun r=>r= .bool (kind35 k)):=by
 refine APure.of_body (n:=9) Ah Tryz.func22 rfl rfl ?_;refine wk 40 ?_;refine Ex 5 (fun hb1=>?_) fun hb1=>?_
 . refine wk 40 ?_;refine⟨[_],⟨rfl,trivial⟩,?_,rfl⟩;refine bc ?_;simp at hb1;simp[kind35,hb1]
 . refine wk 40 ?_;refine⟨[_],⟨rfl,trivial⟩,?_,rfl⟩;refine bc ?_;simp at hb1;unfold kind35;exact(decide_eq_false (by omega)).symm
theorem Nf(ks:List Int)(hl:ks.length<=1048576):APure Tryz.prog 16 [AM ks] (fun r=>r= .bool (ks.all kind35&&decide (ks.length<=20))):=by
 refine APure.of_body (n:=19) Ah Tryz.func16 rfl rfl ?_;refine wk 40 ?_;refine AGo.loopI (γ:=Nat) (fun i=>⟨19,Aa (Aa A8 0 (AM ks)) 3 (.int .i64 (i:Int)),hNone⟩) (fun i=>i<=ks.length/\(ks.take i).all kind35=true) (fun i=>ks.length-i) 0 (Sub.mk' Cw (HSub.none _)) ⟨Nat.zero_le _,rfl⟩ ?_
 rintro i ⟨hi,hF⟩
 refine wk 40 ?_;refine asp 7 (fun hb1=>?_) fun hb1=>?_
 .
  have hil:i<ks.length:=by have:=hb1;simp at this;exact this
  obtain⟨k,hk⟩:=Ae hil;refine wk 40 ?_;refine aq 12 (JF Ah (AC hk)) ?_;refine wk 1 ?_;refine ax 14 (DX Tryz.func22 (Z7 k)) ?_;refine wk 40 ?_;refine asp 15 (fun hb2=>?_) fun hb2=>?_
  . have hno:kind35 k=false:=by simpa using hb2
    refine wk 40 ?_;refine⟨[_],⟨rfl,trivial⟩,?_,rfl⟩;refine bc ?_;rw[show ks.all kind35=false from by rw[Bool.eq_false_iff];intro e;rw[List.all_eq_true.1 e k (List.mem_of_getElem? hk)]at hno;cases hno];rfl
  . have hyes:kind35 k=true:=by simpa using hb2
    refine wk 40 ?_;exact⟨i+1,Sub.mk' (by repeat(first | exact ESub.new _ | refine ESub.put ?_ (by first | rfl | exact congrArg (fun x=>some (AV.int .i64 x)) (Ir hil (by simp only[maxLen];omega))))) (HSub.none _),⟨hil,by rw[Bc hk,List.all_append,hF];simp[hyes]⟩,by omega⟩
 have hie:i=ks.length:=by have:=hb1;simp at this;omega
 refine wk 40 ?_;refine⟨[_],⟨rfl,trivial⟩,?_,rfl⟩;refine bc ?_;rw[hie,List.take_length]at hF;rw[hF,List.length_map]
 simp
 omega
end Go.Proofs.YtbbfelelocccmaaGreat.Sv
namespace Go.Proofs.YtbbfelelocccmaaGreat.Sv
open Go
set_option maxRecDepth 100000
set_option maxHeartbeats 2000000
def kC(k:Int):List AV:=[.int .i64 k]
theorem aL{ks:List Int}{k:Nat}{q:Int}(h:ks[k]?=some q):(ks.map kC)[0+((k:Nat):Int).toNat]?=some [.int .i64 q]:=by
 rw[Nat.zero_add];exact AC h
theorem Xt(b:Blocks)(ks:List Int)(G:BFunc->Int->OPass)(I:BFunc->Prop)(hL:b.Lim)(hks:ks.length<=20)(hv: ∀k∈ks,kind35 k=true)(hI0: ∀f∈b.funcs,I f)(hS: ∀f,I f->∀k∈ks,I (G f k).f/\APure Tryz.prog 21 [.agg f.cells,.int .i64 k] (fun r=>r= .tup [.agg (G f k).f.cells,.agg (G f k).cells,.int .i64 0])):ACall Tryz.prog 15 [.agg b.cells,.ref 0 ks.length 0 ks.length] (hput hNew 0 (.row true 1 (ks.map kC))) (fun r h'=>r= .tup [.agg (⟨b.words,b.funcs.map (HE G ks)⟩:Blocks).cells,NA (b.funcs.map (CF G ks)),.int .i64 0]/\HSub (hput hNone 0 (.row true 1 (ks.map kC))) h'):=by
 refine ACall.of_body (n:=90) Ah Tryz.func15 rfl rfl ?_;have hkc:ks.length=(ks.map kC).length:=(List.length_map _).symm;refine wk 40 ?_;refine ax 2 (Fx 2 1) ?_;refine ax 4 (Ew Ah 2) ?_;refine wk 40 ?_;refine asp 19 (fun hb1=>?_) fun hb1=>?_
 .
  refine wk 40 ?_;exfalso;clear hkc;simp_all;omega
 refine wk 40 ?_;refine A4 (γ:=Nat) 3 (fun k=>⟨90,(Aa (Aa (Aa (Aa (Aa (Aa (Aa (Aa A8 1 (.ref 0 ks.length 0 ks.length)) 2 (.ptr 1 1 0 0)) 4 (.ptr 2 1 0 0)) 5 .nil) 6 (.int .i64 0)) 21 (.ref 0 ks.length 0 ks.length)) 22 (.int .i64 (ks.length:Int))) 23 (.int .i64 (k:Int))),(hput (hput (hput (Bw 3) 0 (.row true 1 (ks.map kC))) 1 (.row false 2 [b.cells])) 2 (.row false 2 [[.int .i64 0,.nil]]))⟩) (fun k=>True) (fun k=>ks.length-k) 0 (Sub.mk' Dw Gu) trivial (fun _=>Ag (Ag (Ag (fun b hb=>AO hb) rfl) rfl) rfl) ?_;intro k _;refine wk 40 ?_;refine asp 24 (fun hb2=>?_) fun hb2=>?_
 .
  have hkl:k<ks.length:=by have h:=hb2;simp at h;omega
  obtain⟨q,hq⟩:=Ae hkl;refine wk 40 ?_;refine aq 25 (Ac Ah rfl rfl rfl rfl rfl rfl rfl hkc rfl (Int.natCast_nonneg _) (by omega)) ?_;refine aq 26 (AA Ah rfl rfl rfl (.ptr _ _ _ _ _ _ _ _ rfl hkc (aL hq)) rfl) ?_;refine wk 40 ?_;refine ax 29 (DX Tryz.func31 (Rc _)) ?_;refine wk 40 ?_;refine asp 33 (fun hb3=>?_) fun hb3=>?_
  .
   refine wk 40 ?_;exfalso;have h:=hv q (List.mem_of_getElem? hq);clear hkc;simp_all
  refine wk 3 ?_;refine aq 35 (Be rfl rfl hkl (by simp only[maxLen];omega)) ?_;refine wk 40 ?_;exact⟨k+1,Drop.mk' Mp (by repeat(first | exact HDrop.none _ _ | exact HDrop.tail _ _ | refine HDrop.put ?_ (by rfl) rfl (by first | rfl | exact CS _ _ | exact OZ _))),trivial,by omega⟩
 refine wk 40 ?_;refine dx 41 (Az Ah (n:=b.funcs.length) (m:=b.funcs.length) 3 true rfl rfl rfl (by simp) (by simp) rfl rfl rfl rfl rfl (Nat.zero_lt_succ _) rfl (Nat.le_refl _) (by show 32*b.funcs.length<=_;have:=hL.n;omega) (by simp only[maxLen];have:=hL.n;omega)) ?_;refine wk 1 ?_;refine dx 11 (Ew Ah 4) ?_;refine wk 40 ?_;refine ax 46 (Az Ah (n:=b.funcs.length) (m:=b.funcs.length) 5 false rfl rfl rfl (by simp) (by simp) rfl rfl rfl rfl rfl (Nat.zero_lt_succ _) rfl (Nat.le_refl _) (by show 24*b.funcs.length<=_;have:=hL.n;omega) (by simp only[maxLen];have:=hL.n;omega)) ?_;refine wk 40 ?_;refine A4 (γ:=Nat) 6 (fun k=>⟨90,(Aa (Aa (Aa (Aa (Aa (Aa (Aa (Aa A8 1 (.ref 0 ks.length 0 ks.length)) 2 (.ptr 1 1 0 0)) 4 (.ptr 2 1 0 0)) 11 (.ptr 4 1 0 0)) 12 (.ref 5 b.funcs.length 0 b.funcs.length)) 48 (Gl b.funcs)) 49 (.int .i64 (b.funcs.length:Int))) 50 (.int .i64 (k:Int))),(hput (hput (hput (hput (hput (hput (Bw 6) 0 (.row true 1 (ks.map kC))) 1 (.row false 2 [b.cells])) 2 (.row false 2 [[.int .i64 0,.nil]])) 3 (.row true 2 ((((b.funcs.map (HE G ks)).take (k)).map BFunc.cells)++List.replicate (b.funcs.length-(k)) [AV.int .i64 0,AV.nil]))) 4 (.row false 2 [[.int .i64 b.words,.ref 3 b.funcs.length 0 b.funcs.length]])) 5 (.row false 1 ((((b.funcs.map (CF G ks)).take (k)).map (fun x=>[BG x]))++List.replicate (b.funcs.length-(k)) [AV.nil])))⟩) (fun k=>k<=b.funcs.length) (fun k=>b.funcs.length-k) 0 (Sub.mk' Dw Gu) (Nat.zero_le _) (fun _=>Ag (Ag (Ag (Ag (Ag (Ag (fun b hb=>AO hb) rfl) rfl) rfl) rfl) rfl) rfl) ?_
 intro k hk;refine wk 40 ?_;refine asp 51 (fun hb4=>?_) fun hb4=>?_
 .
  have hkl:k<b.funcs.length:=by have h:=hb4;simp at h;omega
  obtain⟨f,hf⟩:=Ae hkl;have hfI:=hI0 f (List.mem_of_getElem? hf);refine wk 40 ?_;refine aq 53 (JF Ah (AC hf)) ?_;refine wk 1 ?_;refine ax 14 (Ew Ah 6) ?_;refine wk 40 ?_;refine ax 59 (Az Ah (n:=ks.length) (m:=ks.length) 7 true rfl rfl rfl (by simp) (by simp) rfl rfl rfl rfl rfl (Nat.zero_lt_succ _) rfl (Nat.le_refl _) (by show 88*ks.length<=_;omega) (by simp only[maxLen];omega)) ?_;refine aq 60 (Ac Ah rfl rfl rfl rfl rfl rfl rfl (Av (by simp:(b.funcs.map (CF G ks)).length=b.funcs.length) (Nat.le_of_lt hkl)) rfl (Int.natCast_nonneg _) (by omega)) ?_;refine AOps.w rfl rfl (o_store Ah rfl rfl rfl rfl rfl rfl (Av (by simp:(b.funcs.map (CF G ks)).length=b.funcs.length) (Nat.le_of_lt hkl)) (fill_get (by simp:(b.funcs.map (CF G ks)).length=b.funcs.length) hkl) rfl (by decide) rfl Ee) ?_;refine wk 40 ?_;refine A4 (γ:=Nat) 8 (fun j=>⟨90,(Aa (Aa (Aa (Aa (Aa (Aa (Aa (Aa (Aa (Aa (Aa (Aa (Aa A8 1 (.ref 0 ks.length 0 ks.length)) 2 (.ptr 1 1 0 0)) 4 (.ptr 2 1 0 0)) 11 (.ptr 4 1 0 0)) 12 (.ref 5 b.funcs.length 0 b.funcs.length)) 48 (Gl b.funcs)) 49 (.int .i64 (b.funcs.length:Int))) 50 (.int .i64 (k:Int))) 13 (.int .i64 (k:Int))) 14 (.ptr 6 1 0 0)) 61 (.ref 0 ks.length 0 ks.length)) 62 (.int .i64 (ks.length:Int))) 63 (.int .i64 (j:Int))),(hput (hput (hput (hput (hput (hput (hput (hput (Bw 8) 0 (.row true 1 (ks.map kC))) 1 (.row false 2 [b.cells])) 2 (.row false 2 [[.int .i64 0,.nil]])) 3 (.row true 2 ((((b.funcs.map (HE G ks)).take (k)).map BFunc.cells)++List.replicate (b.funcs.length-(k)) [AV.int .i64 0,AV.nil]))) 4 (.row false 2 [[.int .i64 b.words,.ref 3 b.funcs.length 0 b.funcs.length]])) 5 (.row false 1 (((((b.funcs.map (CF G ks)).take (k)).map (fun x=>[BG x]))++List.replicate (b.funcs.length-(k)) [AV.nil]).set (0+((k:Nat):Int).toNat) [AV.ref 7 ks.length 0 ks.length]))) 6 (.row false 2 [(HE G (ks.take j) f).cells])) 7 (.row true 5 ((((CF G ks f).take j).map OPass.cells)++List.replicate (ks.length-j) [AV.int .i64 0,AV.nil,AV.nil,AV.int .i64 0,AV.nil])))⟩) (fun j=>j<=ks.length/\I (HE G (ks.take j) f)) (fun j=>ks.length-j) 0 (Sub.mk' Dw Gu) ⟨Nat.zero_le _,hfI⟩ (fun _=>Ag (Ag (Ag (Ag (Ag (Ag (Ag (Ag (fun b hb=>AO hb) rfl) rfl) rfl) rfl) rfl) rfl) rfl) rfl) ?_
  intro j hJ;refine wk 40 ?_;refine asp 64 (fun hb5=>?_) fun hb5=>?_
  .
   have hjl:j<ks.length:=by have h:=hb5;simp at h;omega
   obtain⟨q,hq⟩:=Ae hjl;have hqs:=hS _ hJ.2 q (List.mem_of_getElem? hq);refine wk 40 ?_;refine aq 66 (Ac Ah rfl rfl rfl rfl rfl rfl rfl hkc rfl (Int.natCast_nonneg _) (by omega)) ?_;refine aq 67 (AA Ah rfl rfl rfl (.ptr _ _ _ _ _ _ _ _ rfl hkc (aL hq)) rfl) ?_;refine wk 40 ?_;refine dq 71 (Ac Ah rfl rfl rfl rfl rfl rfl rfl (Fv (by simp:(b.funcs.map (CF G ks)).length=b.funcs.length) (Nat.le_of_lt hkl)) rfl (Int.natCast_nonneg _) (by omega)) ?_;refine dq 72 (AA Ah rfl rfl rfl (.ptr _ _ _ _ _ _ _ _ rfl (Fv (by simp:(b.funcs.map (CF G ks)).length=b.funcs.length) (Nat.le_of_lt hkl)) (Fw (by simp:(b.funcs.map (CF G ks)).length=b.funcs.length) hkl)) rfl) ?_;refine wk 40 ?_;refine DOps.x 76 rfl rfl rfl (DX Tryz.func21 hqs.2) ?_;refine wk 40 ?_;refine dq 80 (Ac Ah rfl rfl rfl rfl rfl rfl rfl (Av (DA G ks f) (Nat.le_of_lt hjl)) rfl (Int.natCast_nonneg _) (by omega)) ?_;refine DOps.w rfl rfl (o_store Ah rfl rfl rfl rfl rfl rfl (Av (DA G ks f) (Nat.le_of_lt hjl)) (fill_get (DA G ks f) hjl) rfl (by decide) rfl Ee) ?_;refine wk 2 ?_;refine aq 81 (Be rfl rfl hjl (by simp only[maxLen];omega)) ?_;refine wk 40 ?_;exact jR
  have hge2:ks.length<=j:=by have h:=hb5;simp at h;omega
  refine wk 2 ?_;refine AGo.ghost (.freezeCell 5 (0+((k:Nat):Int).toNat) 0 7 rfl (Fw (by simp:(b.funcs.map (CF G ks)).length=b.funcs.length) hkl) rfl rfl (Av (DA G ks f) hJ.1) (by decide)) ?_;have hrow:(((((b.funcs.map (CF G ks)).take (k)).map (fun x=>[BG x]))++List.replicate (b.funcs.length-(k)) [AV.nil]).set (0+((k:Nat):Int).toNat) [AV.ref 7 ks.length 0 ks.length]).set (0+((k:Nat):Int).toNat) ([AV.ref 7 ks.length 0 ks.length].set 0 (.lst false (((((((CF G ks f).take j).map OPass.cells)++List.replicate (ks.length-j) [AV.int .i64 0,AV.nil,AV.nil,AV.int .i64 0,AV.nil]).drop 0).take ks.length))))=((((b.funcs.map (CF G ks)).take (k+1)).map (fun x=>[BG x]))++List.replicate (b.funcs.length-(k+1)) [AV.nil]):=by
   exact jo
  rw[hrow,List.take_of_length_le hge2];refine wk 5 ?_;refine aq 86 (Ac Ah rfl rfl rfl rfl rfl rfl rfl (Av (by simp:(b.funcs.map (HE G ks)).length=b.funcs.length) (Nat.le_of_lt hkl)) rfl (Int.natCast_nonneg _) (by omega)) ?_;refine AOps.w rfl rfl (o_store Ah rfl rfl rfl rfl rfl rfl (Av (by simp:(b.funcs.map (HE G ks)).length=b.funcs.length) (Nat.le_of_lt hkl)) (fill_get (by simp:(b.funcs.map (HE G ks)).length=b.funcs.length) hkl) rfl (by decide) rfl Ee) ?_;refine wk 2 ?_;refine aq 87 (Be rfl rfl hkl (by simp only[maxLen];have:=hL.n;omega)) ?_;refine wk 40 ?_;exact jP
 have hge:b.funcs.length<=k:=by have h:=hb4;simp at h;omega
 refine wk 2 ?_;refine AGo.ghost (.freezeCell 4 0 1 3 rfl rfl rfl rfl (Av (by simp:(b.funcs.map (HE G ks)).length=b.funcs.length) hk) (by decide)) ?_;rw[Cf (by simp:(b.funcs.map (HE G ks)).length=b.funcs.length) hge];have hr4:((((b.funcs.map (CF G ks)).take (k)).map (fun x=>[BG x]))++List.replicate (b.funcs.length-(k)) [AV.nil])=(b.funcs.map (CF G ks)).map (fun x=>[BG x]):=by have h:=Cf (f:=fun x=>[BG x]) (z:=[AV.nil]) (by simp:(b.funcs.map (CF G ks)).length=b.funcs.length) hge;rwa[List.drop_zero,List.take_of_length_le (by have:=Av (f:=fun x=>[BG x]) (z:=[AV.nil]) (by simp:(b.funcs.map (CF G ks)).length=b.funcs.length) hk;omega)]at h
 rw[hr4];refine AGo.ghost (.plain 5 rfl (J0 _)) ?_;refine AGo.ghost (.freezeA 12 5 rfl rfl (by simp)) ?_;refine wk 40 ?_;refine⟨[_,_,_],⟨⟨_,_,_,_,rfl,rfl,.ptr _ _ _ _ _ _ _ _ rfl rfl rfl,rfl⟩,rfl,rfl,trivial⟩,⟨rfl,HSub.put (HSub.none _) (by rfl)⟩⟩
end Go.Proofs.YtbbfelelocccmaaGreat.Sv
namespace Go.Proofs.YtbbfelelocccmaaGreat.Sv
open Go
theorem OI(x y:Block)(hx:x.ins.length<=1000000000000000):APure Tryz.prog 36 [.agg x.cells,.agg y.cells] (fun r=>r= .bool (decide (x=y))):=by
 refine APure.of_body (n:=59) Ah Tryz.func36 rfl rfl ?_;refine LN ?_;refine ax 2 (Fx 5 0) ?_;refine ax 3 (Fx 5 1) ?_;refine wk 11 ?_;refine Ex 11 (fun hb1=>?_) fun hb1=>?_
 .
  refine wk 35 ?_;exact Qb
 refine wk 7 ?_;refine Ex 18 (fun hb2=>?_) fun hb2=>?_
 .
  refine wk 28 ?_;exact Qb
 refine wk 7 ?_;refine Ex 25 (fun hb3=>?_) fun hb3=>?_
 .
  refine wk 21 ?_;exact Qb
 refine wk 7 ?_;refine Ex 32 (fun hb4=>?_) fun hb4=>?_
 .
  refine wk 14 ?_;exact Qb
 refine wk 9 ?_;refine asp 40 (fun hb5=>?_) fun hb5=>?_
 .
  refine wk 5 ?_;exact Qb
 refine acf ?_;have h0:x.fin=y.fin/\x.v=y.v/\x.to=y.to/\x.els=y.els/\x.ins.length=y.ins.length:=by simp_all<;>omega
 refine wk 7 ?_;refine A4 (γ:=Nat) 2 (fun i=>⟨59,(Aa (Aa (Aa A8 2 (.ptr 0 1 0 0)) 3 (.ptr 1 1 0 0)) 5 (.int .i64 (i:Int))),(hput (hput (Bw 2) 0 (.row false 5 [x.cells])) 1 (.row false 5 [y.cells]))⟩) (fun i=>x.ins.take i=y.ins.take i) (fun i=>x.ins.length-i) 0 (Sub.mk' Dw Gu) rfl (fun _=>Ag (Ag (fun b hb=>AO hb) rfl) rfl) ?_;intro i ht;refine wk 9 ?_;refine asp 45 (fun hb6=>?_) fun hb6=>?_
 .
  refine act ?_;have hil:i<x.ins.length:=by simpa using hb6
  obtain⟨u,hu⟩:=Ae hil;obtain⟨v,hv⟩:=Ae (l:=y.ins) (k:=i) (by omega);refine wk 8 ?_;refine dq 51 (At Ah rfl rfl rfl rfl rfl rfl (Int.natCast_nonneg _) (AC (by assumption)) rfl) ?_;refine wk 4 ?_;refine dq 56 (At Ah rfl rfl rfl rfl rfl rfl (Int.natCast_nonneg _) (AC (by assumption)) rfl) ?_;refine wk 1 ?_;refine dq 58 (Hb Ah true rfl rfl rfl (by kernel_rfl) rfl rfl rfl rfl (Tac.eqCells u v)) ?_;refine wk 1 ?_;refine asp 58 (fun hb7=>?_) fun hb7=>?_
  .
   refine act ?_;have huv:u≠v:=by simpa using hb7
   refine wk 4 ?_;refine Ge ⟨[_],⟨rfl,trivial⟩,?_,rfl⟩;show AV.bool false=_;rw[decide_eq_false (by rintro rfl;rw[hu]at hv;cases hv;exact huv rfl)]
  refine acf ?_;have huv:u=v:=by simpa using hb7
  refine wk 3 ?_;refine aq 47 (Be rfl rfl hil (by simp only[maxLen];omega)) ?_;refine wk 2 ?_;exact⟨i+1,Drop.mk' Mp OC,(by rw[Bc hu,Bc hv,ht,huv]),by omega⟩
 refine acf ?_;have hge:x.ins.length<=i:=by simpa using hb6
 refine wk 5 ?_;refine Ge ⟨[_],⟨rfl,trivial⟩,?_,rfl⟩;show AV.bool true=_;rw[decide_eq_true (Vf h0.1 h0.2.1 h0.2.2.1 h0.2.2.2.1 (MD ht hge (h0.2.2.2.2▸hge)))]
theorem QA(f g:BFunc)(hf:f.blocks.length<=1000000000000000/\∀x∈f.blocks,x.ins.length<=1000000000000000):APure Tryz.prog 23 [.agg f.cells,.agg g.cells] (fun r=>r= .bool (decide (f=g))):=by
 refine APure.of_body (n:=39) Ah Tryz.func23 rfl rfl ?_;refine LN ?_;refine ax 2 (Fx 2 0) ?_;refine ax 3 (Fx 2 1) ?_;refine wk 11 ?_;refine Ex 11 (fun hb1=>?_) fun hb1=>?_
 .
  refine wk 14 ?_;exact Qb
 refine wk 9 ?_;refine asp 19 (fun hb2=>?_) fun hb2=>?_
 .
  refine wk 5 ?_;exact Qb
 refine acf ?_;have h0:f.regs=g.regs/\f.blocks.length=g.blocks.length:=by simp_all<;>omega
 refine wk 7 ?_;refine A4 (γ:=Nat) 2 (fun i=>⟨39,(Aa (Aa (Aa A8 2 (.ptr 0 1 0 0)) 3 (.ptr 1 1 0 0)) 5 (.int .i64 (i:Int))),(hput (hput (Bw 2) 0 (.row false 2 [f.cells])) 1 (.row false 2 [g.cells]))⟩) (fun i=>f.blocks.take i=g.blocks.take i) (fun i=>f.blocks.length-i) 0 (Sub.mk' Dw Gu) rfl (fun _=>Ag (Ag (fun b hb=>AO hb) rfl) rfl) ?_;intro i ht;refine wk 9 ?_;refine asp 24 (fun hb3=>?_) fun hb3=>?_
 .
  refine act ?_;have hil:i<f.blocks.length:=by simpa using hb3
  obtain⟨x,hx⟩:=Ae hil;obtain⟨y,hy⟩:=Ae (l:=g.blocks) (k:=i) (by omega);have hil2:=hf.1;refine wk 8 ?_;refine dq 30 (JF Ah (AC hx)) ?_;refine wk 4 ?_;refine dq 35 (JF Ah (AC hy)) ?_;refine wk 1 ?_;refine dx 37 (DX Tryz.func36 (OI x y (hf.2 x (List.mem_of_getElem? hx)))) ?_;refine dq 38 (M5 rfl rfl) ?_;refine wk 1 ?_;refine asp 38 (fun hb4=>?_) fun hb4=>?_
  .
   refine act ?_;have hxy:x≠y:=by simpa using hb4
   refine wk 4 ?_;refine Ge ⟨[_],⟨rfl,trivial⟩,?_,rfl⟩;show AV.bool false=_;rw[decide_eq_false (by rintro rfl;rw[hx]at hy;cases hy;exact hxy rfl)]
  refine acf ?_;have hxy:x=y:=by simpa using hb4
  refine wk 3 ?_;refine aq 26 (Be rfl rfl hil (by simp only[maxLen];omega)) ?_;refine wk 2 ?_;exact⟨i+1,Drop.mk' Mp OC,(by rw[Bc hx,Bc hy,ht,hxy]),by omega⟩
 refine acf ?_;have hge:f.blocks.length<=i:=by simpa using hb3
 refine wk 5 ?_;refine Ge ⟨[_],⟨rfl,trivial⟩,?_,rfl⟩;show AV.bool true=_;rw[decide_eq_true (BFunc.ext' h0.1 (MD ht hge (h0.2▸hge)))]
theorem Zj(a b:Blocks)(hl0:a.funcs.length<=1000000000000000)(hl1: ∀f∈a.funcs,f.blocks.length<=1000000000000000/\∀x∈f.blocks,x.ins.length<=1000000000000000):APure Tryz.prog 25 [.agg a.cells,.agg b.cells] (fun r=>r= .bool (decide (a=b))):=by
 refine APure.of_body (n:=39) Ah Tryz.func25 rfl rfl ?_;refine LN ?_;refine ax 2 (Fx 2 0) ?_;refine ax 3 (Fx 2 1) ?_;refine wk 11 ?_;refine Ex 11 (fun hb1=>?_) fun hb1=>?_
 .
  refine wk 14 ?_;exact Qb
 refine wk 9 ?_;refine asp 19 (fun hb2=>?_) fun hb2=>?_
 .
  refine wk 5 ?_;exact Qb
 refine acf ?_;have h0:a.words=b.words/\a.funcs.length=b.funcs.length:=by simp_all<;>omega
 refine wk 7 ?_;refine A4 (γ:=Nat) 2 (fun i=>⟨39,(Aa (Aa (Aa A8 2 (.ptr 0 1 0 0)) 3 (.ptr 1 1 0 0)) 5 (.int .i64 (i:Int))),(hput (hput (Bw 2) 0 (.row false 2 [a.cells])) 1 (.row false 2 [b.cells]))⟩) (fun i=>a.funcs.take i=b.funcs.take i) (fun i=>a.funcs.length-i) 0 (Sub.mk' Dw Gu) rfl (fun _=>Ag (Ag (fun b hb=>AO hb) rfl) rfl) ?_;intro i ht;refine wk 9 ?_;refine asp 24 (fun hb3=>?_) fun hb3=>?_
 .
  refine act ?_;have hil:i<a.funcs.length:=by simpa using hb3
  obtain⟨f,hf⟩:=Ae hil;obtain⟨g,hg⟩:=Ae (l:=b.funcs) (k:=i) (by omega);refine wk 8 ?_;refine dq 30 (JF Ah (AC hf)) ?_;refine wk 4 ?_;refine dq 35 (JF Ah (AC hg)) ?_;refine wk 1 ?_;refine dx 37 (DX Tryz.func23 (QA f g ⟨by have:=(hl1 f (List.mem_of_getElem? hf)).1;omega,fun x hx=>by have:=(hl1 f (List.mem_of_getElem? hf)).2 x hx;omega⟩)) ?_;refine dq 38 (M5 rfl rfl) ?_;refine wk 1 ?_;refine asp 38 (fun hb4=>?_) fun hb4=>?_
  .
   refine act ?_;have hxy:f≠g:=by simpa using hb4
   refine wk 4 ?_;refine Ge ⟨[_],⟨rfl,trivial⟩,?_,rfl⟩;show AV.bool false=_;rw[decide_eq_false (by rintro rfl;rw[hf]at hg;cases hg;exact hxy rfl)]
  refine acf ?_;have hxy:f=g:=by simpa using hb4
  refine wk 3 ?_;refine aq 26 (Be rfl rfl hil (by simp only[maxLen];omega)) ?_;refine wk 2 ?_;exact⟨i+1,Drop.mk' Mp OC,(by rw[Bc hf,Bc hg,ht,hxy]),by omega⟩
 refine acf ?_;have hge:a.funcs.length<=i:=by simpa using hb3
 refine wk 5 ?_;refine Ge ⟨[_],⟨rfl,trivial⟩,?_,rfl⟩;show AV.bool true=_;rw[decide_eq_true (Blocks.ext' h0.1 (MD ht hge (h0.2▸hge)))]
theorem cX:APure Tryz.prog 30 [] (fun r=>r= .agg (Vs tinyA).cells):=
 Dm (ct:=dT) (fz:=XP) (lg:=[]) Ah Pr (by kernel_rfl) 1000 (by kernel_rfl) (EJ _)
theorem Qp:Fm Tryz.prog HL:=EK cX (EJ _)
theorem bZ(ho:APure Tryz.prog 15 T7 (fun r=>r=Vr))(hv:Fm Tryz.prog gO):APure Tryz.prog 14 [] (fun r=>r= .bool true):=
 Dm (ct:=qN) (fz:=XP) (lg:=HL++(gO++(HL++(HL++((15,T7,Vr)::HL))))) Ah Pr (by kernel_rfl) 1000 (by kernel_rfl)
  (IL Qp (IL hv (IL Qp (IL Qp (EK ho Qp)))))
theorem T6:APure Tryz.prog 97 [.agg tinyBl.cells,.int .i64 3] (fun r=>r=Qn):=by
 have hT: ∀t∈tinyBl.ins,t.inR (3:Int):=fun t ht=>by
  simp only[tinyBl,List.mem_cons,List.not_mem_nil,or_false]at ht;rcases ht with rfl | rfl<;>exact⟨by decide,by decide⟩
 have h:=RV tinyBl 3 (by decide) (by decide) hT (fun h=>absurd h (by decide));have e:AV.tup [.lst false (Bk 3 (I8 tinyBl)),.lst false (Bk 3 (fun v=>CD v tinyBl.ins))]=Qn:=by rfl
 rw[e]at h;exact OT rfl h
theorem cY:APure Tryz.prog 15 T7 (fun r=>r=Vr):=
 Dm (ct:=qj) (fz:=XP) (lg:=[(97,[.agg tinyBl.cells,.int .i64 3],Qn)]) Ah Pr (by kernel_rfl) 1000 (by kernel_rfl) (EK T6 (EJ _))
theorem cU:Fm Tryz.prog gO:=
 EK (Dm (ct:=dT) (fz:=XP) (lg:=[]) Ah Pr (by kernel_rfl) 1000 (by kernel_rfl) (EJ _))<|
 EK (Dm (ct:=dT) (fz:=XP) (lg:=[]) Ah Pr (by kernel_rfl) 1000 (by kernel_rfl) (EJ _))<|
 EK (Dm (ct:=dT) (fz:=XP) (lg:=[]) Ah Pr (by kernel_rfl) 1000 (by kernel_rfl) (EJ _)) (EJ _)
set_option maxRecDepth 100000
theorem Wh(G:BFunc->Int->OPass): ∀(x y:List Int) (f:BFunc),HE G (x++y) f=HE G y (HE G x f)
 | [],y,f=>rfl
 | k::x,y,f=>Wh G x y (G f k).f
theorem Z2(b:Blocks)(x y:List Int):Jr (Jr b x) y=Jr b (x++y):=by
 unfold Jr;congr 1;rw[List.map_map];exact List.map_congr_left fun f _=>(Wh EA x y f).symm
theorem Uz(b:Blocks)(hb:All35 b)(x y:List Int)(hx:x.length<=4)(hy:y.length<=4)(hv: ∀k∈x,kind35 k=true)(hw: ∀k∈y,kind35 k=true):ACall Tryz.prog 15 [.agg b.cells,.ref 0 (0+x.length+y.length) 0 (0+x.length+y.length)] (hput hNew 0 (.row true 1 (([]++x.map kC)++y.map kC))) (fun r h'=>r= .tup [.agg (Jr b (x++y)).cells,NA (b.funcs.map (CF EA (x++y))),.int .i64 0]/\HSub (hput hNone 0 (.row true 1 (([]++x.map kC)++y.map kC))) h'):=by
 have h:=Xt b (x++y) EA (fun f=>∃n w,PS35 n w f) hb.lim (by rw[List.length_append];omega) (fun k hk=>(List.mem_append.1 hk).elim (hv k) (hw k)) (fun f hf=>by obtain⟨i,hi⟩:=List.getElem?_of_mem hf;exact⟨_,_,hb.e i f hi⟩) (fun f ⟨n,w,hf⟩ k hk=>⟨⟨n,w,hf.step k⟩,SD f (EA f) hf.passes k ((List.mem_append.1 hk).elim (hv k) (hw k))⟩);have e:(x++y).map kC=([]++x.map kC)++y.map kC:=by simp
 have e2:(x++y).length=0+x.length+y.length:=by simp
 rw[e,e2]at h;exact h
theorem optimizeSplits_ok(b:Blocks)(x y:List Int)(hL:b.Lim)(hW:b.insW)(hxl:x.length<=1048576)(hyl:y.length<=1048576):APure Tryz.prog 9 [.agg b.cells,AM x,AM y] (fun r=>r= .bool true):=by
 have hawake:=bZ cY cU;refine APure.of_body (n:=83) Ah Tryz.func9 rfl rfl ?_;refine wk 40 ?_;refine ax 3 (Fx 2 1) ?_;refine wk 40 ?_;refine ax 17 (DX Tryz.func13 (Ud b hL)) ?_;refine wk 2 ?_;refine Ex 19 (fun hb1=>?_) fun hb1=>?_
 . refine wk 40 ?_;exact YH
 have hsm:Gg b=true:=by simpa using hb1
 refine wk 5 ?_;refine Ex 24 (fun hb2=>?_) fun hb2=>?_
 . refine wk 40 ?_;exact YH
 have hx4:x.length<=4:=by have:=hb2;simp[AM]at this;omega
 refine wk 5 ?_;refine Ex 29 (fun hb3=>?_) fun hb3=>?_
 . refine wk 40 ?_;exact YH
 have hy4:y.length<=4:=by have:=hb3;simp[AM]at this;omega
 refine wk 1 ?_;refine ax 31 (DX Tryz.func16 (Nf x hxl)) ?_;refine wk 3 ?_;refine Ex 34 (fun hb4=>?_) fun hb4=>?_
 . refine wk 40 ?_;exact YH
 have hpx:x.all kind35=true:=by have:=hb4;simp at this;exact List.all_eq_true.2 this.1
 refine wk 1 ?_;refine ax 36 (DX Tryz.func16 (Nf y hyl)) ?_;refine wk 40 ?_;refine asp 38 (fun hb5=>?_) fun hb5=>?_
 . refine wk 40 ?_;exact YH
 have hpy:y.all kind35=true:=by have:=hb5;simp at this;exact List.all_eq_true.2 this.1
 have hall:=All35.of hsm hW;have hopt:=hall.opt x;have hd:=(hopt.opt y).lim;have hvx:=List.all_eq_true.1 hpx;have hvy:=List.all_eq_true.1 hpy;refine wk 40 ?_;refine ax 43 (DX Tryz.func15 (Z0 b hall x (by omega) hvx)) ?_;refine wk 40 ?_;refine ax 7 (Ew Ah 2) ?_;refine wk 40 ?_;refine ax 50 (DX Tryz.func15 (Z0 (Jr b x) hopt y (by omega) hvy)) ?_;refine wk 40 ?_;refine ax 10 (Ew Ah 3) ?_;refine wk 40 ?_;refine dx 56 (o_litRow Ah 0 true rfl rfl rfl rfl rfl rfl (by decide) rfl rfl rfl rfl Ee rfl rfl) ?_;refine wk 1 ?_;refine dx 58 (o_append Ah (n:=0) (m:=x.length) (es:=[]) (es2:=x.map kC) rfl rfl rfl rfl rfl rfl rfl rfl rfl rfl rfl rfl (Nat.zero_lt_succ _) (.lst _ _) (fun cs h=>by obtain⟨k,_,rfl⟩:=List.mem_map.1 h;rfl) (fun _ cs h=>by obtain⟨k,_,rfl⟩:=List.mem_map.1 h;rfl) (by rw[List.length_map]) (by rw[List.length_map];show(0+_)*8<=_;omega) (by rw[List.length_map];simp only[List.length_nil,maxLen];omega)) ?_
 refine wk 1 ?_;refine dx 60 (o_append Ah (n:=0+x.length) (m:=y.length) (es:=[]++x.map kC) (es2:=y.map kC) rfl rfl rfl rfl rfl rfl rfl rfl rfl (by simp) rfl rfl (Nat.zero_lt_succ _) (.lst _ _) (fun cs h=>by obtain⟨k,_,rfl⟩:=List.mem_map.1 h;rfl) (fun _ cs h=>by obtain⟨k,_,rfl⟩:=List.mem_map.1 h;rfl) (by rw[List.length_map]) (by rw[List.length_map,List.nil_append,List.length_map];show(_+_)*8<=_;omega) (by rw[List.length_map,List.nil_append,List.length_map];simp only[maxLen];omega)) ?_;refine dx 61 (KV (q:=AObj.row true 1 (([]++x.map kC)++y.map kC)) 0 rfl Tryz.func15 (by kernel_rfl) rfl rfl (by simp only[List.all_cons,List.all_nil,Bool.and_true];exact Og rfl rfl) rfl rfl rfl (Uz b hall x y hx4 hy4 hvx hvy)) ?_;refine wk 4 ?_;refine dx 13 (Ew Ah 4) ?_;refine wk 40 ?_;refine ax 65 (DX Tryz.func14 hawake) ?_;refine wk 40 ?_;refine ax 81 (DX Tryz.func25 ((Zj (Jr (Jr b x) y) (Jr b (x++y)) hd.big0 hd.big1).mono (fun r h=>by rw[h,decide_eq_true (Z2 b x y)]))) ?_
 refine wk 40 ?_;exact⟨[_],⟨rfl,trivial⟩,rfl,rfl⟩
theorem Jq(b:Blocks)(x y:List Int)(hb:b.Lim/\b.insW)(hx:x.length<=1048576)(hy:y.length<=1048576):APure Tryz.prog 9 [.agg b.cells,AM x,AM y] (fun r=>r= .bool true):=optimizeSplits_ok b x y hb.1 hb.2 hx hy
end Go.Proofs.YtbbfelelocccmaaGreat.Sv
namespace Go.Proofs.YtbbfelelocccmaaGreat
open Go.ChangeShapes Go.WideShapes Go.ChangeAt Go.RowKit Sv
set_option linter.unusedVariables false

set_option maxRecDepth 100000 in
theorem optimizeSplits_lifted(os:Os)(started:os.Started)(H:Type)(enc:TypeId×Value->H)(F:Stop.Interp):
 ReturnsInHanded {} Tryz.checked os 9 .any ((Rows.OpenSpec.upto Rows.optimizeSplitsSpec).pre6 enc Tryz.prog Tryz.f9 Rows.optimizeSplitsUptoRow.domain false) (((Rows.OpenSpec.upto Rows.optimizeSplitsSpec).at F).post enc Tryz.prog Tryz.f9 false true false false):=by
 refine returnsInHanded_of_cond_sized (C:=Tryz.checked) (s:=Rows.OpenSpec.upto Rows.optimizeSplitsSpec) (k:=Rows.uptoSmall) rfl own' started (by kernel_rfl) Tryz.func9
  (OpenSpec.witness (enc:=enc) (C:=Tryz.checked) (s:=Rows.OpenSpec.upto Rows.optimizeSplitsSpec) (k:=Rows.uptoSmall) rfl false ⟨#[],#[.agg #[.int .i64 0,.slice none 0 0],.slice none 0 0,.slice none 0 0],[]⟩ 8 (by kernel_rfl) (by kernel_rfl) (by kernel_rfl) (x:=([.agg [.lit (.int .i64 0),.nil],.nil,.nil],[],[])) (by kernel_rfl) rfl (by kernel_rfl)) ?_
 intro W base args ds gs before hval0 hW hcnd hk hwt0 hh;have hval: ∀(j:Nat) t v,Tryz.f9.params[j]?=some t->args[j]?=some v->Value.okWide Tryz.prog W .any base t v:=hval0
 have hW':=hW;obtain⟨p,q,hA0,hV,rfl,hfz,hnd⟩:=hW;have hA:DataW.TrodAll enc Tryz.prog W 0 (fun _=>true) true Tryz.f9.params.toList args.toList ds p:=hA0;have hwt:(DataW.weightsEach Tryz.prog (Tryz.f9.params.toList++(Rows.OpenSpec.upto Rows.optimizeSplitsSpec).bare.plain.varTypes Tryz.prog) (ds++gs)).all (· <=reachBytes)=true:=hwt0;rw[Tryz.params9]at hA hval hwt;obtain⟨v0,vs0,d0,ds0,p0,q0,hargs,rfl,rfl,h0,r0⟩:=trodAll_cons hA;obtain⟨v1,vs1,d1,ds1,p1,q1,rfl,rfl,rfl,h1,r1⟩:=trodAll_cons r0;obtain⟨v2,vs2,d2,ds2,p2,q2,rfl,rfl,rfl,h2,r2⟩:=trodAll_cons r1;obtain⟨rfl,rfl,rfl⟩:=trodAll_nil r2;obtain rfl:args= #[v0,v1,v2]:=by cases args;simp_all
 obtain⟨rfl,rfl⟩:=trodVars_none hV;obtain⟨x0,e0,g0⟩:=arg_oneR h0 (weightsEach_get hwt (i:=0) rfl rfl) decBlocksR;have u0:=upto_get hk (i:=0) rfl;obtain⟨x1,e1,g1⟩:=arg_oneR h1 (weightsEach_get hwt (i:=1) rfl rfl) decIntsR;have u1:=upto_get hk (i:=1) rfl;obtain⟨x2,e2,g2⟩:=arg_oneR h2 (weightsEach_get hwt (i:=2) rfl rfl) decIntsR;have u2:=upto_get hk (i:=2) rfl;exact XI laidOut' rfl (by kernel_rfl) rfl bool' rfl rfl rfl hW' (.cons (e0.val (UB Ah rfl rfl (hval 0 24 v0 rfl rfl))) (.cons (e1.val1 (okWide_cell Ah rfl rfl (hval 1 _ v1 rfl rfl))) (.cons (e2.val1 (okWide_cell Ah rfl rfl (hval 2 _ v2 rfl rfl))) .nil))) (Jq x0 x1 x2 (blocksI_row g0 u0) (ints23_row g1 u1) (ints23_row g2 u2)) (fun g l h=>by cases h)

theorem optimizeSplits_holds:Rows.OptimizeSplitsUptoSaid:=
 OpenClaim.holds_of_cond 9 Tryz.f9 rfl rfl rfl rfl rfl rfl rfl ⟨rfl,rfl,rfl,rfl,rfl⟩ rfl rfl rfl rfl rfl (by kernel_rfl) Tryz.func9 (by kernel_rfl)
  (of_decide_eq_true (by kernel_rfl)) (by unfold Func.isWrapper;first |(rw[if_pos (by decide+kernel)];kernel_rfl) |(rw[if_neg (by decide+kernel)];exact⟨rfl,rfl⟩))
  (fun os started H enc _ F=>optimizeSplits_lifted os started H enc F)

end Go.Proofs.YtbbfelelocccmaaGreat
