/-
  The law OptimizeMeans of the given program answers true for every input of the bulk that is named, and leaves its arguments as they were. Own work.
-/
import Derived.Test.YtbbfelelocccmaaGreatPOptimizeMeans6
import Derived.Test.YtbbfelelocccmaaGreatPOptimizeMeans7
import Derived.Test.YtbbfelelocccmaaGreatPOptimizeMeans2
import Derived.Test.YtbbfelelocccmaaGreatPOptimizeMeans4
import Derived.Test.YtbbfelelocccmaaGreatPOptimizeMeans3
import Derived.Test.YtbbfelelocccmaaGreatPOptimizeMeans5
import Derived.Deep.CondSized
import Derived.JoinedCond
set_option linter.unusedVariables false
set_option linter.unusedSimpArgs false
set_option maxRecDepth 100000
set_option maxHeartbeats 2000000
namespace Go.Proofs.YtbbfelelocccmaaGreat.Sv
open Go
theorem OX(n R:Nat)(S:CS)(v i p:Nat)(hv:v<R)(hi0:i<n)(hlast: ∀j,i<j->S j v=[])(hlen:(S i v).length<=1000000)(hn:n<=100000)(c0 c1 c2 c3 c5 c6 c7:AV)(r3 r5 r6 r7:AObj)(r0 r1:Nat->AObj):ACall Tryz.prog 82 [.ptr 2 1 0 0,.int .i64 (v:Int),.int .i64 (i:Int),.int .i64 (p:Int)] (DH [(.row false 8 [[c0,c1,c2,c3,.ref 4 R 0 R,c5,c6,c7]]),r3,(.row false 1 (Ax (oR n R S) R)),r5,r6,r7] (F4 r0 r1 (NS n R S) (MG R S))) (fun r h'=>r= .ptr (4*(v+R*i)+3+16) (A6 (S i v) p).length ((A6 (S i v) p).length-1) 0/\HSub (EQ hNone (DH [(.row false 8 [[c0,c1,c2,c3,.ref 4 R 0 R,c5,c6,c7]]),r3,(.row false 1 (Ax (oR n R (Ck S i v (A6 (S i v) p))) R)),r5,r6,r7] (F4 r0 r1 (NS n R (Ck S i v (A6 (S i v) p))) (MG R (Ck S i v (A6 (S i v) p)))))) h'):=by
 have hpl:=YX S i v;have hgl:=Sf S n v;refine ACall.of_body (n:=94) Ag Tryz.func82 rfl rfl ?_;refine wk 11 ?_;refine aq 16 (Ab Ag rfl rfl rfl rfl rfl rfl rfl (An _ _).symm rfl (Int.natCast_nonneg _) (by omega)) ?_;refine aq 17 (At Ag rfl rfl rfl (.ptr _ _ _ _ _ _ _ [oR n R S v] rfl (An _ _).symm X8) rfl) ?_;refine wk 6 ?_;refine aq 19 (FE Ag rfl rfl rfl rfl) ?_;refine wk 2 ?_;refine EP 21 (fun hb1=>?_) fun hb1=>?_
 .
  refine wk 11 ?_;refine AGo.join (γ:=Unit) (fun _u=>⟨94,(Aa (Aa (Aa (Aa (Aa A9 0 (.ptr 2 1 0 0)) 1 (.int .i64 (v:Int))) 2 (.int .i64 (i:Int))) 3 (.int .i64 (p:Int))) 9 (.ref (4*v+2+16) ((Cd S i v).length+1) 0 ((Cd S i v).length+1))),(DH [(.row false 8 [[c0,c1,c2,c3,.ref 4 R 0 R,c5,c6,c7]]),r3,(.row false 1 (Ax (oX n R S v i) R)),r5,r6,r7] (F4 r0 r1 (PY n R S v i (S i v)) (MG R S)))⟩) (fun _u=>True) ?_ ?_
  .
   refine act ?_;have hS0:S i v=[]:=by
    first
    | exact note_new2 hi0 hlast hj0 (by omega) (by have h:=hb1;simp at h;omega)
    | exact Qe hi0 hlast (Eh hb1)
   exact tG
  intro _ _;refine wk 5 ?_;refine aq 47 (AU (r:=.int .i64 (((Cd S i v).length:Nat):Int)) rfl rfl rfl (PO (L:=(Cd S i v).length+1) (Nat.succ_pos _) (by omega))) ?_;refine aq 48 (Ab Ag rfl rfl rfl rfl rfl rfl ((Ao _ _ _).trans (congrArg some (FD))) MD rfl (Int.natCast_nonneg _) (by omega)) ?_;refine wk 8 ?_;refine dq 52 (At Ag rfl rfl rfl (.ptr _ _ _ _ false 2 (Cp R S v i++[JA R v i (S i v)]) (JA R v i (S i v)) ((Ao _ _ _).trans (congrArg some (FD))) MD Pt) rfl) ?_;refine dq 53 (FE Ag rfl rfl rfl rfl) ?_;refine wk 2 ?_;refine DOps.split 55 rfl (fun hb2=>?_) (fun hb2=>?_)
  .
   refine wk 15 ?_;refine dq 71 (Fo true rfl rfl rfl rfl) ?_;refine wk 1 ?_;refine AGo.join (γ:=Unit) (fun _u=>⟨94,(Aa A9 10 (.ptr (4*v+2+16) ((Cd S i v).length+1) (0+(((Cd S i v).length:Nat):Int).toNat) 0)),(DH [(.row false 8 [[c0,c1,c2,c3,.ref 4 R 0 R,c5,c6,c7]]),r3,(.row false 1 (Ax (oX n R S v i) R)),r5,r6,r7] (F4 r0 r1 (PY n R S v i (A6 (S i v) p)) (YR R S v i (A6 (S i v) p))))⟩) (fun _u=>True) ?_ ?_
   .
    refine act ?_;have hnl:A6 (S i v) p=S i v++[⟨p,false,false⟩]:=by
     first
     | exact Jt hs0 (by omega) (by have h:=hb2;simp at h;omega)
     |(have h0:(S i v).length=0:=(by have h:=hb2;first | exact Eh h |(rw[List.length_map]at h;exact Eh h));rw[MU h0];rfl)
    exact re
   exact rd
  have hs1:0<(S i v).length:=by have h:=hb2;rw[List.length_map]at h;exact Sj h
  obtain⟨s0,hs0⟩:=Ae (l:=S i v) (k:=(S i v).length-1) (by omega);refine wk 3 ?_;refine dq 59 (At Ag rfl rfl rfl (.ptr _ _ _ _ false 2 (Cp R S v i++[JA R v i (S i v)]) (JA R v i (S i v)) ((Ao _ _ _).trans (congrArg some (FD))) MD Pt) rfl) ?_;refine wk 3 ?_;refine dq 63 (At Ag rfl rfl rfl (.ptr _ _ _ _ false 2 (Cp R S v i++[JA R v i (S i v)]) (JA R v i (S i v)) ((Ao _ _ _).trans (congrArg some (FD))) MD Pt) rfl) ?_;refine dq 64 (FE Ag rfl rfl rfl rfl) ?_;refine dq 65 (AU (r:=.int .i64 (((S i v).length-1:Nat):Int)) rfl rfl rfl (by rw[List.length_map];exact PO hs1 (by omega))) ?_;refine dq 66 (IA Ag (b:=(4*(v+R*i)+3+16)) (es:=(S i v).map G1) rfl rfl rfl rfl rfl rfl ((Ao _ _ _).trans (congrArg some (PX hv))) rfl (Int.natCast_nonneg _) (by rw[List.length_map];omega)) ?_;refine wk 1 ?_;refine dq 68 (At Ag rfl rfl rfl (.ptr _ _ _ _ true 3 ((S i v).map G1) (G1 s0) ((Ao _ _ _).trans (congrArg some ((PX hv).trans (MR hs1)))) rfl (by rw[Int.toNat_natCast,List.getElem?_map,hs0];rfl)) rfl) ?_
  refine wk 2 ?_;refine dq 71 (Ez false rfl rfl rfl rfl) ?_;refine wk 1 ?_;refine AGo.join (γ:=Unit) (fun _u=>⟨94,(Aa A9 10 (.ptr (4*v+2+16) ((Cd S i v).length+1) (0+(((Cd S i v).length:Nat):Int).toNat) 0)),(DH [(.row false 8 [[c0,c1,c2,c3,.ref 4 R 0 R,c5,c6,c7]]),r3,(.row false 1 (Ax (oX n R S v i) R)),r5,r6,r7] (F4 r0 r1 (PY n R S v i (A6 (S i v) p)) (YR R S v i (A6 (S i v) p))))⟩) (fun _u=>True) ?_ ?_
  .
   refine asp 71 (fun hb3=>?_) fun hb3=>?_
   .
    refine act ?_;have hnl:A6 (S i v) p=S i v++[⟨p,false,false⟩]:=by
     first
     | exact Jt hs0 (by omega) (by have h:=hb3;simp at h;omega)
     |(have h0:(S i v).length=0:=(by have h:=hb3;first | exact Eh h |(rw[List.length_map]at h;exact Eh h));rw[MU h0];rfl)
    exact re
   refine acf ?_;have hnl:A6 (S i v) p=S i v:=Qf hs0 (by omega) (by have h:=hb3;simp at h;omega);exact mK
  exact rd
 have hg0:0<(M2 S n v).length:=by have h:=hb1;rw[D4]at h;exact Sj h
 obtain⟨j0,hj0⟩:=Ae (l:=M2 S n v) (k:=(M2 S n v).length-1) (by omega);refine wk 2 ?_;refine aq 24 (FE Ag rfl rfl rfl rfl) ?_;refine aq 25 (AU (r:=.int .i64 (((M2 S n v).length-1:Nat):Int)) rfl rfl rfl (by rw[D4];exact PO hg0 (by omega))) ?_;refine aq 26 (NU Ag rfl rfl rfl rfl rfl rfl ((Ao _ _ _).trans (congrArg some (VB hv))) rfl (Int.natCast_nonneg _) (by rw[D4];omega)) ?_;refine wk 1 ?_;refine aq 28 (At Ag rfl rfl rfl (.ptr _ _ _ _ false 2 (JQ n R S v) (Up R S v j0) ((Ao _ _ _).trans (congrArg some ((VB hv).trans (Rs (k:=(M2 S n v).length-1) (by rw[D4];omega))))) rfl (by rw[Int.toNat_natCast];show((M2 S n v).map (Up R S v))[_]?=_;rw[List.getElem?_map,hj0];rfl)) rfl) ?_;refine wk 4 ?_;refine AGo.join (γ:=Unit) (fun _u=>⟨94,(Aa (Aa (Aa (Aa (Aa A9 0 (.ptr 2 1 0 0)) 1 (.int .i64 (v:Int))) 2 (.int .i64 (i:Int))) 3 (.int .i64 (p:Int))) 9 (.ref (4*v+2+16) ((Cd S i v).length+1) 0 ((Cd S i v).length+1))),(DH [(.row false 8 [[c0,c1,c2,c3,.ref 4 R 0 R,c5,c6,c7]]),r3,(.row false 1 (Ax (oX n R S v i) R)),r5,r6,r7] (F4 r0 r1 (PY n R S v i (S i v)) (MG R S)))⟩) (fun _u=>True) ?_ ?_
 .
  refine asp 31 (fun hb4=>?_) fun hb4=>?_
  .
   refine act ?_;have hS0:S i v=[]:=by
    first
    | exact note_new2 hi0 hlast hj0 (by omega) (by have h:=hb4;simp at h;omega)
    | exact Qe hi0 hlast (Eh hb4)
   exact tG
  refine acf ?_;have hji:j0=i:=by have h:=hb4;simp at h;omega
  rw[hji]at hj0;have hS1:0<(S i v).length:=cJ hi0 hlast hj0;refine fH ?_;exact⟨(),Sub.mk' (by repeat(first | exact ESub.new _ | refine ESub.put ?_ (by first | rfl | exact congrArg some (cH hi0 hlast hS1) |(rw[Hf,Es];rfl)))) (M7 rfl rfl rfl (by repeat(first | exact trivial | refine⟨by first | rfl | exact congrArg (fun es=>some (AObj.row false 1 es)) ((gP hi0 hlast hS1).symm),?_⟩)) (fun x_=>(Ao _ _ _).trans (congrArg some (by rw[bQ hv hi0 hlast hS1]))) fE),trivial⟩
 intro _ _;refine wk 5 ?_;refine aq 47 (AU (r:=.int .i64 (((Cd S i v).length:Nat):Int)) rfl rfl rfl (PO (L:=(Cd S i v).length+1) (Nat.succ_pos _) (by omega))) ?_;refine aq 48 (Ab Ag rfl rfl rfl rfl rfl rfl ((Ao _ _ _).trans (congrArg some (FD))) MD rfl (Int.natCast_nonneg _) (by omega)) ?_;refine wk 8 ?_;refine dq 52 (At Ag rfl rfl rfl (.ptr _ _ _ _ false 2 (Cp R S v i++[JA R v i (S i v)]) (JA R v i (S i v)) ((Ao _ _ _).trans (congrArg some (FD))) MD Pt) rfl) ?_;refine dq 53 (FE Ag rfl rfl rfl rfl) ?_;refine wk 2 ?_;refine DOps.split 55 rfl (fun hb5=>?_) (fun hb5=>?_)
 .
  refine wk 15 ?_;refine dq 71 (Fo true rfl rfl rfl rfl) ?_;refine wk 1 ?_;refine AGo.join (γ:=Unit) (fun _u=>⟨94,(Aa A9 10 (.ptr (4*v+2+16) ((Cd S i v).length+1) (0+(((Cd S i v).length:Nat):Int).toNat) 0)),(DH [(.row false 8 [[c0,c1,c2,c3,.ref 4 R 0 R,c5,c6,c7]]),r3,(.row false 1 (Ax (oX n R S v i) R)),r5,r6,r7] (F4 r0 r1 (PY n R S v i (A6 (S i v) p)) (YR R S v i (A6 (S i v) p))))⟩) (fun _u=>True) ?_ ?_
  .
   refine act ?_;have hnl:A6 (S i v) p=S i v++[⟨p,false,false⟩]:=by
    first
    | exact Jt hs0 (by omega) (by have h:=hb5;simp at h;omega)
    |(have h0:(S i v).length=0:=(by have h:=hb5;first | exact Eh h |(rw[List.length_map]at h;exact Eh h));rw[MU h0];rfl)
   exact re
  exact rd
 have hs1:0<(S i v).length:=by have h:=hb5;rw[List.length_map]at h;exact Sj h
 obtain⟨s0,hs0⟩:=Ae (l:=S i v) (k:=(S i v).length-1) (by omega);refine wk 3 ?_;refine dq 59 (At Ag rfl rfl rfl (.ptr _ _ _ _ false 2 (Cp R S v i++[JA R v i (S i v)]) (JA R v i (S i v)) ((Ao _ _ _).trans (congrArg some (FD))) MD Pt) rfl) ?_;refine wk 3 ?_;refine dq 63 (At Ag rfl rfl rfl (.ptr _ _ _ _ false 2 (Cp R S v i++[JA R v i (S i v)]) (JA R v i (S i v)) ((Ao _ _ _).trans (congrArg some (FD))) MD Pt) rfl) ?_;refine dq 64 (FE Ag rfl rfl rfl rfl) ?_;refine dq 65 (AU (r:=.int .i64 (((S i v).length-1:Nat):Int)) rfl rfl rfl (by rw[List.length_map];exact PO hs1 (by omega))) ?_;refine dq 66 (IA Ag (b:=(4*(v+R*i)+3+16)) (es:=(S i v).map G1) rfl rfl rfl rfl rfl rfl ((Ao _ _ _).trans (congrArg some (PX hv))) rfl (Int.natCast_nonneg _) (by rw[List.length_map];omega)) ?_;refine wk 1 ?_;refine dq 68 (At Ag rfl rfl rfl (.ptr _ _ _ _ true 3 ((S i v).map G1) (G1 s0) ((Ao _ _ _).trans (congrArg some ((PX hv).trans (MR hs1)))) rfl (by rw[Int.toNat_natCast,List.getElem?_map,hs0];rfl)) rfl) ?_
 refine wk 2 ?_;refine dq 71 (Ez false rfl rfl rfl rfl) ?_;refine wk 1 ?_;refine AGo.join (γ:=Unit) (fun _u=>⟨94,(Aa A9 10 (.ptr (4*v+2+16) ((Cd S i v).length+1) (0+(((Cd S i v).length:Nat):Int).toNat) 0)),(DH [(.row false 8 [[c0,c1,c2,c3,.ref 4 R 0 R,c5,c6,c7]]),r3,(.row false 1 (Ax (oX n R S v i) R)),r5,r6,r7] (F4 r0 r1 (PY n R S v i (A6 (S i v) p)) (YR R S v i (A6 (S i v) p))))⟩) (fun _u=>True) ?_ ?_
 .
  refine asp 71 (fun hb6=>?_) fun hb6=>?_
  .
   refine act ?_;have hnl:A6 (S i v) p=S i v++[⟨p,false,false⟩]:=by
    first
    | exact Jt hs0 (by omega) (by have h:=hb6;simp at h;omega)
    |(have h0:(S i v).length=0:=(by have h:=hb6;first | exact Eh h |(rw[List.length_map]at h;exact Eh h));rw[MU h0];rfl)
   exact re
  refine acf ?_;have hnl:A6 (S i v) p=S i v:=Qf hs0 (by omega) (by have h:=hb6;simp at h;omega);exact mK
 exact rd
theorem RY(f:BFunc)(hs:f.sane)(R:Nat)(hRf:f.regs=(R:Int))(hR:R<=100000)(hn:f.blocks.length<=100000)(hi: ∀x∈f.blocks,x.ins.length<=100000):ACall Tryz.prog 58 [.agg f.cells] hNew (fun r h'=>r= .ptr 2 1 0 0/\HSub (EQ hNone (DH (In f R (SB f) ((List.range R).map BG) (R) (fun b=>decide (b<R))) (DF f R (SB f) G0))) h'):=by
 refine ACall.of_body (n:=152) Ag Tryz.func58 rfl rfl ?_;refine MJ ?_;refine ax 1 (GJ 2 0) ?_;refine wk 6 ?_;refine dx 18 (DQ Tryz.func80 (RX _ (by assumption))) ?_;refine wk 3 ?_;refine dx 22 (AA Ag (n:=f.blocks.length) (m:=f.blocks.length) 3 false rfl rfl rfl (by simp) (by simp) rfl rfl rfl rfl rfl (Nat.zero_lt_succ _) rfl (Nat.le_refl _) (by show 24*f.blocks.length<=_;omega) (by simp only[maxLen];omega)) ?_;refine wk 2 ?_;refine dx 25 (AA Ag (n:=R) (m:=R) 4 false rfl rfl rfl hRf hRf rfl rfl rfl rfl rfl (Nat.zero_lt_succ _) rfl (Nat.le_refl _) (by show 24*R<=_;omega) (by simp only[maxLen];omega)) ?_;refine wk 3 ?_;refine dx 29 (AA Ag (n:=f.blocks.length) (m:=f.blocks.length) 5 false rfl rfl rfl (by simp) (by simp) rfl rfl rfl rfl rfl (Nat.zero_lt_succ _) rfl (Nat.le_refl _) (by show 24*f.blocks.length<=_;omega) (by simp only[maxLen];omega)) ?_;refine wk 1 ?_;refine dx 31 (GJ 8 2) ?_;refine wk 4 ?_;refine AGo.ghost (CE 3 (es':=Ax (aR (fun _=>[])) f.blocks.length) rfl (by rw[An,List.length_replicate]) (weak_col fun b=>Wk.nil _)) ?_;refine AGo.ghost (CE 4 (es':=Ax (oR f.blocks.length R S0) R) rfl (by rw[An,List.length_replicate]) (weak_col fun b=>by rw[gQ];exact Wk.nil _)) ?_
 refine wk 9 ?_;refine Bb (γ:=Nat) (kf 8) (fun k=>⟨152,(Aa (Aa (Aa (Aa (Aa A9 1 (.ptr 0 1 0 0)) 3 (.ptr 2 1 0 0)) 35 (A2 f.nexts)) 36 (.int .i64 (f.blocks.length:Int))) 37 (.int .i64 (k:Int))),(Hp (nb [(.row false 2 [f.cells]),.free,(.row false 8 [l8 f R]),(.row false 1 (Ax (aR (aheadP f k 0)) f.blocks.length)),(.row false 1 (Ax (oR f.blocks.length R S0) R)),(.row false 1 (Ax (gK f 0) f.blocks.length)),.free,.free]) (F4 (RH f.blocks.length (aheadP f k 0)) (Pq f 0 G0) (NS f.blocks.length R S0) (MG R S0)))⟩) (fun k=>k<=f.blocks.length) (fun k=>f.blocks.length-k) 0 (Sub.mk' na (BY (k0:=8) rfl (by repeat(first | exact trivial | refine⟨⟨by first | rfl | exact congrArg (fun A=>some (AObj.row false 1 (Ax (aR A) f.blocks.length))) (funext fun c=>(Dd f 0 c).symm) | exact congrArg (fun es=>some (AObj.row false 1 es)) (io f f.blocks.length),by first | rfl | exact Ad (fun _ _=>Bd (As _) _ _) | exact Ad (fun _ _=>A4 (As _) _ _ _ _) | exact Ad (fun _ _=>DU (As _) _ _ _)⟩,?_⟩)) (fun x_=>by rw[P0 (Dd f 0)];(try simp only[hputs]);(repeat(first | refine Az (by exact Af (by omega)) ?_ | refine hrm_skip (by omega) ?_));exact congrArg some F4_start.symm) fE)) (Nat.zero_le _) (fun g b hb=>BH (k0:=8) rfl hb) ?_
 intro k hk;refine wk 5 ?_;refine asp 38 (fun hb1=>?_) fun hb1=>?_
 .
  refine act ?_;have hkl:k<f.blocks.length:=by have h:=hb1;simp at h;exact h
  obtain⟨x,hx⟩:=Ae hkl;have hxm:=List.mem_of_getElem? hx;refine wk 6 ?_;refine aq 40 (Au Ag rfl rfl rfl rfl rfl rfl (Int.natCast_nonneg _) (AM (CI hx)) rfl) ?_;refine wk 11 ?_;refine Bb (γ:=Nat) (kf 8) (fun j=>⟨152,(Aa (Aa (Aa (Aa (Aa (Aa (Aa (Aa (Aa A9 1 (.ptr 0 1 0 0)) 3 (.ptr 2 1 0 0)) 35 (A2 f.nexts)) 36 (.int .i64 (f.blocks.length:Int))) 37 (.int .i64 (k:Int))) 4 (.int .i64 (k:Int))) 42 (A0 x.nexts)) 43 (.int .i64 (x.nexts.length:Int))) 44 (.int .i64 (j:Int))),(Hp (nb [(.row false 2 [f.cells]),.free,(.row false 8 [l8 f R]),(.row false 1 (Ax (aR (aheadP f k j)) f.blocks.length)),(.row false 1 (Ax (oR f.blocks.length R S0) R)),(.row false 1 (Ax (gK f 0) f.blocks.length)),.free,.free]) (F4 (RH f.blocks.length (aheadP f k j)) (Pq f 0 G0) (NS f.blocks.length R S0) (MG R S0)))⟩) (fun j=>True) (fun j=>x.nexts.length-j) 0 (Sub.mk' Et (BY (k0:=8) rfl jZ FO fE)) trivial (fun g b hb=>BH (k0:=8) rfl hb) ?_
  intro j _;refine wk 5 ?_;refine asp 45 (fun hb2=>?_) fun hb2=>?_
  .
   refine act ?_;have hjl:j<x.nexts.length:=by have h:=hb2;simp[A0]at h;exact h
   obtain⟨d,hd⟩:=Ae hjl;have hd0:=hs.next x hxm d (List.mem_of_getElem? hd);have hdn:d.toNat<f.blocks.length:=by omega
   refine wk 5 ?_;refine aq 46 (MH Ag (AM hd)) ?_;refine wk 14 ?_;refine dq 58 (Ab Ag rfl rfl rfl rfl rfl rfl rfl (An _ _).symm rfl hd0.1 (by omega)) ?_;refine dq 59 (At Ag rfl rfl rfl (.ptr _ _ _ _ _ _ _ [aR (aheadP f k j) d.toNat] rfl (An _ _).symm (by rw[Nat.zero_add];exact BT hdn)) rfl) ?_;refine wk 1 ?_;refine dx 61 (Cn Ag rfl rfl rfl rfl rfl rfl (by decide) rfl rfl rfl rfl rfl rfl) ?_;refine dx 62 (o_append1J Ag (b:=4*d.toNat+0+16) (es:=(aheadP f k j d.toNat).map BG) rfl rfl rfl rfl rfl rfl rfl rfl ((Ao _ _ _).trans (congrArg some (qr hdn))) rfl rfl (Nat.zero_lt_succ _) (Jq fun _=>rfl) (Gq fun _=>rfl) rfl rfl (by rw[List.length_map];have:=GD f k j d.toNat;show(_+1)*8<=_;omega) (by rw[List.length_map];have:=GD f k j d.toNat;simp only[maxLen];omega)) ?_;refine dq 63 (Ab Ag rfl rfl rfl rfl rfl rfl BA (An _ _).symm rfl hd0.1 (by omega)) ?_;refine DOps.w rfl rfl (o_store1 Ag (p:=false) (sz:=1) (es:=Ax (aR (aheadP f k j)) f.blocks.length) (cs:=[aR (aheadP f k j) d.toNat]) rfl rfl rfl rfl rfl rfl BA (An _ _).symm (by rw[Nat.zero_add];exact BT hdn) (Ds _ _) (by decide) (Dt _ _) (by intro h;cases h)) ?_;refine Fb Do [([],[]),([],[]),([],[]),([2],[]),([],[]),([],[]),([],[]),([],[]),([2],[]),([],[]),([3],[]),([3],[]),([],[]),([],[]),([16],[16]),([3],[]),([3],[3])] tP (by kernel_rfl) ?_;refine XT ?_;refine aq 64 (Bj rfl rfl hjl (by simp only[maxLen];have:=F0 x;omega)) ?_;refine wk 2 ?_;exact⟨j+1,DropK.mk' Ik (Bl (k0:=8) rfl (by repeat(first | exact trivial | refine⟨⟨by first | rfl | exact congrArg (fun es=>some (AObj.row false 1 es)) (lS (GV hx hd hd0.1)),by first | rfl | exact Ad (fun _ _=>Bd (As _) _ _) | exact Ad (fun _ _=>A4 (As _) _ _ _ _) | exact Ad (fun _ _=>DU (As _) _ _ _)⟩,?_⟩)) (fun x_=>by(try simp only[hputs]);(repeat(first | refine Az (by exact Af (by omega)) ?_ | refine hrm_skip (by omega) ?_));exact(DG aF _ _ x_).trans (congrArg some (gD hdn (GV hx hd hd0.1) x_).symm)) (Lf (fun _=>Jm _) (fun _=>Jl _) (fun _=>Jk (As _) _) (fun _=>Jj _))),trivial,by omega⟩
  refine acf ?_;have hjge:x.nexts.length<=j:=by have h:=hb2;simp[A0]at h;omega
  refine wk 2 ?_;refine aq 65 (Bj rfl rfl hkl (by simp only[maxLen];omega)) ?_;refine wk 2 ?_;exact⟨k+1,DropK.mk' Ik (Bl (k0:=8) rfl (by repeat(first | exact trivial | refine⟨⟨by first | rfl | exact congrArg (fun A=>some (AObj.row false 1 (Ax (aR A) f.blocks.length))) (funext (GW hx hjge)),by first | rfl | exact Ad (fun _ _=>Bd (As _) _ _) | exact Ad (fun _ _=>A4 (As _) _ _ _ _) | exact Ad (fun _ _=>DU (As _) _ _ _)⟩,?_⟩)) (fun x_=>by rw[<-P0 (GW hx hjge)];exact Ao _ _ _) (Lf (fun _=>Jm _) (fun _=>Jl _) (fun _=>Jk (As _) _) (fun _=>Jj _))),hkl,by omega⟩
 refine acf ?_;have hge:f.blocks.length<=k:=by have h:=hb1;simp at h;omega
 refine wk 3 ?_;have hkn:k=f.blocks.length:=by omega
 subst hkn;rw[show aheadP f f.blocks.length 0=Aw f from funext fun c=>Dd f _ c,YV f];refine wk 7 ?_;refine Bb (γ:=Nat) (kf 8) (fun k=>⟨152,(Aa (Aa (Aa (Aa (Aa A9 1 (.ptr 0 1 0 0)) 3 (.ptr 2 1 0 0)) 67 (B6 f.blocks)) 68 (.int .i64 (f.blocks.length:Int))) 69 (.int .i64 (k:Int))),(Hp (nb [(.row false 2 [f.cells]),.free,(.row false 8 [l8 f R]),(.row false 1 (Ax (aR (Aw f)) f.blocks.length)),(.row false 1 (Ax (oR f.blocks.length R (C2 f k (fun _=>[]))) R)),(.row false 1 (Ax (gK f k) f.blocks.length)),.free,.free]) (aw f R (C2 f k (fun _=>[])) k))⟩) (fun k=>k<=f.blocks.length) (fun k=>f.blocks.length-k) 0 (Sub.mk' Et (BY (k0:=8) rfl jZ FO fE)) (Nat.zero_le _) (fun g b hb=>BH (k0:=8) rfl hb) ?_;intro k hk;refine wk 5 ?_;refine asp 70 (fun hb3=>?_) fun hb3=>?_
 .
  refine act ?_;have hkl:k<f.blocks.length:=by have h:=hb3;simp at h;exact h
  obtain⟨x,hx⟩:=Ae hkl;have hxm:=List.mem_of_getElem? hx;have hix:=hi x hxm;refine wk 6 ?_;refine aq 72 (MH Ag (AM hx)) ?_;refine wk 1 ?_;refine ax 9 (EO Ag 8) ?_;refine wk 13 ?_;refine dx 82 (AA Ag (n:=x.ins.length) (m:=x.ins.length) (4*k+1+16) true rfl rfl rfl (by simp) (by simp) rfl rfl rfl (by(try simp only[hputs]);(repeat(first | refine Az (by exact Af (by omega)) ?_ | refine hrm_skip (by omega) ?_));exact(Ao _ _ _).trans (congrArg some gC)) rfl (Nat.zero_lt_succ _) rfl (Nat.le_refl _) (by show 1*x.ins.length<=_;omega) (by simp only[maxLen];omega)) ?_;refine dq 83 (Ab Ag rfl rfl rfl rfl rfl rfl BA (An _ _).symm rfl (Int.natCast_nonneg _) (by omega)) ?_;refine DOps.w rfl rfl (o_store1 Ag (p:=false) (sz:=1) (es:=Ax (gK f k) f.blocks.length) (cs:=[gK f k k]) rfl rfl rfl rfl rfl rfl BA (An _ _).symm (by rw[Nat.zero_add,Int.toNat_natCast];exact BT hkl) rfl (by decide) rfl (by intro h;cases h)) ?_
  refine Fb Do [([],[]),([],[]),([],[]),([2],[]),([],[]),([],[]),([8],[]),([],[]),([17],[17]),([5],[]),([5],[5])] tP (by kernel_rfl) ?_;refine wk 4 ?_;refine aq 85 (At Ag rfl rfl rfl (.ptr _ _ _ _ _ _ _ _ BA rfl rfl) rfl) ?_;refine wk 4 ?_;refine Bb (γ:=Nat) (kf 9) (fun j=>⟨152,(Aa (Aa (Aa (Aa (Aa (Aa (Aa (Aa (Aa (Aa A9 1 (.ptr 0 1 0 0)) 3 (.ptr 2 1 0 0)) 67 (B6 f.blocks)) 68 (.int .i64 (f.blocks.length:Int))) 69 (.int .i64 (k:Int))) 8 (.int .i64 (k:Int))) 9 (.ptr 8 1 0 0)) 85 (Ea x.ins)) 86 (.int .i64 (x.ins.length:Int))) 87 (.int .i64 (j:Int))),(Hp (nb [(.row false 2 [f.cells]),.free,(.row false 8 [l8 f R]),(.row false 1 (Ax (aR (Aw f)) f.blocks.length)),(.row false 1 (Ax (oR f.blocks.length R (C2 f k (Bt x j []))) R)),(.row false 1 (Ax (gK f (k+1)) f.blocks.length)),.free,.free,(.row false 5 [x.cells])]) (aw f R (C2 f k (Bt x j [])) (k+1)))⟩) (fun j=>j<=x.ins.length) (fun j=>x.ins.length-j) 0 (Sub.mk' Et (BY (k0:=9) rfl (by repeat(first | exact trivial | refine⟨⟨by first | rfl | exact congrArg (fun S=>some (AObj.row false 1 (Ax (oR _ R S) R))) (P4 f k x) | exact congrArg (fun es=>some (AObj.row false 1 es)) (lx (Cw hx)) |((try simp only[hputs]);repeat(first | rfl | exact Aq _ _ _ | refine Az (by exact Af (by omega)) ?_ | refine hrm_skip (by omega) ?_ | refine(CD _ Ps).trans ?_)),by first | rfl | exact Ad (fun _ _=>Bd (As _) _ _) | exact Ad (fun _ _=>A4 (As _) _ _ _ _) | exact Ad (fun _ _=>DU (As _) _ _ _)⟩,?_⟩)) (fun x_=>by(try simp only[hputs]);rw[<-P4 f k x];(repeat(first | refine Az (by exact Af (by omega)) ?_ | refine hrm_skip (by omega) ?_));exact(DG (fun y_=>by(try simp only[hputs]);(repeat(first | refine Az (by exact Af (by omega)) ?_ | refine hrm_skip (by omega) ?_));exact Ao _ _ _) _ _ x_).trans (congrArg some (bZ (Cw hx) x_).symm)) X9)) (Nat.zero_le _) (fun g b hb=>BH (k0:=9) rfl hb) ?_
  intro j hj;refine wk 5 ?_;refine asp 88 (fun hb4=>?_) fun hb4=>?_
  .
   refine act ?_;have hjl:j<x.ins.length:=by have h:=hb4;simp at h;exact h
   obtain⟨t,ht⟩:=Ae hjl;have hin:=hs.low x hxm t (List.mem_of_getElem? ht);refine wk 6 ?_;refine aq 90 (MH Ag (AM ht)) ?_;refine wk 1 ?_;refine ax 11 (EO Ag 9) ?_;refine wk 7 ?_;refine ax 93 (DQ Tryz.func81 (O9 _)) ?_;refine wk 4 ?_;refine Bb (γ:=Nat) (kf 10) (fun q=>⟨152,(Aa (Aa (Aa (Aa (Aa (Aa (Aa (Aa (Aa (Aa (Aa (Aa (Aa (Aa (Aa A9 1 (.ptr 0 1 0 0)) 3 (.ptr 2 1 0 0)) 67 (B6 f.blocks)) 68 (.int .i64 (f.blocks.length:Int))) 69 (.int .i64 (k:Int))) 8 (.int .i64 (k:Int))) 9 (.ptr 8 1 0 0)) 85 (Ea x.ins)) 86 (.int .i64 (x.ins.length:Int))) 87 (.int .i64 (j:Int))) 10 (.int .i64 (j:Int))) 11 (.ptr 9 1 0 0)) 93 (A0 t.uses)) 94 (.int .i64 (t.uses.length:Int))) 95 (.int .i64 (q:Int))),(Hp (nb [(.row false 2 [f.cells]),.free,(.row false 8 [l8 f R]),(.row false 1 (Ax (aR (Aw f)) f.blocks.length)),(.row false 1 (Ax (oR f.blocks.length R (C2 f k (Bt x j (t.uses.take q)))) R)),(.row false 1 (Ax (gK f (k+1)) f.blocks.length)),.free,.free,(.row false 5 [x.cells]),(.row false 8 [t.cells])]) (aw f R (C2 f k (Bt x j (t.uses.take q))) (k+1)))⟩) (fun q=>True) (fun q=>t.uses.length-q) 0 (Sub.mk' Et (BY (k0:=10) rfl jZ FO Kk)) trivial (fun g b hb=>BH (k0:=10) rfl hb) ?_
   intro q _;refine wk 5 ?_;refine asp 96 (fun hb5=>?_) fun hb5=>?_
   .
    refine act ?_;have hql:q<t.uses.length:=by have h:=hb5;simp[A0]at h;exact h
    obtain⟨u,hu⟩:=Ae hql;have hub:=hin.2 u (List.mem_of_getElem? hu);have hub2:u.toNat<R:=by omega
    refine wk 5 ?_;refine aq 97 (MH Ag (AM hu)) ?_;refine wk 8 ?_;refine AOps.call 103 (hn:=EQ _ (DH (fu f R (Ck (C2 f k (Bt x j (t.uses.take q))) k u.toNat (A6 (C2 f k (Bt x j (t.uses.take q)) k u.toNat) j)) (k+1)) (aw f R (Ck (C2 f k (Bt x j (t.uses.take q))) k u.toNat (A6 (C2 f k (Bt x j (t.uses.take q)) k u.toNat) j)) (k+1)))) (r:=.ptr (4*(u.toNat+R*k)+3+16) (A6 (C2 f k (Bt x j (t.uses.take q)) k u.toNat) j).length ((A6 (C2 f k (Bt x j (t.uses.take q)) k u.toNat) j).length-1) 0) rfl rfl rfl (Ef (fu f R (C2 f k (Bt x j (t.uses.take q))) (k+1)) (fu f R (Ck (C2 f k (Bt x j (t.uses.take q))) k u.toNat (A6 (C2 f k (Bt x j (t.uses.take q)) k u.toNat) j)) (k+1)) (aw f R (Ck (C2 f k (Bt x j (t.uses.take q))) k u.toNat (A6 (C2 f k (Bt x j (t.uses.take q)) k u.toNat) j)) (k+1)) rfl Tryz.func82 (by kernel_rfl) rfl rfl rfl rfl rfl (Gb _ _ _ _) (Gb _ _ _ _) Rb GY (C9 CB f R _ _) (C9 CB f R _ _) (by simp[AV.avoid,AV.flat,CB]) (by have h:=OX f.blocks.length R (C2 f k (Bt x j (t.uses.take q))) u.toNat k j hub2 hkl (NZ f k _ _) (VM (by omega)) hn (.int .i64 f.regs) (B6 f.blocks) (A2 f.nexts) (.ref 3 f.blocks.length 0 f.blocks.length) (.ref 5 f.blocks.length 0 f.blocks.length) .nil .nil (.row false 1 (Ax (aR (Aw f)) f.blocks.length)) (.row false 1 (Ax (gK f (k+1)) f.blocks.length)) .free .free (RH f.blocks.length (Aw f)) (Pq f (k+1) G0);rw[Int.toNat_of_nonneg hub.1]at h;first | exact h |(rw[List.length_map];exact h))) ?_
    obtain⟨s,hs1,hs2,hs3⟩:=si_last (Cv (C2 f k (Bt x j (t.uses.take q)) k u.toNat) j);refine wk 2 ?_;refine AOps.w rfl rfl (o_store Ag (es:=(A6 (C2 f k (Bt x j (t.uses.take q)) k u.toNat) j).map G1) (cs:=G1 s) rfl rfl rfl rfl rfl (by(try simp only[hputs]);exact(EA _ _ _).trans ((Ao _ _ _).trans (congrArg some (OG hub2 (Cv _ _))))) (List.length_map _).symm (by rw[List.getElem?_map,hs1];rfl) rfl (by decide) rfl (fun _=>rfl)) ?_;refine wk 2 ?_;refine aq 106 (Bj rfl rfl hql (by have:=Kp t;simp only[maxLen];omega)) ?_;refine wk 2 ?_;exact⟨q+1,DropK.mk' Ik (Bl (k0:=10) rfl (by repeat(first | exact trivial | refine⟨⟨by first | rfl | exact congrArg (fun es=>some (AObj.row false 1 es)) (JG F8 (VJ hu hub.1)) |(refine(BQ rfl).trans ?_;exact congrArg (fun es=>some (AObj.row false 1 es)) (JG F8 (VJ hu hub.1))) | exact BQ rfl |((try simp only[hputs]);repeat(first | rfl | exact Aq _ _ _ | refine Az (by exact Af (by omega)) ?_ | refine hrm_skip (by omega) ?_ | refine(CD _ Ps).trans ?_)),by first | rfl | exact Ad (fun _ _=>Bd (As _) _ _) | exact Ad (fun _ _=>A4 (As _) _ _ _ _) | exact Ad (fun _ _=>DU (As _) _ _ _)⟩,?_⟩)) (fun x_=>(DG (fun y_=>(EA _ _ y_).trans (Ao _ _ _)) _ _ x_).trans (congrArg some (SC hub2 F8 (Cv _ _) (VJ hu hub.1) hs2 x_).symm)) (C9 (As _) f R _ _)),trivial,by omega⟩
   refine acf ?_;have hqge:t.uses.length<=q:=by have h:=hb5;simp[A0]at h;omega
   rw[List.take_of_length_le hqge];refine wk 4 ?_;refine ax 108 (DQ Tryz.func77 (La _)) ?_;refine wk 7 ?_;refine asp 110 (fun hb6=>?_) fun hb6=>?_
   .
    refine act ?_;have hsp:0<=t.sets:=by simpa using hb6
    have hs2_:t.sets.toNat<R:=by have:=hin.1 (Ex (by simpa using hb6));rw[<-Jg (Ex (by simpa using hb6))]at this;omega
    refine wk 5 ?_;refine AOps.call 115 (hn:=EQ _ (DH (fu f R (Ck (C2 f k (Bt x j t.uses)) k t.sets.toNat (A6 (C2 f k (Bt x j t.uses) k t.sets.toNat) j)) (k+1)) (aw f R (Ck (C2 f k (Bt x j t.uses)) k t.sets.toNat (A6 (C2 f k (Bt x j t.uses) k t.sets.toNat) j)) (k+1)))) (r:=.ptr (4*(t.sets.toNat+R*k)+3+16) (A6 (C2 f k (Bt x j t.uses) k t.sets.toNat) j).length ((A6 (C2 f k (Bt x j t.uses) k t.sets.toNat) j).length-1) 0) rfl rfl rfl (Ef (fu f R (C2 f k (Bt x j t.uses)) (k+1)) (fu f R (Ck (C2 f k (Bt x j t.uses)) k t.sets.toNat (A6 (C2 f k (Bt x j t.uses) k t.sets.toNat) j)) (k+1)) (aw f R (Ck (C2 f k (Bt x j t.uses)) k t.sets.toNat (A6 (C2 f k (Bt x j t.uses) k t.sets.toNat) j)) (k+1)) rfl Tryz.func82 (by kernel_rfl) rfl rfl rfl rfl rfl (Gb _ _ _ _) (Gb _ _ _ _) Rb GY (C9 CB f R _ _) (C9 CB f R _ _) (by simp[AV.avoid,AV.flat,CB]) (by have h:=OX f.blocks.length R (C2 f k (Bt x j t.uses)) t.sets.toNat k j hs2_ hkl (NZ f k _ _) (VM (by omega)) hn (.int .i64 f.regs) (B6 f.blocks) (A2 f.nexts) (.ref 3 f.blocks.length 0 f.blocks.length) (.ref 5 f.blocks.length 0 f.blocks.length) .nil .nil (.row false 1 (Ax (aR (Aw f)) f.blocks.length)) (.row false 1 (Ax (gK f (k+1)) f.blocks.length)) .free .free (RH f.blocks.length (Aw f)) (Pq f (k+1) G0);rw[Int.toNat_of_nonneg hsp]at h;first | exact h |(rw[List.length_map];exact h))) ?_
    obtain⟨s,hs1,hs2,hs3⟩:=si_last (Cv (C2 f k (Bt x j t.uses) k t.sets.toNat) j);refine wk 2 ?_;refine AOps.w rfl rfl (o_store Ag (es:=(A6 (C2 f k (Bt x j t.uses) k t.sets.toNat) j).map G1) (cs:=G1 s) rfl rfl rfl rfl rfl (by(try simp only[hputs]);exact(EA _ _ _).trans ((Ao _ _ _).trans (congrArg some (OG hs2_ (Cv _ _))))) (List.length_map _).symm (by rw[List.getElem?_map,hs1];rfl) rfl (by decide) rfl (fun _=>rfl)) ?_;refine wk 2 ?_;refine aq 118 (Bj rfl rfl hjl (by simp only[maxLen];omega)) ?_;refine wk 2 ?_;exact⟨j+1,DropK.mk' Ik (Bl (k0:=9) rfl (by repeat(first | exact trivial | refine⟨⟨by first | rfl | exact congrArg (fun es=>some (AObj.row false 1 es)) (JG LV (VL ht hsp)) |(refine(BQ rfl).trans ?_;exact congrArg (fun es=>some (AObj.row false 1 es)) (JG LV (VL ht hsp))) | exact BQ rfl |((try simp only[hputs]);repeat(first | rfl | exact Aq _ _ _ | refine Az (by exact Af (by omega)) ?_ | refine hrm_skip (by omega) ?_ | refine(CD _ Ps).trans ?_)),by first | rfl | exact Ad (fun _ _=>Bd (As _) _ _) | exact Ad (fun _ _=>A4 (As _) _ _ _ _) | exact Ad (fun _ _=>DU (As _) _ _ _)⟩,?_⟩)) (fun x_=>(DG (fun y_=>(EA _ _ y_).trans (Ao _ _ _)) _ _ x_).trans (congrArg some (SC hs2_ LV (Cv _ _) (VL ht hsp) hs3 x_).symm)) (C9 (As _) f R _ _)),hjl,by omega⟩
   refine acf ?_;have hsp: ¬0<=t.sets:=by simpa using hb6
   refine wk 2 ?_;refine aq 118 (Bj rfl rfl hjl (by simp only[maxLen];omega)) ?_;refine wk 2 ?_;exact⟨j+1,DropK.mk' Ik (Bl (k0:=9) rfl (by repeat(first | exact trivial | refine⟨⟨by first | rfl | exact congrArg (fun S=>some (AObj.row false 1 (Ax (oR _ R S) R))) (TF ht hsp),by first | rfl | exact Ad (fun _ _=>Bd (As _) _ _) | exact Ad (fun _ _=>A4 (As _) _ _ _ _) | exact Ad (fun _ _=>DU (As _) _ _ _)⟩,?_⟩)) (fun x_=>by rw[<-TF ht hsp];exact Ao _ _ _) (C9 (As _) f R _ _)),hjl,by omega⟩
  refine acf ?_;have hje:j=x.ins.length:=by have h:=hb4;simp at h;omega
  subst hje;refine wk 7 ?_;refine asp 121 (fun hb7=>?_) fun hb7=>?_
  .
   refine act ?_;have hfin:x.fin=2:=by simpa using hb7
   have hv2:=hs.fin x hxm hfin;have hv3:x.v.toNat<R:=by omega
   refine wk 8 ?_;refine AOps.call 129 (hn:=EQ _ (DH (fu f R (Ck (C2 f k (Bt x x.ins.length [])) k x.v.toNat (A6 (C2 f k (Bt x x.ins.length []) k x.v.toNat) x.ins.length)) (k+1)) (aw f R (Ck (C2 f k (Bt x x.ins.length [])) k x.v.toNat (A6 (C2 f k (Bt x x.ins.length []) k x.v.toNat) x.ins.length)) (k+1)))) (r:=.ptr (4*(x.v.toNat+R*k)+3+16) (A6 (C2 f k (Bt x x.ins.length []) k x.v.toNat) x.ins.length).length ((A6 (C2 f k (Bt x x.ins.length []) k x.v.toNat) x.ins.length).length-1) 0) rfl rfl rfl (Ef (fu f R (C2 f k (Bt x x.ins.length [])) (k+1)) (fu f R (Ck (C2 f k (Bt x x.ins.length [])) k x.v.toNat (A6 (C2 f k (Bt x x.ins.length []) k x.v.toNat) x.ins.length)) (k+1)) (aw f R (Ck (C2 f k (Bt x x.ins.length [])) k x.v.toNat (A6 (C2 f k (Bt x x.ins.length []) k x.v.toNat) x.ins.length)) (k+1)) rfl Tryz.func82 (by kernel_rfl) rfl rfl rfl rfl rfl (Gb _ _ _ _) (Gb _ _ _ _) Rb GY (C9 CB f R _ _) (C9 CB f R _ _) (by simp[AV.avoid,AV.flat,CB]) (by have h:=OX f.blocks.length R (C2 f k (Bt x x.ins.length [])) x.v.toNat k x.ins.length hv3 hkl (NZ f k _ _) (VM (by omega)) hn (.int .i64 f.regs) (B6 f.blocks) (A2 f.nexts) (.ref 3 f.blocks.length 0 f.blocks.length) (.ref 5 f.blocks.length 0 f.blocks.length) .nil .nil (.row false 1 (Ax (aR (Aw f)) f.blocks.length)) (.row false 1 (Ax (gK f (k+1)) f.blocks.length)) .free .free (RH f.blocks.length (Aw f)) (Pq f (k+1) G0);rw[Int.toNat_of_nonneg hv2.1]at h;first | exact h |(rw[List.length_map];exact h))) ?_
   obtain⟨s,hs1,hs2,hs3⟩:=si_last (Cv (C2 f k (Bt x x.ins.length []) k x.v.toNat) x.ins.length);refine wk 2 ?_;refine AOps.w rfl rfl (o_store Ag (es:=(A6 (C2 f k (Bt x x.ins.length []) k x.v.toNat) x.ins.length).map G1) (cs:=G1 s) rfl rfl rfl rfl rfl (by(try simp only[hputs]);exact(EA _ _ _).trans ((Ao _ _ _).trans (congrArg some (OG hv3 (Cv _ _))))) (List.length_map _).symm (by rw[List.getElem?_map,hs1];rfl) rfl (by decide) rfl (fun _=>rfl)) ?_;refine wk 2 ?_;refine aq 132 (Bj rfl rfl hkl (by simp only[maxLen];omega)) ?_;refine wk 2 ?_;exact⟨k+1,DropK.mk' Ik (Bl (k0:=8) rfl (by repeat(first | exact trivial | refine⟨⟨by first | rfl | exact congrArg (fun es=>some (AObj.row false 1 es)) (JG F8 (VP hx hfin hv2.1)) |(refine(BQ rfl).trans ?_;exact congrArg (fun es=>some (AObj.row false 1 es)) (JG F8 (VP hx hfin hv2.1))) | exact BQ rfl |((try simp only[hputs]);repeat(first | rfl | exact Aq _ _ _ | refine Az (by exact Af (by omega)) ?_ | refine hrm_skip (by omega) ?_ | refine(CD _ Ps).trans ?_)),by first | rfl | exact Ad (fun _ _=>Bd (As _) _ _) | exact Ad (fun _ _=>A4 (As _) _ _ _ _) | exact Ad (fun _ _=>DU (As _) _ _ _)⟩,?_⟩)) (fun x_=>(DG (fun y_=>(EA _ _ y_).trans (Ao _ _ _)) _ _ x_).trans (congrArg some (SC hv3 F8 (Cv _ _) (VP hx hfin hv2.1) hs2 x_).symm)) (C9 (As _) f R _ _)),hkl,by omega⟩
  refine acf ?_;have hfin: ¬x.fin=2:=by simpa using hb7
  refine wk 2 ?_;refine aq 132 (Bj rfl rfl hkl (by simp only[maxLen];omega)) ?_;refine wk 2 ?_;exact⟨k+1,DropK.mk' Ik (Bl (k0:=8) rfl (by repeat(first | exact trivial | refine⟨⟨by first | rfl | exact congrArg (fun S=>some (AObj.row false 1 (Ax (oR _ R S) R))) (TG hx hfin),by first | rfl | exact Ad (fun _ _=>Bd (As _) _ _) | exact Ad (fun _ _=>A4 (As _) _ _ _ _) | exact Ad (fun _ _=>DU (As _) _ _ _)⟩,?_⟩)) (fun x_=>by rw[<-TG hx hfin];exact Ao _ _ _) (C9 (As _) f R _ _)),hkl,by omega⟩
 refine acf ?_;have hge:f.blocks.length<=k:=by have h:=hb3;simp at h;omega
 refine wk 2 ?_;have hkn:k=f.blocks.length:=by omega
 subst hkn;rw[gG,ly];refine wk 4 ?_;refine ax 136 (AA Ag (n:=R) (m:=R) 7 true rfl rfl rfl hRf hRf rfl rfl rfl rfl rfl (Nat.zero_lt_succ _) rfl (Nat.le_refl _) (by show 1*R<=_;omega) (by simp only[maxLen];omega)) ?_;refine wk 6 ?_;refine AGo.ghost (.dryCell 2 0 6 6 1 true rfl rfl rfl rfl rfl (by decide)) ?_;refine wk 9 ?_;refine Bb (γ:=Nat) (kf 8) (fun k=>⟨152,(Aa (Aa (Aa (Aa A9 1 (.ptr 0 1 0 0)) 3 (.ptr 2 1 0 0)) 143 (.int .i64 (R:Int))) 144 (.int .i64 (k:Int))),(Hp (nb [(.row false 2 [f.cells]),.free,(.row false 8 [SO f R ((List.range k).map BG).length (k)]),(.row false 1 (Ax (aR (Aw f)) f.blocks.length)),(.row false 1 (Ax (oR f.blocks.length R (SB f)) R)),(.row false 1 (Ax (gR f) f.blocks.length)),(.row true 1 ((List.range k).map BG)),(.row true 1 (bC R (fun b=>decide (b<k))))]) (DF f R (SB f) G0))⟩) (fun k=>k<=R) (fun k=>R-k) 0 (Sub.mk' Et (BY (k0:=8) rfl (by repeat(first | exact trivial | refine⟨⟨by first | rfl | exact congrArg (fun es=>some (AObj.row true 1 es)) (fb R),by first | rfl | exact Ad (fun _ _=>Bd (As _) _ _) | exact Ad (fun _ _=>A4 (As _) _ _ _ _) | exact Ad (fun _ _=>BX (As _) _ _)⟩,?_⟩)) FO fE)) (Nat.zero_le _) (fun g b hb=>BH (k0:=8) rfl hb) ?_
 intro k hk;refine wk 5 ?_;refine asp 145 (fun hb8=>?_) fun hb8=>?_
 .
  refine act ?_;have hkl:k<R:=by have h:=hb8;simp at h;exact h
  refine wk 11 ?_;refine AOps.call 149 (hn:=EQ _ (DH (In f R (SB f) ((List.range (k+1)).map BG) (k+1) (fun b=>decide (b<k+1))) (DF f R (SB f) G0))) (r:=.tup []) rfl rfl rfl (Ef (In f R (SB f) ((List.range k).map BG) (k) (fun b=>decide (b<k))) (In f R (SB f) ((List.range (k+1)).map BG) (k+1) (fun b=>decide (b<k+1))) (DF f R (SB f) G0) rfl Tryz.func83 (by kernel_rfl) rfl rfl rfl rfl rfl (Cc _ _ _ _ _ _) (Cc _ _ _ _ _ _) Rb GY (Bc CB f R _ _) (Bc CB f R _ _) rfl (by have h:=UE f R (SB f) G0 ((List.range k).map BG) k (fun b=>decide (b<k)) k hkl hR (by simp) (by simp;omega);rw[NW,Qr,Li]at h;exact h)) ?_;refine wk 2 ?_;refine aq 150 (Bj rfl rfl hkl (by simp only[maxLen];omega)) ?_;refine wk 2 ?_;exact⟨k+1,DropK.mk' Ik (Bl (k0:=8) rfl nh (fun x_=>(EA _ _ x_).trans (Ao _ _ _)) (Bc (As _) f R _ _)),hkl,by omega⟩
 refine acf ?_;have hge:R<=k:=by have h:=hb8;simp at h;omega
 refine wk 7 ?_;have hkn:k=R:=by omega
 subst hkn;exact⟨[_],⟨rfl,trivial⟩,rfl,(L1 rfl SQ GY)⟩
theorem il(f:BFunc)(R:Nat)(S:CS)(G:GG)(es:List (List AV))(len:Nat)(w:Nat->Bool)(i:Nat)(x:Block)(hx:f.blocks[i]?=some x)(j:Nat)(hj:j<x.ins.length):ACall Tryz.prog 61 [.int .i64 (j:Int),.ptr 8 1 0 0,.ptr 12 1 0 0] (WS f R S G es len w i) (fun r h'=>r= .bool (G i j)/\HSub (KB kW hNone (WS f R S G es len w i)) h'):=by
 have hb:i<f.blocks.length:=(List.getElem?_eq_some_iff.1 hx).1;refine ACall.of_body (n:=15) Ag Tryz.func61 rfl rfl ?_;refine wk 11 ?_;refine dq 10 (Ab Ag rfl rfl rfl rfl rfl rfl rfl (An _ _).symm rfl (Int.natCast_nonneg _) (by omega)) ?_;refine dq 11 (At Ag rfl rfl rfl (.ptr _ _ _ _ _ _ _ [gR f i] rfl (An _ _).symm Lh) rfl) ?_;refine wk 1 ?_;refine dq 13 (Ab Ag rfl rfl rfl rfl rfl rfl ((Ao _ _ _).trans (congrArg some (VC hb hx))) (by rw[An,Cw hx]) rfl (Int.natCast_nonneg _) (by rw[Cw hx];omega)) ?_;refine dq 14 (At Ag rfl rfl rfl (.ptr _ _ _ _ true 1 (bC x.ins.length (G i)) [.bool (G i j)] ((Ao _ _ _).trans (congrArg some (VC hb hx))) (by rw[An,Cw hx]) (by rw[Nat.zero_add,Int.toNat_natCast];exact BT hj)) rfl) ?_;refine wk 3 ?_;exact⟨[_],⟨rfl,trivial⟩,rfl,TA (XU rfl rfl rfl rfl rfl rfl rfl rfl (fun x_=>by dsimp only;exact Ao _ _ _))⟩
theorem Vd(f:BFunc)(R:Nat)(S:CS)(G:GG)(es:List (List AV))(len:Nat)(w:Nat->Bool)(i:Nat)(x:Block)(hx:f.blocks[i]?=some x)(hi:x.ins.length<=100000):ACall Tryz.prog 60 [Ea x.ins,(.fn (.func 61) [] [.ptr 8 1 0 0,.ptr 12 1 0 0])] (WS f R S G es len w i) (fun r h'=>r=Ea (Ej (G i) x.ins 0)/\HSub (KB kW hNone (WS f R S G es len w i)) h'):=by
 refine ACall.of_body (n:=28) Ag Tryz.func60 rfl rfl ?_;refine wk 8 ?_;refine ax 10 (AA Ag (n:=0) (m:=x.ins.length) 9 true rfl rfl rfl (rfl) (by simp) rfl rfl rfl rfl rfl (Nat.zero_lt_succ _) rfl (Nat.zero_le _) (by show 64*x.ins.length<=_;omega) (by simp only[maxLen];omega)) ?_;refine wk 10 ?_;refine Bb (γ:=Nat) (kf 13) (fun j=>⟨28,(Aa (Aa (Aa (Aa (Aa A9 1 (.fn (.func 61) [] [.ptr 8 1 0 0,.ptr 12 1 0 0])) 5 (.ref 9 (Ej (G i) (x.ins.take j) 0).length 0 (Ej (G i) (x.ins.take j) 0).length)) 11 (Ea x.ins)) 12 (.int .i64 (x.ins.length:Int))) 13 (.int .i64 (j:Int))),(Hp (nb [.free,.free,(.row false 8 [SO f R (es).length (len)]),(.row false 1 (Ax (aR (Aw f)) f.blocks.length)),(.row false 1 (Ax (oR f.blocks.length R S) R)),(.row false 1 (Ax (gR f) f.blocks.length)),(.row true 1 (es)),(.row true 1 (bC R (w))),ArW,(.row true 8 ((Ej (G i) (x.ins.take j) 0).map Tac.cells)),.free,.free,(tW i)]) (DF f R S G))⟩) (fun j=>j<=x.ins.length) (fun j=>x.ins.length-j) 0 (Sub.mk' Et (BY (k0:=13) rfl jY FO m7)) (Nat.zero_le _) (fun g b hb=>BH (k0:=13) rfl hb) ?_
 intro j hj;refine wk 5 ?_;refine asp 14 (fun hb1=>?_) fun hb1=>?_
 .
  refine act ?_;have hjl:j<x.ins.length:=by have h:=hb1;simp at h;exact h
  obtain⟨t,ht⟩:=Ae hjl;refine wk 6 ?_;refine aq 16 (MH Ag (AM ht)) ?_;refine wk 1 ?_;refine ax 7 (EO Ag 13) ?_;refine wk 7 ?_;refine AOps.call 20 (hn:=_) (r:=.bool (G i j)) rfl rfl rfl (cF (W:=(WS f R S G es len w i)) kW rfl rfl Tryz.func61 (by kernel_rfl) rfl rfl rfl (XU BA BA BA BA BA BA BA BA (fun x_=>by(try simp only[hputs]);(try dsimp only);first | exact Ao _ _ _ |((repeat(first | refine Az (by exact Af (by omega)) ?_ | refine hrm_skip (by omega) ?_));exact Ao _ _ _))) (UQ f R S G es len w i) XV rfl (il f R S G es len w i x hx j hjl)) ?_;refine wk 2 ?_;refine asp 21 (fun hb2=>?_) fun hb2=>?_
  .
   refine act ?_;have hg:G i j=false:=by have h:=hb2;simpa using h
   refine wk 3 ?_;refine ax 24 (Cn Ag rfl rfl rfl rfl rfl rfl (by decide) rfl rfl rfl rfl rfl rfl) ?_;refine ax 25 (o_append Ag (n:=(Ej (G i) (x.ins.take j) 0).length) (m:=1) (es:=(Ej (G i) (x.ins.take j) 0).map Tac.cells) rfl rfl rfl rfl rfl rfl rfl rfl rfl (by rw[List.length_map]) rfl rfl (Nat.zero_lt_succ _) (.lst _ _) (by intro cs h;simp[partVals]at h;subst h;rfl) (fun _ cs h=>by simp[partVals]at h;subst h;rfl) rfl (by have h1:=MZ (G i) (x.ins.take j) 0;rw[List.length_take]at h1;simp[partVals];omega) (by have h1:=MZ (G i) (x.ins.take j) 0;rw[List.length_take]at h1;simp[partVals];simp only[maxLen];omega)) ?_;refine wk 3 ?_;exact mY
  refine acf ?_;have hg:G i j=true:=by have h:=hb2;simpa using h
  refine wk 2 ?_;exact mY
 refine acf ?_;have hje:j=x.ins.length:=by have h:=hb1;simp at h;omega
 subst hje;refine wk 2 ?_;refine AGo.ghost (.freeze 5 9 rfl rfl (by rw[List.length_map])) ?_;refine wk 5 ?_;refine⟨[_],⟨rfl,trivial⟩,?_,TA (XU BA BA BA BA BA BA BA BA (fun x_=>by dsimp only;rw[E5 _ (by omega)];exact Ao _ _ _))⟩;show AV.lst false _=AV.lst false _;rw[List.take_length,List.drop_zero,List.take_of_length_le (by rw[List.length_map];exact Nat.le_refl _)]
theorem ZP(f:BFunc)(hs:f.sane)(hn0:0<f.blocks.length)(hn:f.blocks.length<=100000)(hr:f.regs<=100000)(hi: ∀x∈f.blocks,x.ins.length<=100000):APure Tryz.prog 43 [.agg f.cells] (fun r=>r= .tup [.agg (Wq f).cells,.agg [NH (HV (Wq f))]]):=by
 have hr0:=hs.regs;obtain⟨R,hRf⟩: ∃R:Nat,f.regs=(R:Int):=⟨f.regs.toNat,by omega⟩
 have hR:R<=100000:=by omega
 refine APure.of_body (n:=83) Ag Tryz.func43 rfl rfl ?_;refine MJ ?_;refine ax 1 (GJ 2 0) ?_;refine ax 2 (EO Ag 1) ?_;refine ax 3 (EO Ag 9) ?_;refine wk 4 ?_;refine AOps.call 10 (hn:=EQ _ (DH (In f R (SB f) ((List.range R).map BG) (R) (fun b=>decide (b<R))) (DF f R (SB f) G0))) (r:=.ptr 2 1 0 0) rfl rfl rfl (cD (W:=hNew) (W':=(DH (In f R (SB f) ((List.range R).map BG) (R) (fun b=>decide (b<R))) (DF f R (SB f) G0))) kD rfl Tryz.func58 (by kernel_rfl) rfl rfl rfl (fun b hb=>by have:=R4 hb;(try simp only[hputs]);show _=some AObj.free;(repeat(first | refine Az (by exact Af (by omega)) ?_ | refine hrm_skip (by omega) ?_));rfl) (fun b hb=>⟨.free,rfl,rfl⟩) (fun b hb=>rfl) (fun b hb=>Pk rfl (Cc _ _ _ _ _ _) (Bc CB f R _ _) hb) rfl (RY f hs R hRf hR hn hi)) ?_;refine ax 4 (EO Ag 8) ?_;refine wk 4 ?_;refine Bb (γ:=RSd) (kf 10) (fun st=>⟨83,(Aa (Aa (Aa (Aa A9 1 (.ptr 0 1 0 0)) 2 (.ptr 1 1 0 0)) 3 (.ptr 9 1 0 0)) 4 (.ptr 8 1 0 0)),(Hp (nb [(.row false 2 [f.cells]),(.row false 2 [[.int .i64 0,.nil]]),(.row false 8 [SO f R (st.es).length (st.ws.length)]),(.row false 1 (Ax (aR (Aw f)) f.blocks.length)),(.row false 1 (Ax (oR f.blocks.length R (SB f)) R)),(.row false 1 (Ax (gR f) f.blocks.length)),(.row true 1 (st.es)),(.row true 1 (bC R (st.w))),ArW,(.row false 1 [[.nil]])]) (DF f R (SB f) st.G))⟩) (fun st=>SI f R st) (fun st=>l0 f R st) (l7 R) (Sub.mk' Cf (BY (k0:=10) rfl (by repeat(first | exact trivial | refine⟨⟨by first | rfl | exact BQ rfl | exact gn,by first | rfl | exact Ad (fun _ _=>Bd (As _) _ _) | exact Ad (fun _ _=>A4 (As _) _ _ _ _) | exact Ad (fun _ _=>BX (As _) _ _)⟩,?_⟩)) GY Kk)) (SI.first hs hRf) (fun g b hb=>BH (k0:=10) rfl hb) ?_
 intro st hQ;obtain⟨G,w,ws,es⟩:=st;dsimp only at hQ |-;refine wk 10 ?_;refine asp 16 (fun hb1=>?_) fun hb1=>?_
 .
  refine act ?_;obtain⟨ws',v,hws⟩: ∃ws' v,ws=ws'++[v]:=by
   rcases EW ws with h | h
   . have h2:=hb1;rw[h]at h2;simp at h2
   . exact h
  subst hws;have hpop:=hQ.q.wt.pop;have hv:=hpop.2.1;refine wk 13 ?_;refine dq 26 (AU (r:=.int .i64 (ws'.length:Int)) rfl rfl rfl (KE (by have:=hQ.q.wt.le;simp at this;omega))) ?_;refine dq 27 (Ab Ag rfl rfl rfl rfl rfl rfl rfl rfl rfl (Int.natCast_nonneg _) (by simp;omega)) ?_;refine dq 28 (At Ag rfl rfl rfl (.ptr _ _ _ _ _ _ _ (BG v) rfl rfl (by rw[Nat.zero_add,Int.toNat_natCast];exact hQ.q.st.get)) rfl) ?_;refine wk 14 ?_;refine dq 39 (AU (r:=.int .i64 (ws'.length:Int)) rfl rfl rfl (KE (by have:=hQ.q.wt.le;simp at this;omega))) ?_;refine dq 40 (Fm Ag (es:=es) (m:=ws'.length) rfl rfl rfl rfl rfl rfl rfl rfl rfl (by simp)) ?_;refine wk 11 ?_;refine aq 48 (Ab Ag rfl rfl rfl rfl rfl rfl rfl (An _ _).symm rfl (Int.natCast_nonneg _) (by omega)) ?_;refine AOps.w rfl rfl (o_store Ag rfl rfl rfl rfl rfl rfl (An _ _).symm X8 rfl (by decide) rfl Dy) ?_;refine wk 4 ?_;refine AOps.call 51 (hn:=EQ _ (DH (In f R (SB f) ((HF f v (⟨G,Cu w v false,ws',es⟩:RSd)).es) ((HF f v (⟨G,Cu w v false,ws',es⟩:RSd)).ws.length) ((HF f v (⟨G,Cu w v false,ws',es⟩:RSd)).w)) (DF f R (SB f) (HF f v (⟨G,Cu w v false,ws',es⟩:RSd)).G))) (r:=.tup []) rfl rfl rfl (Ef (In f R (SB f) es ws'.length (Cu w v false)) (In f R (SB f) (HF f v (⟨G,Cu w v false,ws',es⟩:RSd)).es (HF f v (⟨G,Cu w v false,ws',es⟩:RSd)).ws.length (HF f v (⟨G,Cu w v false,ws',es⟩:RSd)).w) (DF f R (SB f) (HF f v (⟨G,Cu w v false,ws',es⟩:RSd)).G) rfl Tryz.func59 (by kernel_rfl) rfl rfl rfl rfl rfl (Cc _ _ _ _ _ _) (Cc _ _ _ _ _ _) (by repeat(first | exact trivial | refine⟨by first | rfl | exact congrArg (fun es=>some (AObj.row true 1 es)) (H5 false),?_⟩)) GY (Bc CB f R _ _) (Bc CB f R _ _) rfl (Sm f hs R hRf (⟨G,Cu w v false,ws',es⟩:RSd) ⟨hpop.1,hQ.q.st.pop⟩ v hv hn hR hi)) ?_
  refine an ?_;exact⟨(HF f v (⟨G,Cu w v false,ws',es⟩:RSd)),DropK.mk' Ik (Bl (k0:=10) rfl nh GY (Bc (As _) f R _ _)),(hQ.reg hs hRf rfl).1,(hQ.reg hs hRf rfl).2⟩
 refine acf ?_;have hws:ws=[]:=by
  rcases EW ws with h |⟨L,b,h⟩
  . exact h
  . have h2:=hb1;rw[h]at h2;simp at h2
 subst hws;have hdn:Cq f G=Wq f:=hQ.done hs hRf rfl;refine wk 8 ?_;refine dx 57 (AA Ag (n:=f.blocks.length) (m:=f.blocks.length) 11 true rfl rfl rfl (by simp) (by simp) rfl rfl rfl rfl rfl (Nat.zero_lt_succ _) rfl (Nat.le_refl _) (by show 56*f.blocks.length<=_;omega) (by simp only[maxLen];omega)) ?_;refine wk 1 ?_;refine dx 6 (EO Ag 10) ?_;refine wk 11 ?_;refine Bb (γ:=Nat) (kf 12) (fun k=>⟨83,(Aa (Aa (Aa (Aa (Aa (Aa (Aa (Aa A9 1 (.ptr 0 1 0 0)) 2 (.ptr 1 1 0 0)) 3 (.ptr 9 1 0 0)) 4 (.ptr 8 1 0 0)) 6 (.ptr 10 1 0 0)) 60 (B6 f.blocks)) 61 (.int .i64 (f.blocks.length:Int))) 62 (.int .i64 (k:Int))),(Hp (nb [(.row false 2 [f.cells]),(.row false 2 [[.int .i64 0,.nil]]),(.row false 8 [SO f R (es).length (([]:List Nat).length)]),(.row false 1 (Ax (aR (Aw f)) f.blocks.length)),(.row false 1 (Ax (oR f.blocks.length R (SB f)) R)),(.row false 1 (Ax (gR f) f.blocks.length)),(.row true 1 (es)),(.row true 1 (bC R (w))),ArW,(.row false 1 [[.nil]]),(.row false 2 [[.int .i64 f.regs,.ref 11 f.blocks.length 0 f.blocks.length]]),(.row true 5 (((Cq f G).blocks.take k).map Block.cells++List.replicate (f.blocks.length-k) [.nil,.int .i64 0,.int .i64 0,.int .i64 0,.int .i64 0]))]) (DF f R (SB f) G))⟩) (fun k=>k<=f.blocks.length) (fun k=>f.blocks.length-k) 0 (Sub.mk' Et (BY (k0:=12) rfl jY FO (fun c h1 h2=>by rcases(by omega:c=12\/c=13\/c=14\/c=15)with rfl | rfl | rfl | rfl<;>first | rfl |(try simp only[hputs];repeat(first | rfl | refine Az (by exact Af (by omega)) ?_ | refine hrm_skip (by omega) ?_))))) (Nat.zero_le _) (fun g b hb=>BH (k0:=12) rfl hb) ?_
 intro k hk;refine wk 5 ?_;refine asp 63 (fun hb2=>?_) fun hb2=>?_
 .
  refine act ?_;have hkl:k<f.blocks.length:=by have h:=hb2;simp at h;exact h
  obtain⟨x,hx⟩:=Ae hkl;have hxm:=List.mem_of_getElem? hx;refine wk 6 ?_;refine aq 65 (MH Ag (AM hx)) ?_;refine wk 1 ?_;refine ax 7 (EO Ag 12) ?_;refine ax 8 (EO Ag 13) ?_;refine wk 7 ?_;refine aq 69 (Gk rfl rfl rfl) ?_;refine AOps.call 70 (hn:=_) (r:=Ea (Ej (G k) x.ins 0)) rfl rfl rfl (cE (W:=WS f R (SB f) G es ([]:List Nat).length w k) kW rfl Tryz.func60 (by kernel_rfl) rfl rfl rfl (XU BA BA BA BA BA BA BA BA (fun x_=>by(try simp only[hputs]);(try dsimp only);first | exact Ao _ _ _ |((repeat(first | refine Az (by exact Af (by omega)) ?_ | refine hrm_skip (by omega) ?_));exact Ao _ _ _))) (UQ f R (SB f) G es _ w k) XV rfl (Vd f R (SB f) G es _ w k x hx (hi x hxm))) ?_;refine wk 8 ?_;refine aq 76 (Ab Ag rfl rfl rfl rfl rfl rfl rfl (AC (cutF_len f G) (Nat.le_of_lt hkl)) rfl (Int.natCast_nonneg _) (by omega)) ?_;refine AOps.w rfl rfl (o_store Ag rfl rfl rfl rfl rfl rfl (AC (cutF_len f G) (Nat.le_of_lt hkl)) (fill_get (cutF_len f G) hkl) rfl (by decide) rfl Dy) ?_;refine wk 2 ?_;refine aq 77 (Bj rfl rfl hkl (by simp only[maxLen];omega)) ?_;refine wk 2 ?_;exact⟨k+1,DropK.mk' Ik (Bl (k0:=12) rfl (by repeat(first | exact trivial | refine⟨⟨by first | rfl | exact congrArg (fun es=>some (AObj.row true 5 es)) (BR (f:=Block.cells) (x:=x.mid (Ej (G k) x.ins 0)) (cutF_len f G) (Fw hx)),by first | rfl | exact Ad (fun _ _=>Bd (As _) _ _) | exact Ad (fun _ _=>A4 (As _) _ _ _ _) | exact Ad (fun _ _=>BX (As _) _ _)⟩,?_⟩)) FO (Bc (As _) f R _ _)),hkl,by omega⟩
 refine acf ?_;have hge:f.blocks.length<=k:=by have h:=hb2;simp at h;omega
 refine wk 2 ?_;refine AGo.ghost (.freezeCell 10 0 1 11 rfl rfl rfl rfl (AC (cutF_len f G) hk) (by decide)) ?_;rw[CQ (f:=Block.cells) (z:=[.nil,.int .i64 0,.int .i64 0,.int .i64 0,.int .i64 0]) (cutF_len f G) hge];refine wk 3 ?_;refine dx 80 (DQ Tryz.func62 (g7 (Cq f G) (ZQ hQ.c hs) (by rw[cutF_len];exact hn0) (by rw[cutF_len];exact hn) hr (eD hi))) ?_;refine dq 81 (Xj Ag rfl rfl rfl rfl rfl rfl rfl rfl) ?_;refine wk 5 ?_;refine⟨[_,_],⟨⟨_,_,_,_,rfl,rfl,.ptr _ _ _ _ _ _ _ _ rfl rfl rfl,rfl⟩,⟨_,_,_,_,rfl,rfl,.ptr _ _ _ _ _ _ _ _ rfl rfl rfl,rfl⟩,trivial⟩,?_,rfl⟩;rw[<-hdn];rfl
theorem XA(next:List (List Int))(hnl:next.length<=100000)(b:Int)(s:DS)(es:List (List AV))(hl:s.been.length=next.length)(hw:WayIn next.length s es):ACall Tryz.prog 156 [.int .i64 b,.ptr 1 1 0 0,.ptr 2 1 0 0,.ptr 3 1 0 0] (hput (hput (hput (hput (hput hNew 0 (.row true 1 ((s).been.map A5))) 1 (.row false 1 [[A2 next]])) 2 (.row false 1 [[.ref 0 next.length 0 next.length]])) 3 (.row false 1 [[.ref 4 (es).length 0 (s).way.length]])) 4 (.row true 2 (es))) (fun r h'=>r= .tup []/\HSub (hput (hput (hput (hput (hput hNone 0 (.row true 1 (((BL b s)).been.map A5))) 1 (.row false 1 [[A2 next]])) 2 (.row false 1 [[.ref 0 next.length 0 next.length]])) 3 (.row false 1 [[.ref 4 ((Sc b s es)).length 0 ((BL b s)).way.length]])) 4 (.row true 2 ((Sc b s es)))) h'):=by
 refine ACall.of_body (n:=28) Ag Tryz.func156 rfl rfl ?_;refine wk 5 ?_;refine EP 7 (fun hb1=>?_) fun hb1=>?_
 .
  refine wk 6 ?_;refine EP 13 (fun hb2=>?_) fun hb2=>?_
  .
   have hb0:0<=b/\b<s.been.length:=by simp_all[A2]<;>omega
   obtain⟨v,hv⟩:=Ae (l:=s.been) (k:=b.toNat) (by omega);refine wk 2 ?_;refine aq 16 (Ab Ag rfl rfl rfl rfl rfl rfl rfl (by simp[hl]) rfl hb0.1 (by omega)) ?_;refine aq 17 (At Ag rfl rfl rfl (.ptr _ _ _ _ _ _ _ _ rfl (by simp[hl]) (show _=some [AV.bool v] by rw[Nat.zero_add,List.getElem?_map,hv];rfl)) rfl) ?_;refine wk 3 ?_;refine asp 19 (fun hb3=>?_) fun hb3=>?_
   .
    refine act ?_;have hnb:notBeen s.been b=true:=by rw[notBeen,hv];simp_all
    have hcap:=hw.cap;have hle:=hw.le;refine wk 4 ?_;refine aq 22 (Ab Ag rfl rfl rfl rfl rfl rfl rfl (by simp[hl]) rfl hb0.1 (by omega)) ?_;refine AOps.w rfl rfl (o_store Ag rfl rfl rfl rfl rfl rfl (by simp[hl]) (show _=some [AV.bool v] by rw[Nat.zero_add,List.getElem?_map,hv];rfl) rfl (by decide) rfl Dy) ?_;refine wk 5 ?_;refine ax 26 (Cn Ag rfl rfl rfl rfl rfl rfl (by decide) rfl rfl rfl rfl rfl rfl) ?_;refine ax 27 (LD Ag (es:=es) rfl rfl rfl rfl rfl rfl rfl rfl rfl rfl hw.le rfl rfl (Nat.zero_lt_succ _) (.lst _ _) rfl (fun _=>rfl) (by show _*16<=_;omega) (by simp only[maxLen];omega)) ?_;refine wk 2 ?_;refine⟨[],trivial,rfl,?_⟩;rw[show BL b s=_ from dinto_eq hnb,show Sc b s es=_ from dB hnb];exact HSub.put (HSub.put (HSub.put (HSub.put (HSub.put (HSub.none _) (by first | rfl | exact congrArg (fun es=>some (AObj.row true 1 es)) (UN _ _ _))) rfl) rfl) (by first | rfl | exact congrArg (fun m=>some (AObj.row false 1 [[AV.ref 4 _ 0 m]])) (by simp))) (by rfl)
   refine acf ?_;exact mW
  exact l9
 refine AOps.k 8 rfl rfl rfl ?_;refine AOps.k 9 rfl rfl rfl ?_;refine AOps.k 10 rfl rfl rfl ?_;refine AOps.k 11 rfl rfl rfl ?_;refine wk 2 ?_;exact l9
theorem ic(b:Int):ACall Tryz.prog 155 [.int .i64 b] hNew (fun r h'=>r= .tup []/\HSub hNone h'):=by
 refine ACall.of_body (n:=2) Ag Tryz.func155 rfl rfl ?_;refine fH ?_;exact⟨[],trivial,rfl,HSub.none _⟩
theorem fZ(next:List (List Int))(hnl:next.length<=100000)(hsm: ∀l∈next,l.length<=100000)(been:List Bool)(hbl:been.length=next.length):ACall Tryz.prog 154 [A2 next,.ref 0 next.length 0 next.length,.fn (.func 155) [] []] (hput hNew 0 (.row true 1 (been.map A5))) (fun r h'=>r= .tup []/\HSub (hput hNone 0 (.row true 1 ((GA next been).map A5))) h'):=by
 refine ACall.of_body (n:=69) Ag Tryz.func154 rfl rfl ?_;refine MJ ?_;refine ax 3 (GJ 1 1) ?_;refine ax 4 (GJ 1 2) ?_;refine wk 3 ?_;refine ax 6 (EO Ag 3) ?_;refine wk 2 ?_;refine AGo.ghost (.dryCell 3 0 0 4 2 true rfl rfl rfl rfl rfl (by decide)) ?_;refine XT ?_;refine aq 10 (Gk rfl rfl rfl) ?_;refine wk 5 ?_;refine ax 12 (MT (hc:=(hput (hput (hput (hput (hput hNew 0 (.row true 1 (((DS.mk been [])).been.map A5))) 1 (.row false 1 [[A2 next]])) 2 (.row false 1 [[.ref 0 next.length 0 next.length]])) 3 (.row false 1 [[.ref 4 (([]:List (List AV))).length 0 ((DS.mk been [])).way.length]])) 4 (.row true 2 (([]:List (List AV)))))) (hw:=(hput (hput (hput (hput (hput hNone 0 (.row true 1 (((BL 0 (DS.mk been []))).been.map A5))) 1 (.row false 1 [[A2 next]])) 2 (.row false 1 [[.ref 0 next.length 0 next.length]])) 3 (.row false 1 [[.ref 4 ((Sc 0 (DS.mk been []) ([]:List (List AV)))).length 0 ((BL 0 (DS.mk been []))).way.length]])) 4 (.row true 2 ((Sc 0 (DS.mk been []) ([]:List (List AV))))))) [4,3,2,1,0] [(0,(.row true 1 (((BL 0 (DS.mk been []))).been.map A5))),(1,(.row false 1 [[A2 next]])),(2,(.row false 1 [[.ref 0 next.length 0 next.length]])),(3,(.row false 1 [[.ref 4 ((Sc 0 (DS.mk been []) ([]:List (List AV)))).length 0 ((BL 0 (DS.mk been []))).way.length]])),(4,(.row true 2 ((Sc 0 (DS.mk been []) ([]:List (List AV))))))] rfl rfl Tryz.func156 (by kernel_rfl) rfl rfl rfl ⟨⟨_,rfl,rfl⟩,⟨_,rfl,rfl⟩,⟨_,rfl,rfl⟩,⟨_,rfl,rfl⟩,⟨_,rfl,rfl⟩,trivial⟩ rfl (AH rfl (AH rfl (AH rfl (AH rfl (AH rfl (BE _)))))) ⟨⟨_,rfl,rfl,rfl⟩,⟨_,rfl,rfl,rfl⟩,⟨_,rfl,rfl,rfl⟩,⟨_,rfl,rfl,rfl⟩,⟨_,rfl,rfl,rfl⟩,trivial⟩ rfl (XA next hnl 0 (DS.mk been []) ([]:List (List AV)) hbl (PM hbl))) ?_
 refine wk 2 ?_;refine Bh (γ:=FW) 5 (fun q=>⟨69,(Aa (Aa (Aa (Aa (Aa A9 2 (.fn (.func 155) [] [])) 3 (.ptr 1 1 0 0)) 4 (.ptr 2 1 0 0)) 6 (.ptr 3 1 0 0)) 7 (.fn (.func 156) [] [.ptr 1 1 0 0,.ptr 2 1 0 0,.ptr 3 1 0 0])),(hput (hput (hput (hput (hput (BK 5) 0 (.row true 1 ((q.s).been.map A5))) 1 (.row false 1 [[A2 next]])) 2 (.row false 1 [[.ref 0 next.length 0 next.length]])) 3 (.row false 1 [[.ref 4 (q.es).length 0 (q.s).way.length]])) 4 (.row true 2 (q.es)))⟩) (fun q=>FWInv next (H3 next (Sn next (E9 been)+1) (E9 been)) q) (fun q=>q.g) ⟨E9 been,Sc 0 (DS.mk been []) [],Sn next (E9 been)+1⟩ (Sub.mk' Cf Rc) (FWInv.first hbl) (fun _=>Ah (Ah (Ah (Ah (Ah (fun b hb=>A8 hb) rfl) rfl) rfl) rfl) rfl) ?_;intro q hF;refine wk 7 ?_;refine asp 15 (fun hb1=>?_) fun hb1=>?_
 .
  refine act ?_;have hpos:0<q.s.way.length:=by simpa using hb1
  obtain⟨⟨b,i⟩,hp⟩: ∃p,q.s.way.getLast?=some p:=⟨_,List.getLast?_eq_some_getLast (List.ne_nil_of_length_pos hpos)⟩
  have htop:=(hF.way.top hp).1;have hbi:=hF.ok.way (b,i) (by rw[Ge hp];simp);simp only at hbi;obtain⟨l,hnx⟩:=Ae (l:=next) (k:=b.toNat) (by omega);have hrl:Br next b=l:=by simp[Br,hnx]
  rw[hrl]at hbi;refine wk 7 ?_;refine aq 19 (AU (r:=.int .i64 ((q.s.way.length-1:Nat):Int)) rfl rfl rfl (Oq hpos (by have:=hF.way.cap;have:=hF.way.le;omega))) ?_;refine aq 20 (Ab Ag rfl rfl rfl rfl rfl rfl rfl rfl rfl (Int.natCast_nonneg _) (by have:=hF.way.le;omega)) ?_;refine wk 8 ?_;refine dq 24 (At Ag rfl rfl rfl (.ptr _ _ _ _ _ _ _ _ rfl rfl (show _=some (Dl (b,i)) by rw[Nat.zero_add,Int.toNat_natCast];exact htop)) rfl) ?_;refine wk 4 ?_;refine dq 29 (At Ag rfl rfl rfl (.ptr _ _ _ _ _ _ _ _ rfl rfl (show _=some (Dl (b,i)) by rw[Nat.zero_add,Int.toNat_natCast];exact htop)) rfl) ?_;refine dq 30 (Au Ag rfl rfl rfl rfl rfl rfl hbi.1 (IP hnx) rfl) ?_;refine wk 4 ?_;refine asp 33 (fun hb2=>?_) fun hb2=>?_
  .
   refine act ?_;have hil:i<l.length:=by have h:=hb2;simp at h;exact h
   obtain⟨y,hlx⟩:=Ae (l:=l) (k:=i.toNat) (by omega);refine wk 5 ?_;refine aq 37 (At Ag rfl rfl rfl (.ptr _ _ _ _ _ _ _ _ rfl rfl (show _=some (Dl (b,i)) by rw[Nat.zero_add,Int.toNat_natCast];exact htop)) rfl) ?_;refine aq 38 (AU (r:=.int .i64 (i+1)) rfl rfl rfl (by simp only[AI,Bm,isShift,cond_false,if_true];rw[BD (by omega) (by have:=hsm _ (List.mem_of_getElem? hnx);omega)])) ?_;refine wk 2 ?_;refine AOps.w rfl rfl (o_store Ag rfl rfl rfl rfl rfl rfl rfl (show _=some (Dl (b,i)) by rw[Nat.zero_add,Int.toNat_natCast];exact htop) rfl (by decide) rfl Dy) ?_;refine wk 2 ?_;refine AGo.sub (s':=⟨69,(Aa (Aa (Aa (Aa (Aa (Aa A9 2 (.fn (.func 155) [] [])) 3 (.ptr 1 1 0 0)) 4 (.ptr 2 1 0 0)) 6 (.ptr 3 1 0 0)) 7 (.fn (.func 156) [] [.ptr 1 1 0 0,.ptr 2 1 0 0,.ptr 3 1 0 0])) 8 (.ptr 4 q.es.length (0+(((q.s.way.length-1:Nat):Int)).toNat) 0)),(hput (hput (hput (hput (hput hNone 0 (.row true 1 (((DS.mk q.s.been (q.s.way.dropLast++[(b,i+1)]))).been.map A5))) 1 (.row false 1 [[A2 next]])) 2 (.row false 1 [[.ref 0 next.length 0 next.length]])) 3 (.row false 1 [[.ref 4 ((q.es.set (q.s.way.length-1) (Dl (b,i+1)))).length 0 ((DS.mk q.s.been (q.s.way.dropLast++[(b,i+1)]))).way.length]])) 4 (.row true 2 ((q.es.set (q.s.way.length-1) (Dl (b,i+1))))))⟩) (Sub.mk' Cf (by repeat(first | exact HSub.none _ | exact AG _ | exact AE (by decide) | refine HSub.put ?_ (by first | rfl | exact congrArg (fun es=>some (AObj.row true 2 es)) (by rw[Nat.zero_add,Int.toNat_natCast];rfl) | exact congrArg (fun p:Nat×Nat=>some (AObj.row false 1 [[AV.ref 4 p.1 0 p.2]])) (Ri hp _ _)) | refine AF ?_ (by decide)))) ?_
   refine wk 6 ?_;refine dq 46 (At Ag rfl rfl rfl (.ptr _ _ _ _ _ _ _ _ rfl (by simp) (show _=some (Dl (b,i+1)) by rw[Nat.zero_add,Int.toNat_natCast,List.getElem?_set_self (by have:=hF.way.le;omega)])) rfl) ?_;refine dq 47 (Au Ag rfl rfl rfl rfl rfl rfl hbi.1 (IP hnx) rfl) ?_;refine wk 4 ?_;refine dq 52 (At Ag rfl rfl rfl (.ptr _ _ _ _ _ _ _ _ rfl (by simp) (show _=some (Dl (b,i+1)) by rw[Nat.zero_add,Int.toNat_natCast,List.getElem?_set_self (by have:=hF.way.le;omega)])) rfl) ?_;refine dq 53 (AU (r:=.int .i64 i) rfl rfl rfl (by simp only[AI,Bm,isShift,cond_false,if_true];rw[show i+1-1=i by omega,BD (by omega) (by have:=hsm _ (List.mem_of_getElem? hnx);omega)])) ?_;refine dq 54 (Au Ag rfl rfl rfl rfl rfl rfl hbi.2.2.1 (cs:=[.int .i64 (((Br next b)[i.toNat]?).getD 0)]) (by show(List.map (fun b=>[AV.int .i64 b]) l)[i.toNat]?=_;rw[List.getElem?_map,hlx,hrl,hlx];rfl) rfl) ?_;refine wk 1 ?_;refine dx 56 (MT (hc:=(hput (hput (hput (hput (hput hNew 0 (.row true 1 (((DS.mk q.s.been (q.s.way.dropLast++[(b,i+1)]))).been.map A5))) 1 (.row false 1 [[A2 next]])) 2 (.row false 1 [[.ref 0 next.length 0 next.length]])) 3 (.row false 1 [[.ref 4 ((q.es.set (q.s.way.length-1) (Dl (b,i+1)))).length 0 ((DS.mk q.s.been (q.s.way.dropLast++[(b,i+1)]))).way.length]])) 4 (.row true 2 ((q.es.set (q.s.way.length-1) (Dl (b,i+1))))))) (hw:=(hput (hput (hput (hput (hput hNone 0 (.row true 1 (((BL (((Br next b)[i.toNat]?).getD 0) (DS.mk q.s.been (q.s.way.dropLast++[(b,i+1)])))).been.map A5))) 1 (.row false 1 [[A2 next]])) 2 (.row false 1 [[.ref 0 next.length 0 next.length]])) 3 (.row false 1 [[.ref 4 ((Sc (((Br next b)[i.toNat]?).getD 0) (DS.mk q.s.been (q.s.way.dropLast++[(b,i+1)])) (q.es.set (q.s.way.length-1) (Dl (b,i+1))))).length 0 ((BL (((Br next b)[i.toNat]?).getD 0) (DS.mk q.s.been (q.s.way.dropLast++[(b,i+1)])))).way.length]])) 4 (.row true 2 ((Sc (((Br next b)[i.toNat]?).getD 0) (DS.mk q.s.been (q.s.way.dropLast++[(b,i+1)])) (q.es.set (q.s.way.length-1) (Dl (b,i+1)))))))) [4,3,2,1,0] [(0,(.row true 1 (((BL (((Br next b)[i.toNat]?).getD 0) (DS.mk q.s.been (q.s.way.dropLast++[(b,i+1)])))).been.map A5))),(1,(.row false 1 [[A2 next]])),(2,(.row false 1 [[.ref 0 next.length 0 next.length]])),(3,(.row false 1 [[.ref 4 ((Sc (((Br next b)[i.toNat]?).getD 0) (DS.mk q.s.been (q.s.way.dropLast++[(b,i+1)])) (q.es.set (q.s.way.length-1) (Dl (b,i+1))))).length 0 ((BL (((Br next b)[i.toNat]?).getD 0) (DS.mk q.s.been (q.s.way.dropLast++[(b,i+1)])))).way.length]])),(4,(.row true 2 ((Sc (((Br next b)[i.toNat]?).getD 0) (DS.mk q.s.been (q.s.way.dropLast++[(b,i+1)])) (q.es.set (q.s.way.length-1) (Dl (b,i+1)))))))] rfl rfl Tryz.func156 (by kernel_rfl) rfl rfl rfl ⟨⟨_,rfl,rfl⟩,⟨_,rfl,rfl⟩,⟨_,rfl,rfl⟩,⟨_,rfl,rfl⟩,⟨_,rfl,rfl⟩,trivial⟩ rfl (AH rfl (AH rfl (AH rfl (AH rfl (AH rfl (BE _)))))) ⟨⟨_,rfl,rfl,rfl⟩,⟨_,rfl,rfl,rfl⟩,⟨_,rfl,rfl,rfl⟩,⟨_,rfl,rfl,rfl⟩,⟨_,rfl,rfl,rfl⟩,trivial⟩ rfl (XA next hnl (((Br next b)[i.toNat]?).getD 0) (DS.mk q.s.been (q.s.way.dropLast++[(b,i+1)])) (q.es.set (q.s.way.length-1) (Dl (b,i+1))) hF.ok.len (hF.way.seen hp))) ?_
   refine wk 2 ?_;exact mO
  refine acf ?_;have hil: ¬i<l.length:=by have h:=hb2;simp at h;omega
  refine wk 6 ?_;refine aq 60 (At Ag rfl rfl rfl (.ptr _ _ _ _ _ _ _ _ rfl rfl (show _=some (Dl (b,i)) by rw[Nat.zero_add,Int.toNat_natCast];exact htop)) rfl) ?_;refine wk 7 ?_;refine aq 64 (AU (r:=.int .i64 ((q.s.way.length-1:Nat):Int)) rfl rfl rfl (Oq hpos (by have:=hF.way.cap;have:=hF.way.le;omega))) ?_;refine aq 65 (Fm (m:=(DS.mk q.s.been q.s.way.dropLast).way.length) Ag rfl rfl rfl rfl rfl rfl rfl rfl (by simp) (by simp)) ?_;refine wk 5 ?_;refine ax 68 (MT (hc:=hNew) (hw:=hNone) [] [] rfl rfl Tryz.func155 (by kernel_rfl) rfl rfl rfl trivial rfl (BE _) trivial rfl (ic b)) ?_;refine an ?_;exact mO
 refine acf ?_;have hnil:q.s.way=[]:=List.length_eq_zero_iff.1 (by have h:=hb1;simp at h;simpa using h);refine wk 1 ?_;refine⟨[],trivial,rfl,?_⟩;rw[show GA next been=q.s.been from(congrArg DS.been (hF.done hnil)).symm];exact HSub.put (HSub.none _) rfl
theorem bH(next:List (List Int))(hnl:next.length<=100000)(hsm: ∀l∈next,l.length<=100000):APure Tryz.prog 148 [A2 next] (fun r=>r=Cs (GA next (List.replicate next.length false))):=by
 refine APure.of_body (n:=11) Ag Tryz.func148 rfl rfl ?_;refine wk 8 ?_;refine ax 6 (AA Ag (n:=next.length) (m:=next.length) 0 true rfl rfl rfl (by simp) (by simp) rfl rfl rfl rfl rfl (Nat.zero_lt_succ _) rfl (Nat.le_refl _) (by show 1*next.length<=_;omega) (by simp only[maxLen];omega)) ?_;refine wk 3 ?_;refine AGo.sub (s':=⟨11,(Aa (Aa A9 0 (A2 next)) 3 (.ref 0 next.length 0 next.length)),(hput hNone 0 (.row true 1 (((List.replicate next.length false)).map A5)))⟩) (Sub.mk' Cf (by repeat(first | exact HSub.none _ | exact AG _ | exact AE (by decide) | refine HSub.put ?_ (by first | rfl | exact congrArg (fun es=>some (AObj.row true 1 es)) (by rw[List.map_replicate];rfl)) | refine AF ?_ (by decide)))) ?_;refine wk 3 ?_;refine ax 9 (VZ (fZ next hnl hsm (List.replicate next.length false) (by simp)) [0] [(0,(.row true 1 ((GA next (List.replicate next.length false)).map A5)))] rfl Tryz.func154 (by kernel_rfl) rfl rfl rfl ⟨⟨_,rfl,rfl⟩,trivial⟩ rfl (AH rfl (BE _)) ⟨⟨_,rfl,rfl,rfl⟩,trivial⟩ rfl) ?_
 refine wk 2 ?_;refine AGo.ghost (.freezeA 3 0 rfl rfl (by simp[JR])) ?_;refine wk 4 ?_;refine FZ ⟨[_],⟨rfl,trivial⟩,?_,rfl⟩;rfl
theorem Vl(f:BFunc)(reach:List Bool)(hn:f.blocks.length<=1000)(hr:reach.length=f.blocks.length)(hle:f.leads):APure Tryz.prog 149 [.agg f.cells,A2 f.nexts,Cs reach] (fun r=>r= .tup [A0 (f.takes reach),Cs (f.takenAt reach f.blocks.length)]):=by
 refine APure.of_body (n:=104) Ag Tryz.func149 rfl rfl ?_;refine MJ ?_;refine ax 3 (GJ 2 0) ?_;refine wk 8 ?_;refine ax 18 (AA Ag (n:=f.blocks.length) (m:=f.blocks.length) 1 true rfl rfl rfl (by simp) (by simp) rfl rfl rfl rfl rfl (Nat.zero_lt_succ _) rfl (Nat.le_refl _) (by show 8*f.blocks.length<=_;omega) (by simp only[maxLen];omega)) ?_;refine wk 10 ?_;refine Bh (γ:=Nat) 2 (fun k=>⟨104,(Aa (Aa (Aa (Aa (Aa (Aa (Aa (Aa A9 0 (.agg f.cells)) 1 (A2 f.nexts)) 2 (Cs reach)) 3 (.ptr 0 1 0 0)) 8 (.ref 1 f.blocks.length 0 f.blocks.length)) 19 (A2 f.nexts)) 20 (.int .i64 (f.blocks.length:Int))) 21 (.int .i64 (k:Int))),(hput (hput (BK 2) 0 (.row false 2 [f.cells])) 1 (.row true 1 (BI (Bu f.nexts reach k))))⟩) (fun k=>k<=f.blocks.length) (fun k=>f.blocks.length-k) 0 (Sub.mk' (by repeat(first | exact ESub.new _ | refine ESub.put ?_ (by first | rfl | exact congrArg (fun(n:Nat)=>some (AV.int .i64 (n:Int))) (by simp[AJ])))) (by repeat(first | exact HSub.none _ | exact AG _ | exact AE (by decide) | refine HSub.put ?_ (by first | rfl | exact congrArg (fun es=>some (AObj.row true 1 es)) (by rw[Bu,AJ];exact KR _)) | refine AF ?_ (by decide)))) (Nat.zero_le _) (fun _=>Ah (Ah (fun b hb=>A8 hb) rfl) rfl) ?_
 intro k hk;refine wk 5 ?_;refine asp 22 (fun hb1=>?_) fun hb1=>?_
 .
  refine act ?_;have hkl:k<f.blocks.length:=by simpa using hb1
  obtain⟨x,hx⟩:=Ae hkl;have hnx:=CI hx;obtain⟨rk,hrk⟩:=Ae (l:=reach) (k:=k) (by omega);refine wk 6 ?_;refine aq 24 (Au Ag rfl rfl rfl rfl rfl rfl (Int.natCast_nonneg _) (AM (by assumption)) rfl) ?_;refine wk 9 ?_;refine aq 28 (Au Ag rfl rfl rfl rfl rfl rfl (Int.natCast_nonneg _) (AM (by assumption)) rfl) ?_;refine wk 3 ?_;refine asp 30 (fun hb2=>?_) fun hb2=>?_
  .
   refine act ?_;have hrf:reach[k]?=some false:=by rw[hrk];simpa using hb2
   exact mG
  refine acf ?_;have hrt:reach[k]?=some true:=by rw[hrk];simpa using hb2
  have h2:=LH f x.nexts (List.mem_of_getElem? hnx);refine wk 8 ?_;refine Bh (γ:=Nat) 2 (fun j=>⟨104,(Aa (Aa (Aa (Aa (Aa (Aa (Aa (Aa (Aa (Aa (Aa (Aa A9 0 (.agg f.cells)) 1 (A2 f.nexts)) 2 (Cs reach)) 3 (.ptr 0 1 0 0)) 8 (.ref 1 f.blocks.length 0 f.blocks.length)) 19 (A2 f.nexts)) 20 (.int .i64 (f.blocks.length:Int))) 21 (.int .i64 (k:Int))) 9 (.int .i64 (k:Int))) 31 (A0 x.nexts)) 32 (.int .i64 (x.nexts.length:Int))) 33 (.int .i64 (j:Int))),(hput (hput (BK 2) 0 (.row false 2 [f.cells])) 1 (.row true 1 (BI ((x.nexts.take j).foldl I3 (Bu f.nexts reach k)))))⟩) (fun j=>j<=x.nexts.length) (fun j=>x.nexts.length-j) 0 (Sub.mk' Et Rc) (Nat.zero_le _) (fun _=>Ah (Ah (fun b hb=>A8 hb) rfl) rfl) ?_;intro j hj;refine wk 5 ?_;refine asp 34 (fun hb3=>?_) fun hb3=>?_
  .
   refine act ?_;have hjl:j<x.nexts.length:=by simpa using hb3
   obtain⟨y,hy⟩:=Ae hjl;have hyr:=hle x.nexts (List.mem_of_getElem? hnx) y (List.mem_of_getElem? hy);have hub:=QC (Kh (x.nexts.take j) (Md (LH f) reach k)) y;have hjt:(x.nexts.take j).length=j:=by rw[List.length_take];omega
   rw[hjt]at hub;refine wk 5 ?_;refine aq 35 (Au Ag rfl rfl rfl rfl rfl rfl (Int.natCast_nonneg _) (AM (by assumption)) rfl) ?_;refine wk 6 ?_;refine aq 39 (Ab Ag rfl rfl rfl rfl rfl rfl rfl (by rw[Bk,CR,Bv,AJ]) rfl hyr.1 (by omega)) ?_;refine aq 40 (At Ag rfl rfl rfl (.ptr _ _ _ _ _ _ _ _ rfl (by rw[Bk,CR,Bv,AJ]) (OB (by rw[CR,Bv,AJ];exact hyr))) rfl) ?_;refine aq 41 (AU (r:=.int .i64 (iget ((x.nexts.take j).foldl I3 (Bu f.nexts reach k)) y+1)) rfl rfl rfl (by simp only[AI,Bm,isShift,cond_false,if_true];rw[BD (by omega) (by omega)])) ?_;refine aq 42 (Ab Ag rfl rfl rfl rfl rfl rfl rfl (by rw[Bk,CR,Bv,AJ]) rfl hyr.1 (by omega)) ?_;refine AOps.w rfl rfl (o_store Ag rfl rfl rfl rfl rfl rfl (by rw[Bk,CR,Bv,AJ]) (OB (by rw[CR,Bv,AJ];exact hyr)) rfl (by decide) rfl Dy) ?_;refine wk 2 ?_;refine aq 43 (Bj rfl rfl hjl (by simp only[maxLen];omega)) ?_;refine wk 2 ?_;exact⟨j+1,Drop.mk' Ra (by repeat(first | exact HDrop.none _ _ | exact HDrop.tail _ _ | refine HDrop.put ?_ (by first | rfl | exact congrArg (fun es=>some (AObj.row true 1 es)) (by rw[Wt hy];exact QF _ _ _)) rfl rfl)),hjl,by omega⟩
  refine acf ?_;have hge2:x.nexts.length<=j:=by simpa using hb3
  exact mG
 refine acf ?_;have hge:f.blocks.length<=k:=by simpa using hb1
 obtain rfl:k=f.blocks.length:=by omega
 refine wk 6 ?_;refine ax 48 (AA Ag (n:=f.blocks.length) (m:=f.blocks.length) 2 true rfl rfl rfl (by simp) (by simp) rfl rfl rfl rfl rfl (Nat.zero_lt_succ _) rfl (Nat.le_refl _) (by show 8*f.blocks.length<=_;omega) (by simp only[maxLen];omega)) ?_;refine wk 7 ?_;refine ax 52 (AA Ag (n:=f.blocks.length) (m:=f.blocks.length) 3 true rfl rfl rfl (by simp) (by simp) rfl rfl rfl rfl rfl (Nat.zero_lt_succ _) rfl (Nat.le_refl _) (by show 1*f.blocks.length<=_;omega) (by simp only[maxLen];omega)) ?_;refine wk 11 ?_;refine Bh (γ:=Nat) 4 (fun k=>⟨104,(Aa (Aa (Aa (Aa (Aa (Aa (Aa (Aa (Aa (Aa A9 0 (.agg f.cells)) 1 (A2 f.nexts)) 2 (Cs reach)) 3 (.ptr 0 1 0 0)) 8 (.ref 1 f.blocks.length 0 f.blocks.length)) 6 (.ref 2 f.blocks.length 0 f.blocks.length)) 7 (.ref 3 f.blocks.length 0 f.blocks.length)) 54 (B6 f.blocks)) 55 (.int .i64 (f.blocks.length:Int))) 56 (.int .i64 (k:Int))),(hput (hput (hput (hput (BK 4) 0 (.row false 2 [f.cells])) 1 (.row true 1 (BI (waysF f.nexts reach)))) 2 (.row true 1 (((f.takes reach).take k).map Sd++List.replicate (f.blocks.length-k) [.int .i64 0]))) 3 (.row true 1 ((f.takenAt reach k).map A5)))⟩) (fun k=>k<=f.blocks.length) (fun k=>f.blocks.length-k) 0 (Sub.mk' Et (by repeat(first | exact HSub.none _ | exact AG _ | exact AE (by decide) | refine HSub.put ?_ (by first | rfl | exact congrArg (fun w=>some (AObj.row true 1 (BI w))) (by rw[waysF,AJ]) | exact congrArg (fun es=>some (AObj.row true 1 es)) (by simp[BFunc.takenAt,A5])) | refine AF ?_ (by decide)))) (Nat.zero_le _) (fun _=>Ah (Ah (Ah (Ah (fun b hb=>A8 hb) rfl) rfl) rfl) rfl) ?_
 intro k hk;refine wk 5 ?_;refine asp 57 (fun hb4=>?_) fun hb4=>?_
 .
  refine act ?_;have hkl:k<f.blocks.length:=by simpa using hb4
  obtain⟨x,hx⟩:=Ae hkl;obtain⟨rk,hrk⟩:=Ae (l:=reach) (k:=k) (by omega);have htk:=Lk (reach:=reach) hx;refine wk 6 ?_;refine aq 59 (Au Ag rfl rfl rfl rfl rfl rfl (Int.natCast_nonneg _) (AM (by assumption)) rfl) ?_;refine wk 1 ?_;refine ax 14 (EO Ag 4) ?_;refine wk 7 ?_;refine aq 63 (Ab Ag rfl rfl rfl rfl rfl rfl rfl (AC (AP f reach) (Nat.le_of_lt hkl)) rfl (Int.natCast_nonneg _) (by omega)) ?_;refine AOps.w rfl rfl (o_store Ag rfl rfl rfl rfl rfl rfl (AC (AP f reach) (Nat.le_of_lt hkl)) (fill_get (AP f reach) hkl) rfl (by decide) rfl Dy) ?_;refine wk 5 ?_;refine aq 66 (Au Ag rfl rfl rfl rfl rfl rfl (Int.natCast_nonneg _) (AM (by assumption)) rfl) ?_;refine wk 2 ?_;refine EP 68 (fun hb5=>?_) fun hb5=>?_
  .
   refine wk 5 ?_;refine EP 73 (fun hb6=>?_) fun hb6=>?_
   .
    refine wk 5 ?_;refine EP 78 (fun hb7=>?_) fun hb7=>?_
    .
     refine wk 6 ?_;refine EP 84 (fun hb8=>?_) fun hb8=>?_
     .
      have hto:=IL hle hx (.inl (by simp_all));refine wk 3 ?_;refine aq 88 (Ab Ag rfl rfl rfl rfl rfl rfl rfl (by rw[Bk,waysF,Bv,AJ]) rfl hto.1 (by omega)) ?_;refine aq 89 (At Ag rfl rfl rfl (.ptr _ _ _ _ _ _ _ _ rfl (by rw[Bk,waysF,Bv,AJ]) (OB (by rw[waysF,Bv,AJ];exact hto))) rfl) ?_;refine wk 3 ?_;refine asp 91 (fun hb9=>?_) fun hb9=>?_
      .
       refine act ?_;have hyes:takeOf f.nexts reach k x=x.to:=Vm hrk (by simp_all);refine wk 6 ?_;refine aq 96 (Ab Ag rfl rfl rfl rfl rfl rfl rfl (by rw[List.length_set];exact AC (AP f reach) (Nat.le_of_lt hkl)) rfl (Int.natCast_nonneg _) (by omega)) ?_;refine AOps.w rfl rfl (o_store Ag rfl rfl rfl rfl rfl rfl (by rw[List.length_set];exact AC (AP f reach) (Nat.le_of_lt hkl)) (PE (fill_get (AP f reach) hkl)) rfl (by decide) rfl Dy) ?_;refine wk 5 ?_;refine aq 100 (Ab Ag rfl rfl rfl rfl rfl rfl rfl (by rw[List.length_map,Cg]) rfl hto.1 (by omega)) ?_;refine AOps.w rfl rfl (o_store Ag rfl rfl rfl rfl rfl rfl (by rw[List.length_map,Cg]) (cs:=[.bool (bget (f.takenAt reach k) x.to)]) (by rw[Nat.zero_add];exact lP (by rw[Cg];exact hto)) rfl (by decide) rfl Dy) ?_;exact ra
      refine acf ?_;have hno:takeOf f.nexts reach k x= -1:=takeOf_no hrk (by simp_all);exact ra
     refine AOps.k 85 rfl rfl rfl ?_;refine AOps.k 86 rfl rfl rfl ?_;refine AOps.k 87 rfl rfl rfl ?_;refine AOps.k 88 rfl rfl rfl ?_;refine AOps.k 89 rfl rfl rfl ?_;refine AOps.k 90 rfl rfl rfl ?_;refine wk 3 ?_;have hno:takeOf f.nexts reach k x= -1:=takeOf_no hrk (by simp_all);exact ra
    exact jP
   refine AOps.k 74 rfl rfl rfl ?_;refine AOps.k 75 rfl rfl rfl ?_;refine AOps.k 76 rfl rfl rfl ?_;refine wk 2 ?_;exact jP
  refine AOps.k 69 rfl rfl rfl ?_;refine AOps.k 70 rfl rfl rfl ?_;refine AOps.k 71 rfl rfl rfl ?_;refine wk 2 ?_;refine AOps.k 74 rfl rfl rfl ?_;refine AOps.k 75 rfl rfl rfl ?_;refine AOps.k 76 rfl rfl rfl ?_;refine wk 2 ?_;exact jP
 refine acf ?_;have hge:f.blocks.length<=k:=by simpa using hb4
 obtain rfl:k=f.blocks.length:=by omega
 refine wk 2 ?_;refine AGo.ghost (.freezeA 6 2 rfl rfl (AC (AP f reach) (Nat.le_refl _))) ?_;refine AGo.ghost (.freezeA 7 3 rfl rfl (by rw[List.length_map,Cg])) ?_;refine wk 7 ?_;refine⟨[_,_],⟨rfl,rfl,trivial⟩,?_,rfl⟩;have e1:=CQ (f:=Sd) (z:=[.int .i64 0]) (AP f reach) (Nat.le_refl _);rw[List.drop_zero,List.take_of_length_le (Nat.le_of_eq (AC (AP f reach) (Nat.le_refl _)).symm)]at e1;show AV.tup [.lst false _,.lst false _]=_;rw[e1];rfl
theorem Zu(takes:List Int)(i:Int)(hn:takes.length<=1000)(hi:0<=i/\i<takes.length)(hin: ∀v∈takes,v= -1\/(0<=v/\v<takes.length))(he:ends takes takes.length i=true):ACall Tryz.prog 150 [.int .i64 i,.ptr 2 1 0 0] (hput hNew 2 (.row false 1 [[A0 takes]])) (fun r h'=>r=A0 (Ba takes i)/\HSub (hput hNone 2 (.row false 1 [[A0 takes]])) h'):=by
 refine ACall.of_body (n:=21) Ag Tryz.func150 rfl rfl ?_;refine wk 7 ?_;refine ax 6 (o_litRow Ag 3 true rfl rfl rfl rfl rfl rfl (by decide) rfl rfl rfl rfl Dy rfl rfl) ?_;refine wk 4 ?_;refine AGo.loopI (γ:=jr) (fun q=>⟨21,(Aa (Aa (Aa A9 0 (.int .i64 q.c)) 1 (.ptr 2 1 0 0)) 4 (.ref 3 q.acc.length 0 q.acc.length)),(hput (hput hNone 2 (.row false 1 [[A0 takes]])) 3 (.row true 1 (BI q.acc)))⟩) (fun q=>FInv2 takes (Ba takes i) q) (fun q=>q.g) ⟨i,[i],takes.length⟩ (Sub.mk' Cf Rc) (FInv2.first hi he) ?_;intro q hF;refine wk 5 ?_;refine aq 9 (Au Ag rfl rfl rfl rfl rfl rfl hF.c.1 (dC hF.c) rfl) ?_;refine wk 3 ?_;refine asp 11 (fun hb1=>?_) fun hb1=>?_
 .
  refine act ?_;have hnx:=hF.next hin hb1;have hlen:=hF.len;have hg0:0<q.g:=by omega
  refine wk 6 ?_;refine aq 14 (Au Ag rfl rfl rfl rfl rfl rfl hF.c.1 (dC hF.c) rfl) ?_;refine wk 6 ?_;refine ax 18 (Cn Ag rfl rfl rfl rfl rfl rfl (by decide) rfl rfl rfl rfl rfl rfl) ?_;refine ax 19 (o_append Ag (n:=q.acc.length) (m:=1) rfl rfl rfl rfl rfl rfl rfl rfl rfl (by rw[Bk]) rfl rfl (Nat.zero_lt_succ _) (.lst _ _) (by intro cs h;simp[partVals]at h;subst h;rfl) (fun _ cs h=>by simp[partVals]at h;subst h;rfl) rfl (by simp[Bk,partVals];show _*8<=_;omega) (by simp[Bk,partVals];simp only[maxLen];omega)) ?_;refine wk 2 ?_;exact⟨⟨iget takes q.c,q.acc++[iget takes q.c],q.g-1⟩,Sub.mk' (by repeat(first | exact ESub.new _ | refine ESub.put ?_ (by first | rfl | exact congrArg (fun n=>some (AV.ref 3 n 0 n)) (by simp)))) (by repeat(first | exact HSub.none _ | exact AG _ | exact AE (by decide) | refine HSub.put ?_ (by first | rfl | exact congrArg (fun es=>some (AObj.row true 1 es)) (by simp[BI,partVals];rfl)) | refine AF ?_ (by decide))),hnx.1,hnx.2⟩
 refine acf ?_;have hdone:=hF.done hb1;refine wk 2 ?_;refine AGo.ghost (.freezeA 4 3 rfl rfl (by rw[Bk])) ?_;refine wk 5 ?_;refine⟨[_],⟨rfl,trivial⟩,?_,HSub.put (HSub.none _) rfl⟩;rw[<-hdone];rfl
theorem Zk(f:BFunc)(p:List Int)(hf: ∀x∈f.blocks,x.ins.length<=10000)(hp:rg f.blocks.length p)(hl:p.length<=100000):APure Tryz.prog 151 [.agg f.cells,A0 p] (fun r=>r=Ea (f.joined p)):=by
 obtain⟨hne,hin⟩:=hp;obtain⟨i0,rest,rfl⟩: ∃i0 rest,p=i0::rest:=⟨p.head hne,p.tail,(List.cons_head_tail hne).symm⟩
 have h0:=hin i0 (by simp);have hrl:rest.length<=100000:=by simp at hl;omega
 refine APure.of_body (n:=40) Ag Tryz.func151 rfl rfl ?_;refine MJ ?_;refine ax 2 (GJ 2 0) ?_;refine wk 7 ?_;refine dq 12 (Au Ag rfl rfl rfl rfl rfl rfl (by decide) (cs:=[.int .i64 i0]) rfl rfl) ?_;refine wk 1 ?_;refine dq 14 (Au Ag rfl rfl rfl rfl rfl rfl h0.1 (IP (By h0)) rfl) ?_;refine wk 11 ?_;refine aq 22 (Tp Ag rfl rfl rfl rfl rfl rfl rfl) ?_;refine wk 6 ?_;refine aq 24 (kZ Ag (c:=[.int .i64 i0]) (es:=BI rest) rfl rfl rfl rfl rfl rfl (by intro cs h;simp[BI]at h;rcases h with rfl |⟨n,_,rfl⟩<;>rfl)) ?_;refine wk 4 ?_;refine AGo.loopI (γ:=Nat) (fun k=>⟨40,(Aa (Aa (Aa (Aa (Aa A9 2 (.ptr 0 1 0 0)) 6 (R5 (Uh f rest k) 1 (If f i0 rest k))) 24 (A0 rest)) 25 (.int .i64 (rest.length:Int))) 26 (.int .i64 (k:Int))),(hput (hput hNone 0 (.row false 2 [f.cells])) 1 (LN (Uh f rest k) 8 (If f i0 rest k)))⟩) (fun k=>k<=rest.length) (fun k=>rest.length-k) 0 (Sub.mk' (by repeat(first | exact ESub.new _ | refine ESub.put ?_ (by first | rfl | exact congrArg (fun es=>some (AV.lst true es)) (by simp[If,BFunc.joined]) | exact congrArg (fun(n:Nat)=>some (AV.int .i64 (n:Int))) (by simp[Bk])))) Rc) (Nat.zero_le _) ?_
 intro k hk;refine wk 5 ?_;refine asp 27 (fun hb1=>?_) fun hb1=>?_
 .
  refine act ?_;have hkl:k<rest.length:=by simpa[Bk]using hb1
  obtain⟨y,hy⟩:=Ae hkl;have hyr:=hin y (by simp[List.mem_of_getElem? hy]);have hb1:(If f i0 rest k).length+(List.map Tac.cells (f.blockAt y).ins).length<=2000000000:=by
   have h1:=Kc hf (i0::(rest.take k));have h2:=Kc hf [y];simp only[BFunc.joined,List.flatMap_cons,List.flatMap_nil,List.append_nil,List.length_append,List.length_cons,List.length_nil,List.length_take]at h1 h2;simp only[If,BFunc.joined,List.length_map,List.length_append];omega
  refine wk 5 ?_;refine aq 28 (MH Ag (AM hy)) ?_;refine wk 8 ?_;refine aq 34 (Au Ag rfl rfl rfl rfl rfl rfl hyr.1 (IP (By hyr)) rfl) ?_;refine wk 2 ?_;refine ax 37 (Qc Ag 1 rfl rfl rfl rfl rfl rfl rfl rfl rfl rfl rfl (Nat.zero_lt_succ _) (Mt f i0 rest k).1 (Mt f i0 rest k).2 (QB _).1 (QB _).2 (by show _*64<=_;omega) (by simp only[maxLen];omega)) ?_;refine wk 3 ?_;refine aq 38 (Bj rfl rfl hkl (by simp only[maxLen];omega)) ?_;refine wk 2 ?_;exact⟨k+1,Sub.mk' (by repeat(first | exact ESub.new _ | refine ESub.put ?_ (by first | rfl | exact congrArg (fun p:Bool×List (List AV)=>some (R5 p.1 1 p.2)) (jk hy)))) (by repeat(first | exact HSub.none _ | exact AG _ | exact AE (by decide) | refine HSub.put ?_ (by first | rfl | exact congrArg (fun p:Bool×List (List AV)=>some (LN p.1 8 p.2)) (jk hy)) | refine AF ?_ (by decide))),hkl,by omega⟩
 refine acf ?_;have hge:rest.length<=k:=by simpa[Bk]using hb1
 obtain rfl:k=rest.length:=by omega
 refine wk 2 ?_;refine AGo.ghost (.endJ 6 1 rfl rfl) ?_;refine wk 4 ?_;refine FZ ⟨[_],⟨rfl,trivial⟩,?_,rfl⟩;show AV.lst false _=AV.lst false _;rw[If,List.take_length];rfl
theorem Yx(f:BFunc)(hf:f.tame):APure Tryz.prog 144 [.agg f.cells] (fun r=>r= .tup [.agg f.tidy.cells,A2 f.tpaths]):=by
 have hn:=hf.mild;have hle:=hf.leads;have hnn:=AJ f;have hrl:=Kx f;have hn2: ∀l∈f.nexts,l.length<=100000:=fun l hl=>by have:=LH f l hl;omega
 have htl:f.tk.length=f.blocks.length:=AP f _;have hti:=He hle f.reach;refine APure.of_body (n:=119) Ag Tryz.func144 rfl rfl ?_;refine MJ ?_;refine ax 1 (GJ 2 0) ?_;refine ax 2 (EO Ag 1) ?_;refine wk 5 ?_;refine ax 17 (DQ Tryz.func80 (RX f (by omega))) ?_;refine wk 5 ?_;refine ax 19 (DQ Tryz.func148 (bH f.nexts (by omega) hn2)) ?_;refine wk 7 ?_;refine ax 24 (DQ Tryz.func149 (Vl f f.reach hn hrl hle)) ?_;refine wk 3 ?_;refine ax 6 (EO Ag 2) ?_;refine wk 8 ?_;refine AGo.ghost (.dry 8 4 1 true rfl rfl rfl (by decide)) ?_;refine wk 4 ?_;refine ax 30 (AA Ag (n:=f.blocks.length) (m:=f.blocks.length) 3 true rfl rfl rfl (by simp) (by simp) rfl rfl rfl rfl rfl (Nat.zero_lt_succ _) rfl (Nat.le_refl _) (by show 8*f.blocks.length<=_;omega) (by simp only[maxLen];omega)) ?_;refine wk 4 ?_;refine aq 31 (Gk rfl rfl rfl) ?_;refine wk 11 ?_;refine Bh (γ:=Nat) 5 (fun k=>⟨119,(Aa (Aa (Aa (Aa (Aa (Aa (Aa (Aa (Aa A9 1 (.ptr 0 1 0 0)) 2 (.ptr 1 1 0 0)) 9 (.ref 3 f.blocks.length 0 f.blocks.length)) 5 (Cs f.reach)) 7 (Cs (f.takenAt f.reach f.blocks.length))) 8 (.ref 4 (f.pathsTo k).length 0 (f.pathsTo k).length)) 10 (.fn (.func 150) [] [.ptr 2 1 0 0])) 34 (.int .i64 (f.blocks.length:Int))) 35 (.int .i64 (k:Int))),(hput (hput (hput (hput (hput (BK 5) 0 (.row false 2 [f.cells])) 1 (.row false 2 [[.int .i64 0,.nil]])) 2 (.row false 1 [[A0 f.tk]])) 3 (.row true 1 (BI (f.numsTo k)))) 4 (.row true 1 ((f.pathsTo k).map pathCell)))⟩) (fun k=>k<=f.blocks.length) (fun k=>f.blocks.length-k) 0 (Sub.mk' Et (by repeat(first | exact HSub.none _ | exact AG _ | exact AE (by decide) | refine HSub.put ?_ (by first | rfl | exact congrArg (fun es=>some (AObj.row true 1 es)) (KR _)) | refine AF ?_ (by decide) | refine Bq ?_ (by decide)))) (Nat.zero_le _) (fun _=>Ah (Ah (Ah (Ah (Ah (fun b hb=>A8 hb) rfl) rfl) rfl) rfl) rfl) ?_
 intro k hk;refine wk 5 ?_;refine asp 36 (fun hb1=>?_) fun hb1=>?_
 .
  refine act ?_;have hkl:k<f.blocks.length:=by simpa using hb1
  obtain⟨rk,hrk⟩:=Ae (l:=f.reach) (k:=k) (by omega);obtain⟨tk,htk⟩:=Ae (l:=(f.takenAt f.reach f.blocks.length)) (k:=k) (by rw[Cg];omega);have hhd:=QM hrk htk;refine wk 12 ?_;refine aq 40 (Au Ag rfl rfl rfl rfl rfl rfl (Int.natCast_nonneg _) (AM (by assumption)) rfl) ?_;refine wk 2 ?_;refine EP 42 (fun hb2=>?_) fun hb2=>?_
  .
   refine wk 2 ?_;refine aq 45 (Au Ag rfl rfl rfl rfl rfl rfl (Int.natCast_nonneg _) (AM (by assumption)) rfl) ?_;refine wk 4 ?_;refine asp 48 (fun hb3=>?_) fun hb3=>?_
   .
    refine act ?_;have hhead:f.headOf k=true:=by rw[hhd];simp_all
    have hpl:=DO f k;refine wk 6 ?_;refine aq 53 (Ab Ag rfl rfl rfl rfl rfl rfl rfl (by rw[Bk,BV]) rfl (Int.natCast_nonneg _) (by omega)) ?_;refine AOps.w rfl rfl (o_store Ag rfl rfl rfl rfl rfl rfl (by rw[Bk,BV]) (OB (by rw[BV];omega)) rfl (by decide) rfl Dy) ?_;refine wk 5 ?_;refine ax 57 (MT (hc:=(hput hNew 2 (.row false 1 [[A0 f.tk]]))) (hw:=(hput hNone 2 (.row false 1 [[A0 f.tk]]))) [2] [(2,(.row false 1 [[A0 f.tk]]))] rfl rfl Tryz.func150 (by kernel_rfl) rfl rfl rfl ⟨⟨_,rfl,rfl⟩,trivial⟩ rfl (AH rfl (BE _)) ⟨⟨_,rfl,rfl,rfl⟩,trivial⟩ rfl (Zu f.tk k (by omega) (by omega) hti (hf.ends k hhead))) ?_;refine ax 58 (Cn Ag rfl rfl rfl rfl rfl rfl (by decide) rfl rfl rfl rfl rfl rfl) ?_;refine ax 59 (o_append Ag (n:=(f.pathsTo k).length) (m:=1) rfl rfl rfl rfl rfl rfl rfl rfl rfl (by simp) rfl rfl (Nat.zero_lt_succ _) (.lst _ _) (by intro cs h;simp[partVals]at h;subst h;rfl) (fun _ cs h=>by simp[partVals]at h;subst h;rfl) rfl (by simp[partVals];show _*24<=_;omega) (by simp[partVals];simp only[maxLen];omega)) ?_
    refine wk 3 ?_;exact jS
   refine acf ?_;have hhead:f.headOf k=false:=by rw[hhd];simp_all
   refine wk 2 ?_;exact jS
  refine AOps.k 43 rfl rfl rfl ?_;refine AOps.k 44 rfl rfl rfl ?_;refine AOps.k 45 rfl rfl rfl ?_;refine AOps.k 46 rfl rfl rfl ?_;refine AOps.k 47 rfl rfl rfl ?_;refine wk 3 ?_;have hhead:f.headOf k=false:=by rw[hhd];simp_all
  refine wk 2 ?_;exact jS
 refine acf ?_;have hge:f.blocks.length<=k:=by simpa using hb1
 obtain rfl:k=f.blocks.length:=by omega
 refine wk 2 ?_;refine AGo.ghost (.freezeA 8 4 rfl rfl (by simp)) ?_;have hml:f.tpaths.length<=f.blocks.length:=DO f f.blocks.length;refine wk 5 ?_;refine dx 65 (AA Ag (n:=f.tpaths.length) (m:=f.tpaths.length) 5 true rfl rfl rfl (by simp[BFunc.tpaths]) (by simp[BFunc.tpaths]) rfl rfl rfl rfl rfl (Nat.zero_lt_succ _) rfl (Nat.le_refl _) (by show 56*f.tpaths.length<=_;have:=DO f f.blocks.length;have:f.tpaths.length<=f.blocks.length:=this;omega) (by have:=DO f f.blocks.length;have:f.tpaths.length<=f.blocks.length:=this;simp only[maxLen];omega)) ?_;refine wk 1 ?_;refine dx 12 (EO Ag 6) ?_;refine wk 10 ?_;refine Bh (γ:=Nat) 7 (fun k=>⟨119,(Aa (Aa (Aa (Aa (Aa (Aa (Aa (Aa A9 1 (.ptr 0 1 0 0)) 2 (.ptr 1 1 0 0)) 9 (.ref 3 f.blocks.length 0 f.blocks.length)) 8 (A2 f.tpaths)) 12 (.ptr 6 1 0 0)) 67 (A2 f.tpaths)) 68 (.int .i64 (f.tpaths.length:Int))) 69 (.int .i64 (k:Int))),(hput (hput (hput (hput (hput (BK 7) 0 (.row false 2 [f.cells])) 1 (.row false 2 [[.int .i64 0,.nil]])) 3 (.row true 1 (BI f.nums))) 5 (.row true 5 (((f.tpaths.map f.newBlock).take k).map Block.cells++List.replicate (f.tpaths.length-k) [.nil,.int .i64 0,.int .i64 0,.int .i64 0,.int .i64 0]))) 6 (.row false 2 [[.int .i64 f.regs,.ref 5 f.tpaths.length 0 f.tpaths.length]]))⟩) (fun k=>k<=f.tpaths.length) (fun k=>f.tpaths.length-k) 0 (Sub.mk' (by repeat(first | exact ESub.new _ | refine ESub.put ?_ (by first | rfl | exact congrArg (fun(n:Nat)=>some (AV.int .i64 (n:Int))) (by simp[BFunc.tpaths])))) (by repeat(first | exact HSub.none _ | exact AG _ | exact AE (by decide) | refine HSub.put ?_ (by rfl) | refine AF ?_ (by decide) | refine Bq ?_ (by decide)))) (Nat.zero_le _) (fun _=>Ah (Ah (Ah (Ah (Ah (fun b hb=>A8 hb) rfl) rfl) rfl) rfl) rfl) ?_
 intro k hk;refine wk 5 ?_;refine asp 70 (fun hb4=>?_) fun hb4=>?_
 .
  refine act ?_;have hkl:k<f.tpaths.length:=by simpa using hb4
  obtain⟨p,hp⟩:=Ae hkl;have hpm:=List.mem_of_getElem? hp;have hpin:=ID hle _ (Nat.le_refl _) p hpm;have hplen:0<p.length:=List.length_pos_iff.2 hpin.1;have hlast:=hpin.2 _ (KO hpin.1);have hbx:=By hlast;have hnb:(f.tpaths.map f.newBlock)[k]?=some (f.newBlock p):=by simp[hp]
  refine wk 6 ?_;refine aq 72 (Au Ag rfl rfl rfl rfl rfl rfl (Int.natCast_nonneg _) (AM (by assumption)) rfl) ?_;refine wk 11 ?_;refine dq 79 (AU (r:=.int .i64 ((p.length-1:Nat):Int)) rfl rfl rfl (by rw[List.length_map];exact Oq hplen (by have:=Fq _ p hpm;omega))) ?_;refine dq 80 (Au Ag rfl rfl rfl rfl rfl rfl (Int.natCast_nonneg _) (cs:=[.int .i64 (AO p)]) (by show(List.map (fun b=>[AV.int .i64 b]) p)[_]?=_;rw[Int.toNat_natCast,List.getElem?_map,T1 hpin.1];rfl) rfl) ?_;refine wk 1 ?_;refine dq 82 (Au Ag rfl rfl rfl rfl rfl rfl hlast.1 (IP (By hlast)) rfl) ?_;refine wk 1 ?_;refine dx 15 (EO Ag 7) ?_;refine wk 6 ?_;refine ax 86 (DQ Tryz.func151 (Zk f p hf.ins hpin (by have:=Fq _ p hpm;omega))) ?_;refine wk 10 ?_;refine EP 91 (fun hb5=>?_) fun hb5=>?_
  .
   refine AOps.k 92 rfl rfl rfl ?_;refine AOps.k 93 rfl rfl rfl ?_;refine AOps.k 94 rfl rfl rfl ?_;refine wk 3 ?_;have hto:=IL hle hbx (by simp_all);refine wk 4 ?_;refine aq 99 (Ab Ag rfl rfl rfl rfl rfl rfl rfl X7 rfl hto.1 (by omega)) ?_;refine aq 100 (At Ag rfl rfl rfl (.ptr _ _ _ _ _ _ _ _ rfl X7 (OB (by rw[show f.nums.length=f.blocks.length from BV f _];exact hto))) rfl) ?_;refine wk 10 ?_;refine asp 104 (fun hb6=>?_) fun hb6=>?_
   .
    exact jO
   refine wk 7 ?_;exact rf
  refine wk 5 ?_;refine asp 95 (fun hb7=>?_) fun hb7=>?_
  .
   refine act ?_;have hto:=IL hle hbx (by simp_all);refine wk 4 ?_;refine aq 99 (Ab Ag rfl rfl rfl rfl rfl rfl rfl X7 rfl hto.1 (by omega)) ?_;refine aq 100 (At Ag rfl rfl rfl (.ptr _ _ _ _ _ _ _ _ rfl X7 (OB (by rw[show f.nums.length=f.blocks.length from BV f _];exact hto))) rfl) ?_;refine wk 10 ?_;refine asp 104 (fun hb8=>?_) fun hb8=>?_
   .
    exact jO
   refine wk 7 ?_;exact rf
  refine wk 9 ?_;refine asp 104 (fun hb9=>?_) fun hb9=>?_
  .
   exact jO
  refine wk 7 ?_;exact rf
 refine acf ?_;have hge:f.tpaths.length<=k:=by simpa using hb4
 refine wk 2 ?_;refine AGo.ghost (.freezeCell 6 0 1 5 rfl rfl rfl rfl (AC (by simp:(f.tpaths.map f.newBlock).length=f.tpaths.length) hk) (by decide)) ?_;refine wk 7 ?_;refine⟨[_,_],⟨⟨_,_,_,_,rfl,rfl,.ptr _ _ _ _ _ _ _ _ rfl rfl rfl,rfl⟩,rfl,trivial⟩,?_,rfl⟩;have e1:=CQ (f:=Block.cells) (z:=[.nil,.int .i64 0,.int .i64 0,.int .i64 0,.int .i64 0]) (by simp:(f.tpaths.map f.newBlock).length=f.tpaths.length) hge;show AV.tup [.agg [_,.lst false _],_]=_;rw[e1];rfl
theorem Q1(op a b:Int)(hb:0<=b):APure Tryz.prog 103 [.int .i64 op,.int .u32 a,.int .u32 b] (fun r=>r=WL (Fc op a b)):=by
 refine APure.of_body (n:=18) Ag Tryz.func103 rfl rfl ?_;refine wk 11 ?_;refine asp 9 (fun hb1=>?_) fun hb1=>?_
 .
  refine wk 7 ?_;refine⟨[_,_],⟨rfl,rfl,trivial⟩,?_,rfl⟩;show AV.tup _=AV.tup _;simp[Fc, *]
 refine acf ?_;have hb0: ¬b=0:=by simpa using hb1
 refine wk 7 ?_;refine asp 11 (fun hb2=>?_) fun hb2=>?_
 .
  refine wk 5 ?_;refine aq 14 (AU (r:=.int .u32 (IntKind.u32.wrap (a.tdiv b))) rfl rfl rfl (by simp[AI,Bm,isShift,hb0])) ?_;refine wk 4 ?_;refine⟨[_,_],⟨rfl,rfl,trivial⟩,?_,rfl⟩;show AV.tup _=AV.tup _;simp[Fc, *]
 refine wk 6 ?_;refine aq 17 (AU (r:=.int .u32 (a.tmod b)) rfl rfl rfl (by simp[AI,Bm,isShift,hb0])) ?_;refine wk 4 ?_;refine⟨[_,_],⟨rfl,rfl,trivial⟩,?_,rfl⟩;show AV.tup _=AV.tup _;simp[Fc, *]
theorem Td(op a b:Int)(hb:0<=b):APure Tryz.prog 104 [.int .i64 op,.int .u32 a,.int .u32 b] (fun r=>r= .int .u32 (FA op a b)):=by
 refine APure.of_body (n:=19) Ag Tryz.func104 rfl rfl ?_;refine wk 12 ?_;refine asp 7 (fun hb1=>?_) fun hb1=>?_
 .
  refine wk 5 ?_;exact jG
 refine wk 7 ?_;refine asp 10 (fun hb2=>?_) fun hb2=>?_
 .
  refine wk 5 ?_;refine aq 15 (AU (r:=.int .u32 (IntKind.u32.wrap (a*2^(min b.toNat IntKind.u32.bits)))) rfl rfl rfl (by simp only[AI,Bm,isShift,cond_true,if_neg (show ¬b<0 by omega)])) ?_;refine wk 2 ?_;exact jG
 refine wk 6 ?_;refine aq 18 (AU (r:=.int .u32 (a.fdiv (2^(min b.toNat IntKind.u32.bits)))) rfl rfl rfl (by simp only[AI,Bm,isShift,cond_true,if_neg (show ¬b<0 by omega)])) ?_;refine wk 2 ?_;exact jG
theorem O5(op a b:Int)(hb:0<=b):APure Tryz.prog 105 [.int .i64 op,.int .u32 a,.int .u32 b] (fun r=>r= .int .u32 (Ha op a b)):=by
 refine APure.of_body (n:=23) Ag Tryz.func105 rfl rfl ?_;refine wk 16 ?_;refine EP 10 (fun hb1=>?_) fun hb1=>?_
 .
  refine wk 6 ?_;refine asp 7 (fun hb2=>?_) fun hb2=>?_
  .
   refine wk 7 ?_;exact U6
  refine wk 7 ?_;refine EP 18 (fun hb3=>?_) fun hb3=>?_
  .
   refine wk 6 ?_;refine asp 15 (fun hb4=>?_) fun hb4=>?_
   .
    refine wk 7 ?_;exact U6
   refine wk 7 ?_;exact U6
  refine wk 13 ?_;exact U6
 refine wk 13 ?_;refine EP 18 (fun hb5=>?_) fun hb5=>?_
 .
  refine wk 6 ?_;refine asp 15 (fun hb6=>?_) fun hb6=>?_
  .
   refine wk 7 ?_;exact U6
  refine wk 7 ?_;exact U6
 refine wk 13 ?_;exact U6
theorem ff(op a b:Int)(hb:0<=b):APure Tryz.prog 96 [.int .i64 op,.int .u32 a,.int .u32 b] (fun r=>r=WL (B3 op a b)):=by
 refine APure.of_body (n:=62) Ag Tryz.func96 rfl rfl ?_;refine wk 16 ?_;refine asp 9 (fun hb1=>?_) fun hb1=>?_
 .
  refine wk 10 ?_;exact Kj
 refine wk 6 ?_;refine asp 14 (fun hb2=>?_) fun hb2=>?_
 .
  refine wk 10 ?_;exact Kj
 refine wk 6 ?_;refine asp 19 (fun hb3=>?_) fun hb3=>?_
 .
  refine wk 10 ?_;exact Kj
 refine wk 7 ?_;refine asp 24 (fun hb4=>?_) fun hb4=>?_
 .
  refine wk 8 ?_;refine ax 30 (DQ Tryz.func103 (Q1 _ _ _ hb)) ?_;refine wk 6 ?_;exact Kj
 refine wk 5 ?_;refine asp 24 (fun hb5=>?_) fun hb5=>?_
 .
  refine wk 6 ?_;refine ax 30 (DQ Tryz.func103 (Q1 _ _ _ hb)) ?_;refine wk 6 ?_;exact Kj
 refine wk 6 ?_;refine asp 33 (fun hb6=>?_) fun hb6=>?_
 .
  refine wk 10 ?_;exact Kj
 refine wk 6 ?_;refine asp 38 (fun hb7=>?_) fun hb7=>?_
 .
  refine wk 10 ?_;exact Kj
 refine wk 6 ?_;refine asp 43 (fun hb8=>?_) fun hb8=>?_
 .
  refine wk 10 ?_;exact Kj
 refine wk 7 ?_;refine asp 48 (fun hb9=>?_) fun hb9=>?_
 .
  refine wk 8 ?_;refine ax 54 (DQ Tryz.func104 (Td _ _ _ hb)) ?_;refine wk 4 ?_;exact Kj
 refine wk 5 ?_;refine asp 48 (fun hb10=>?_) fun hb10=>?_
 .
  refine wk 6 ?_;refine ax 54 (DQ Tryz.func104 (Td _ _ _ hb)) ?_;refine wk 4 ?_;exact Kj
 refine wk 7 ?_;refine asp 55 (fun hb11=>?_) fun hb11=>?_
 .
  refine wk 8 ?_;refine ax 61 (DQ Tryz.func105 (O5 _ _ _ hb)) ?_;refine wk 4 ?_;exact Kj
 refine wk 5 ?_;refine asp 55 (fun hb12=>?_) fun hb12=>?_
 .
  refine wk 6 ?_;refine ax 61 (DQ Tryz.func105 (O5 _ _ _ hb)) ?_;refine wk 4 ?_;exact Kj
 refine wk 8 ?_;exact Kj
theorem Zs(t:Tac)(K:CF)(hK:Lc K):ACall Tryz.prog 76 [.agg t.cells,.map 0] (hput hNew 0 (.map (kvs .i64 (nm K)))) (fun r h'=>r= .tup [.int .u32 (DD t K).1,.bool (DD t K).2]/\HSub (hput hNone 0 (.map (kvs .i64 (nm K)))) h'):=by
 refine ACall.of_body (n:=60) Ag Tryz.func76 rfl rfl ?_;refine MJ ?_;refine ax 2 (GJ 8 1) ?_;refine wk 15 ?_;refine asp 16 (fun hb1=>?_) fun hb1=>?_
 .
  refine wk 6 ?_;refine aq 22 (Lx Ag rfl rfl rfl rfl rfl rfl rfl rfl (by kernel_rfl)) ?_;refine wk 14 ?_;exact aC
 refine wk 6 ?_;refine asp 27 (fun hb2=>?_) fun hb2=>?_
 .
  refine wk 6 ?_;refine aq 33 (Lx Ag rfl rfl rfl rfl rfl rfl rfl rfl (by kernel_rfl)) ?_;refine wk 11 ?_;refine aq 40 (Lx Ag rfl rfl rfl rfl rfl rfl rfl rfl (by kernel_rfl)) ?_;refine wk 12 ?_;refine EP 45 (fun hb3=>?_) fun hb3=>?_
  .
   refine AOps.k 46 rfl rfl rfl ?_;refine AOps.k 47 rfl rfl rfl ?_;refine wk 9 ?_;exact aC
  refine wk 4 ?_;refine asp 48 (fun hb4=>?_) fun hb4=>?_
  .
   refine wk 7 ?_;exact aC
  refine wk 8 ?_;refine ax 54 (DQ Tryz.func96 (ff _ _ _ (RQ hK _).1)) ?_;refine wk 15 ?_;exact aC
 refine wk 8 ?_;exact aC
theorem Zv(l:List Tac)(hl:Il l)(hn:l.length<=100000):APure Tryz.prog 56 [Ea l] (fun r=>r=Ea (DI [] l)):=by
 refine APure.of_body (n:=51) Ag Tryz.func56 rfl rfl ?_;refine wk 6 ?_;refine ax 10 (Js .i64 0 rfl rfl) ?_;refine wk 6 ?_;refine ax 13 (AA Ag (n:=l.length) (m:=l.length) 1 true rfl rfl rfl (by simp) (by simp) rfl rfl rfl rfl rfl (Nat.zero_lt_succ _) rfl (Nat.le_refl _) (by show 64*l.length<=_;omega) (by simp only[maxLen];omega)) ?_;refine wk 10 ?_;refine Bh (γ:=Nat) 2 (fun k=>⟨51,(Aa (Aa (Aa (Aa (Aa A9 3 (.map 0)) 4 (.ref 1 l.length 0 l.length)) 14 (Ea l)) 15 (.int .i64 (l.length:Int))) 16 (.int .i64 (k:Int))),(hput (hput (BK 2) 0 (.map (kvs .i64 (nm (fknow l k))))) 1 (.row true 8 (((DI [] l).take (k)).map Tac.cells++List.replicate (l.length-(k)) [.int .i64 0,.int .i64 0,.int .i64 0,.int .i64 0,.int .i64 0,.int .i64 0,.int .i64 0,.int .u32 0])))⟩) (fun k=>k<=l.length) (fun k=>l.length-k) 0 (Sub.mk' Et (by repeat(first | exact HSub.none _ | exact AG _ | exact AE (by decide) | refine HSub.put ?_ (by first | rfl |(simp;rfl)) | refine AF ?_ (by decide)))) (Nat.zero_le _) (fun _=>Ah (Ah (fun b hb=>A8 hb) rfl) rfl) ?_
 intro k hk;refine wk 5 ?_;refine asp 17 (fun hb1=>?_) fun hb1=>?_
 .
  refine act ?_;have hkl:k<l.length:=by simpa using hb1
  obtain⟨x,hx⟩:=Ae hkl;refine wk 6 ?_;refine aq 19 (Au Ag rfl rfl rfl rfl rfl rfl (Int.natCast_nonneg _) (AM (by assumption)) rfl) ?_;refine wk 1 ?_;refine ax 6 (EO Ag 2) ?_;refine wk 8 ?_;refine ax 24 (VZ (Zs x (fknow l k) (XJ hl k)) [0] [] rfl Tryz.func76 (by kernel_rfl) rfl rfl rfl ⟨⟨_,rfl,rfl⟩,trivial⟩ rfl (AH rfl (BE _)) ⟨⟨_,rfl,rfl,rfl⟩,trivial⟩ rfl) ?_;refine wk 6 ?_;refine AGo.join (γ:=Tac) (fun u=>⟨51,(Aa (Aa (Aa (Aa (Aa (Aa (Aa A9 3 (.map 0)) 4 (.ref 1 l.length 0 l.length)) 14 (Ea l)) 15 (.int .i64 (l.length:Int))) 16 (.int .i64 (k:Int))) 5 (.int .i64 (k:Int))) 6 (.ptr 2 1 0 0)),(hput (hput (hput (BK 3) 0 (.map (kvs .i64 (nm (fknow l k))))) 1 (.row true 8 (((DI [] l).take (k)).map Tac.cells++List.replicate (l.length-(k)) [.int .i64 0,.int .i64 0,.int .i64 0,.int .i64 0,.int .i64 0,.int .i64 0,.int .i64 0,.int .u32 0]))) 2 (.row false 8 [u.cells]))⟩) (fun u=>u=Dc (fknow l k) x) ?_ ?_
  .
   refine wk 4 ?_;refine asp 27 (fun hb2=>?_) fun hb2=>?_
   .
    refine wk 8 ?_;exact⟨(KP x.d (DD x (fknow l k)).1),Sub.mk' Cf Rc,(by simp[Dc, *])⟩
   refine wk 2 ?_;exact⟨x,Sub.mk' Cf Rc,(by simp[Dc, *])⟩
  intro u hu;refine wk 5 ?_;refine aq 35 (Ab Ag rfl rfl rfl rfl rfl rfl rfl (AC (BO l []) (Nat.le_of_lt hkl)) rfl (Int.natCast_nonneg _) (by omega)) ?_;refine AOps.w rfl rfl (o_store Ag rfl rfl rfl rfl rfl rfl (AC (BO l []) (Nat.le_of_lt hkl)) (fill_get (BO l []) hkl) rfl (by decide) rfl Dy) ?_;refine wk 4 ?_;refine ax 37 (DQ Tryz.func77 (La _)) ?_;refine wk 8 ?_;refine asp 39 (fun hb3=>?_) fun hb3=>?_
  .
   refine wk 3 ?_;exact jQ
  refine wk 8 ?_;refine asp 42 (fun hb4=>?_) fun hb4=>?_
  .
   refine wk 6 ?_;refine AOps.w rfl rfl (RV Ag rfl rfl rfl rfl rfl rfl rfl rfl rfl rfl) ?_;refine wk 2 ?_;exact jQ
  refine wk 4 ?_;refine AOps.w rfl rfl (o_deleteW Ag rfl rfl rfl rfl rfl rfl rfl rfl rfl) ?_;refine wk 2 ?_;exact jQ
 refine acf ?_;have hge:l.length<=k:=by simpa using hb1
 refine wk 6 ?_;refine AGo.ghost (.freeze 2 1 rfl rfl (AC (BO l []) hk)) ?_;refine FZ ⟨[_],⟨rfl,trivial⟩,?_,rfl⟩;show AV.lst false _=AV.lst false _;rw[CQ (BO l []) hge]
theorem Zx(f:BFunc)(hf:f.mild):APure Tryz.prog 41 [.agg f.cells] (fun r=>r= .tup [.agg f.fold.cells,.agg f.all.cells]):=by
 refine APure.of_body (n:=59) Ag Tryz.func41 rfl rfl ?_;refine MJ ?_;refine ax 1 (GJ 2 0) ?_;refine ax 2 (EO Ag 1) ?_;refine ax 3 (EO Ag 2) ?_;refine wk 8 ?_;refine dx 15 (AA Ag (n:=f.blocks.length) (m:=f.blocks.length) 3 true rfl rfl rfl (by simp) (by simp) rfl rfl rfl rfl rfl (Nat.zero_lt_succ _) rfl (Nat.le_refl _) (by show 56*f.blocks.length<=_;have:=hf.2.2.1;omega) (by simp only[maxLen];have:=hf.2.2.1;omega)) ?_;refine wk 1 ?_;refine dx 4 (EO Ag 4) ?_;refine wk 7 ?_;refine ax 20 (AA Ag (n:=f.blocks.length) (m:=f.blocks.length) 5 true rfl rfl rfl (by simp) (by simp) rfl rfl rfl rfl rfl (Nat.zero_lt_succ _) rfl (Nat.le_refl _) (by show 24*f.blocks.length<=_;have:=hf.2.2.1;omega) (by simp only[maxLen];have:=hf.2.2.1;omega)) ?_;refine wk 1 ?_;refine ax 5 (EO Ag 6) ?_;refine wk 11 ?_;refine Bh (γ:=Nat) 7 (fun k=>⟨59,(Aa (Aa (Aa (Aa (Aa (Aa (Aa (Aa A9 1 (.ptr 0 1 0 0)) 2 (.ptr 1 1 0 0)) 3 (.ptr 2 1 0 0)) 4 (.ptr 4 1 0 0)) 5 (.ptr 6 1 0 0)) 23 (B6 f.blocks)) 24 (.int .i64 (f.blocks.length:Int))) 25 (.int .i64 (k:Int))),(hput (hput (hput (hput (hput (hput (hput (BK 7) 0 (.row false 2 [f.cells])) 1 (.row false 2 [[.int .i64 0,.nil]])) 2 (.row false 1 [[.nil]])) 4 (.row false 2 [[.int .i64 f.regs,.ref 3 f.blocks.length 0 f.blocks.length]])) 6 (.row false 1 [[.ref 5 f.blocks.length 0 f.blocks.length]])) 3 (.row true 5 ((((f.blocks.map Block.fold).take (k)).map Block.cells)++List.replicate (f.blocks.length-(k)) [.nil,.int .i64 0,.int .i64 0,.int .i64 0,.int .i64 0]))) 5 (.row true 1 ((((List.replicate f.blocks.length (List.replicate f.regs.toNat true)).take (k)).map CW)++List.replicate (f.blocks.length-(k)) [.nil])))⟩) (fun k=>k<=f.blocks.length) (fun k=>f.blocks.length-k) 0 (Sub.mk' Et Rc) (Nat.zero_le _) (fun _=>Ah (Ah (Ah (Ah (Ah (Ah (Ah (fun b hb=>A8 hb) rfl) rfl) rfl) rfl) rfl) rfl) rfl) ?_
 intro k hk;refine wk 5 ?_;refine asp 26 (fun hb1=>?_) fun hb1=>?_
 .
  refine act ?_;have hkl:k<f.blocks.length:=by simpa using hb1
  obtain⟨x,hx⟩:=Ae hkl;refine wk 6 ?_;refine aq 28 (Au Ag rfl rfl rfl rfl rfl rfl (Int.natCast_nonneg _) (AM (by assumption)) rfl) ?_;refine wk 1 ?_;refine ax 7 (EO Ag 7) ?_;refine wk 7 ?_;refine ax 32 (DQ Tryz.func56 (Zv _ (hf.2.2.2 x (List.mem_of_getElem? hx)).2 (hf.2.2.2 x (List.mem_of_getElem? hx)).1)) ?_;refine wk 9 ?_;refine aq 38 (Ab Ag rfl rfl rfl rfl rfl rfl rfl (AC (by simp:(f.blocks.map Block.fold).length=f.blocks.length) (Nat.le_of_lt hkl)) rfl (Int.natCast_nonneg _) (by omega)) ?_;refine AOps.w rfl rfl (o_store Ag rfl rfl rfl rfl rfl rfl (AC (by simp:(f.blocks.map Block.fold).length=f.blocks.length) (Nat.le_of_lt hkl)) (fill_get (by simp:(f.blocks.map Block.fold).length=f.blocks.length) hkl) rfl (by decide) rfl Dy) ?_;refine wk 5 ?_;refine ax 41 (AA Ag (n:=f.regs.toNat) (m:=f.regs.toNat) 8 true rfl rfl rfl (by have:=hf.1;omega) (by have:=hf.1;omega) rfl rfl rfl rfl rfl (Nat.zero_lt_succ _) rfl (Nat.le_refl _) (by show 1*f.regs.toNat<=_;have:=hf.2.1;omega) (by simp only[maxLen];have:=hf.2.1;omega)) ?_
  refine wk 10 ?_;refine Bh (γ:=Nat) 9 (fun j=>⟨59,(Aa (Aa (Aa (Aa (Aa (Aa (Aa (Aa (Aa (Aa (Aa (Aa A9 1 (.ptr 0 1 0 0)) 2 (.ptr 1 1 0 0)) 3 (.ptr 2 1 0 0)) 4 (.ptr 4 1 0 0)) 5 (.ptr 6 1 0 0)) 23 (B6 f.blocks)) 24 (.int .i64 (f.blocks.length:Int))) 25 (.int .i64 (k:Int))) 6 (.int .i64 (k:Int))) 8 (.ref 8 f.regs.toNat 0 f.regs.toNat)) 43 (.int .i64 (f.regs.toNat:Int))) 44 (.int .i64 (j:Int))),(hput (hput (hput (hput (hput (hput (hput (hput (BK 9) 0 (.row false 2 [f.cells])) 1 (.row false 2 [[.int .i64 0,.nil]])) 2 (.row false 1 [[.nil]])) 4 (.row false 2 [[.int .i64 f.regs,.ref 3 f.blocks.length 0 f.blocks.length]])) 6 (.row false 1 [[.ref 5 f.blocks.length 0 f.blocks.length]])) 3 (.row true 5 (((f.blocks.map Block.fold).take (k+1)).map Block.cells++List.replicate (f.blocks.length-(k+1)) [.nil,.int .i64 0,.int .i64 0,.int .i64 0,.int .i64 0]))) 5 (.row true 1 ((((List.replicate f.blocks.length (List.replicate f.regs.toNat true)).take (k)).map CW)++List.replicate (f.blocks.length-(k)) [.nil]))) 8 (.row true 1 ((((List.replicate f.regs.toNat true).take (j)).map A5)++List.replicate (f.regs.toNat-(j)) [.bool false])))⟩) (fun j=>j<=f.regs.toNat) (fun j=>f.regs.toNat-j) 0 (Sub.mk' Cf (by repeat(first | exact HSub.none _ | exact AG _ | exact AE (by decide) | refine HSub.put ?_ (by first | rfl | exact congrArg (fun es=>some (AObj.row true 5 es)) (BR (f:=Block.cells) (x:=x.fold) (by simp:(f.blocks.map Block.fold).length=f.blocks.length) (by simp[hx]))) | refine AF ?_ (by decide)))) (Nat.zero_le _) (fun _=>Ah (Ah (Ah (Ah (Ah (Ah (Ah (Ah (fun b hb=>A8 hb) rfl) rfl) rfl) rfl) rfl) rfl) rfl) rfl) ?_
  intro j hj;refine wk 5 ?_;refine asp 45 (fun hb2=>?_) fun hb2=>?_
  .
   refine act ?_;have hjl:j<f.regs.toNat:=by have h:=hb2;simp at h;omega
   refine wk 11 ?_;refine aq 49 (Ab Ag rfl rfl rfl rfl rfl rfl rfl (AC (by simp:(List.replicate f.regs.toNat true).length=f.regs.toNat) (Nat.le_of_lt hjl)) rfl (Int.natCast_nonneg _) (by omega)) ?_;refine AOps.w rfl rfl (o_store Ag rfl rfl rfl rfl rfl rfl (AC (by simp:(List.replicate f.regs.toNat true).length=f.regs.toNat) (Nat.le_of_lt hjl)) (fill_get (by simp:(List.replicate f.regs.toNat true).length=f.regs.toNat) hjl) rfl (by decide) rfl Dy) ?_;refine wk 2 ?_;refine aq 50 (Bj rfl rfl hjl (by simp only[maxLen];have:=hf.2.1;omega)) ?_;refine wk 2 ?_;exact mx
  refine acf ?_;have hge2:f.regs.toNat<=j:=by have h:=hb2;simp at h;omega
  refine wk 1 ?_;refine AGo.ghost (.freeze 8 8 rfl rfl (AC (by simp:(List.replicate f.regs.toNat true).length=f.regs.toNat) hj)) ?_;refine wk 5 ?_;refine aq 55 (Ab Ag rfl rfl rfl rfl rfl rfl rfl (AC (by simp:(List.replicate f.blocks.length (List.replicate f.regs.toNat true)).length=f.blocks.length) (Nat.le_of_lt hkl)) rfl (Int.natCast_nonneg _) (by omega)) ?_;refine AOps.w rfl rfl (o_store Ag rfl rfl rfl rfl rfl rfl (AC (by simp:(List.replicate f.blocks.length (List.replicate f.regs.toNat true)).length=f.blocks.length) (Nat.le_of_lt hkl)) (fill_get (by simp:(List.replicate f.blocks.length (List.replicate f.regs.toNat true)).length=f.blocks.length) hkl) rfl (by decide) rfl Dy) ?_;refine wk 2 ?_;refine aq 56 (Bj rfl rfl hkl (by simp only[maxLen];have:=hf.2.2.1;omega)) ?_;refine wk 2 ?_;exact⟨k+1,Drop.mk' Ra (by repeat(first | exact HDrop.none _ _ | exact HDrop.tail _ _ | refine HDrop.put ?_ (by first | rfl | exact congrArg (fun es=>some (AObj.row true 5 es)) (BR (f:=Block.cells) (x:=x.fold) (by simp:(f.blocks.map Block.fold).length=f.blocks.length) (by simp[hx])) | exact congrArg (fun es=>some (AObj.row true 1 es)) (by rw[<-BR (f:=CW) (x:=List.replicate f.regs.toNat true) (by simp:(List.replicate f.blocks.length (List.replicate f.regs.toNat true)).length=f.blocks.length) (by simp[hkl])];exact congrArg (fun b=>List.set _ _ [AV.lst false b]) (CQ (f:=A5) (by simp:(List.replicate f.regs.toNat true).length=f.regs.toNat) hge2))) rfl rfl)),hkl,by omega⟩
 refine acf ?_;have hge:f.blocks.length<=k:=by simpa using hb1
 refine wk 2 ?_;refine AGo.ghost (.freezeCell 4 0 1 3 rfl rfl rfl rfl (AC (by simp:(f.blocks.map Block.fold).length=f.blocks.length) hk) (by decide)) ?_;refine AGo.ghost (.freezeCell 6 0 0 5 rfl rfl rfl rfl (AC (by simp:(List.replicate f.blocks.length (List.replicate f.regs.toNat true)).length=f.blocks.length) hk) (by decide)) ?_;refine wk 7 ?_;refine⟨[_,_],⟨⟨_,_,_,_,rfl,rfl,.ptr _ _ _ _ _ _ _ _ rfl rfl rfl,rfl⟩,⟨_,_,_,_,rfl,rfl,.ptr _ _ _ _ _ _ _ _ rfl rfl rfl,rfl⟩,trivial⟩,?_,rfl⟩;have e1:=CQ (f:=Block.cells) (z:=[.nil,.int .i64 0,.int .i64 0,.int .i64 0,.int .i64 0]) (by simp:(f.blocks.map Block.fold).length=f.blocks.length) hge;exact md
theorem cu(b:Blocks)(ks:List Int)(G:BFunc->Int->OPass)(I:BFunc->Prop)(hL:b.Lim)(hks:ks.length<=20)(hv: ∀k∈ks,kind35 k=true)(hI0: ∀f∈b.funcs,I f)(hS: ∀f,I f->∀k∈ks,I (G f k).f/\APure Tryz.prog 21 [.agg f.cells,.int .i64 k] (fun r=>r= .tup [.agg (G f k).f.cells,.agg (G f k).cells,.int .i64 0])):APure Tryz.prog 15 [.agg b.cells,A0 ks] (fun r=>r= .tup [.agg (⟨b.words,b.funcs.map (M4 G ks)⟩:Blocks).cells,V5 (b.funcs.map (FF G ks)),.int .i64 0]):=by
 refine APure.of_body (n:=90) Ag Tryz.func15 rfl rfl ?_;refine MJ ?_;refine ax 2 (GJ 2 0) ?_;refine ax 4 (EO Ag 1) ?_;refine wk 10 ?_;refine asp 19 (fun hb1=>?_) fun hb1=>?_
 .
  refine wk 9 ?_;exfalso;simp_all;omega
 refine wk 10 ?_;refine Bh (γ:=Nat) 2 (fun k=>⟨90,(Aa (Aa (Aa (Aa (Aa (Aa (Aa (Aa A9 1 (A0 ks)) 2 (.ptr 0 1 0 0)) 4 (.ptr 1 1 0 0)) 5 .nil) 6 (.int .i64 0)) 21 (A0 ks)) 22 (.int .i64 (ks.length:Int))) 23 (.int .i64 (k:Int))),(hput (hput (BK 2) 0 (.row false 2 [b.cells])) 1 (.row false 2 [[.int .i64 0,.nil]]))⟩) (fun k=>True) (fun k=>ks.length-k) 0 (Sub.mk' Et Fz) trivial (fun _=>Ah (Ah (fun b hb=>A8 hb) rfl) rfl) ?_;intro k _;refine wk 5 ?_;refine asp 24 (fun hb2=>?_) fun hb2=>?_
 .
  refine act ?_;have hkl:k<ks.length:=by have h:=hb2;simp at h;omega
  obtain⟨q,hq⟩:=Ae hkl;refine wk 5 ?_;refine aq 25 (MH Ag (AM hq)) ?_;refine wk 6 ?_;refine ax 29 (DQ Tryz.func31 (XK _)) ?_;refine wk 11 ?_;refine asp 33 (fun hb3=>?_) fun hb3=>?_
  .
   refine wk 9 ?_;exfalso;have h:=hv q (List.mem_of_getElem? hq);simp_all
  refine wk 3 ?_;refine aq 35 (Bj rfl rfl hkl (by simp only[maxLen];omega)) ?_;refine wk 2 ?_;exact⟨k+1,Drop.mk' SR Re,trivial,by omega⟩
 refine acf ?_
 skip
 refine wk 8 ?_;refine dx 41 (AA Ag (n:=b.funcs.length) (m:=b.funcs.length) 2 true rfl rfl rfl (by simp) (by simp) rfl rfl rfl rfl rfl (Nat.zero_lt_succ _) rfl (Nat.le_refl _) (by show 32*b.funcs.length<=_;have:=hL.n;omega) (by simp only[maxLen];have:=hL.n;omega)) ?_;refine wk 1 ?_;refine dx 11 (EO Ag 3) ?_;refine wk 7 ?_;refine ax 46 (AA Ag (n:=b.funcs.length) (m:=b.funcs.length) 4 false rfl rfl rfl (by simp) (by simp) rfl rfl rfl rfl rfl (Nat.zero_lt_succ _) rfl (Nat.le_refl _) (by show 24*b.funcs.length<=_;have:=hL.n;omega) (by simp only[maxLen];have:=hL.n;omega)) ?_;refine wk 11 ?_;refine Bh (γ:=Nat) 5 (fun k=>⟨90,(Aa (Aa (Aa (Aa (Aa (Aa (Aa (Aa A9 1 (A0 ks)) 2 (.ptr 0 1 0 0)) 4 (.ptr 1 1 0 0)) 11 (.ptr 3 1 0 0)) 12 (.ref 4 b.funcs.length 0 b.funcs.length)) 48 (FY b.funcs)) 49 (.int .i64 (b.funcs.length:Int))) 50 (.int .i64 (k:Int))),(hput (hput (hput (hput (hput (BK 5) 0 (.row false 2 [b.cells])) 1 (.row false 2 [[.int .i64 0,.nil]])) 2 (.row true 2 ((((b.funcs.map (M4 G ks)).take (k)).map BFunc.cells)++List.replicate (b.funcs.length-(k)) [AV.int .i64 0,AV.nil]))) 3 (.row false 2 [[.int .i64 b.words,.ref 2 b.funcs.length 0 b.funcs.length]])) 4 (.row false 1 ((((b.funcs.map (FF G ks)).take (k)).map (fun x=>[C3 x]))++List.replicate (b.funcs.length-(k)) [AV.nil])))⟩) (fun k=>k<=b.funcs.length) (fun k=>b.funcs.length-k) 0 (Sub.mk' Et Fz) (Nat.zero_le _) (fun _=>Ah (Ah (Ah (Ah (Ah (fun b hb=>A8 hb) rfl) rfl) rfl) rfl) rfl) ?_
 intro k hk;refine wk 5 ?_;refine asp 51 (fun hb4=>?_) fun hb4=>?_
 .
  refine act ?_;have hkl:k<b.funcs.length:=by have h:=hb4;simp at h;omega
  obtain⟨f,hf⟩:=Ae hkl;have hfI:=hI0 f (List.mem_of_getElem? hf);refine wk 6 ?_;refine aq 53 (MH Ag (AM hf)) ?_;refine wk 1 ?_;refine ax 14 (EO Ag 5) ?_;refine wk 9 ?_;refine ax 59 (AA Ag (n:=ks.length) (m:=ks.length) 6 true rfl rfl rfl (by simp) (by simp) rfl rfl rfl rfl rfl (Nat.zero_lt_succ _) rfl (Nat.le_refl _) (by show 88*ks.length<=_;omega) (by simp only[maxLen];omega)) ?_;refine aq 60 (Ab Ag rfl rfl rfl rfl rfl rfl rfl (AC (by simp:(b.funcs.map (FF G ks)).length=b.funcs.length) (Nat.le_of_lt hkl)) rfl (Int.natCast_nonneg _) (by omega)) ?_;refine AOps.w rfl rfl (o_store Ag rfl rfl rfl rfl rfl rfl (AC (by simp:(b.funcs.map (FF G ks)).length=b.funcs.length) (Nat.le_of_lt hkl)) (fill_get (by simp:(b.funcs.map (FF G ks)).length=b.funcs.length) hkl) rfl (by decide) rfl Dy) ?_;refine wk 9 ?_;refine Bh (γ:=Nat) 7 (fun j=>⟨90,(Aa (Aa (Aa (Aa (Aa (Aa (Aa (Aa (Aa (Aa (Aa (Aa (Aa A9 1 (A0 ks)) 2 (.ptr 0 1 0 0)) 4 (.ptr 1 1 0 0)) 11 (.ptr 3 1 0 0)) 12 (.ref 4 b.funcs.length 0 b.funcs.length)) 48 (FY b.funcs)) 49 (.int .i64 (b.funcs.length:Int))) 50 (.int .i64 (k:Int))) 13 (.int .i64 (k:Int))) 14 (.ptr 5 1 0 0)) 61 (A0 ks)) 62 (.int .i64 (ks.length:Int))) 63 (.int .i64 (j:Int))),(hput (hput (hput (hput (hput (hput (hput (BK 7) 0 (.row false 2 [b.cells])) 1 (.row false 2 [[.int .i64 0,.nil]])) 2 (.row true 2 ((((b.funcs.map (M4 G ks)).take (k)).map BFunc.cells)++List.replicate (b.funcs.length-(k)) [AV.int .i64 0,AV.nil]))) 3 (.row false 2 [[.int .i64 b.words,.ref 2 b.funcs.length 0 b.funcs.length]])) 4 (.row false 1 (((((b.funcs.map (FF G ks)).take (k)).map (fun x=>[C3 x]))++List.replicate (b.funcs.length-(k)) [AV.nil]).set (0+((k:Nat):Int).toNat) [AV.ref 6 ks.length 0 ks.length]))) 5 (.row false 2 [(M4 G (ks.take j) f).cells])) 6 (.row true 5 ((((FF G ks f).take j).map OPass.cells)++List.replicate (ks.length-j) [AV.int .i64 0,AV.nil,AV.nil,AV.int .i64 0,AV.nil])))⟩) (fun j=>j<=ks.length/\I (M4 G (ks.take j) f)) (fun j=>ks.length-j) 0 (Sub.mk' Et Fz) ⟨Nat.zero_le _,hfI⟩ (fun _=>Ah (Ah (Ah (Ah (Ah (Ah (Ah (fun b hb=>A8 hb) rfl) rfl) rfl) rfl) rfl) rfl) rfl) ?_
  intro j hJ;refine wk 5 ?_;refine asp 64 (fun hb5=>?_) fun hb5=>?_
  .
   refine act ?_;have hjl:j<ks.length:=by have h:=hb5;simp at h;omega
   obtain⟨q,hq⟩:=Ae hjl;have hqs:=hS _ hJ.2 q (List.mem_of_getElem? hq);refine wk 6 ?_;refine aq 66 (MH Ag (AM hq)) ?_;refine wk 7 ?_;refine dq 71 (Ab Ag rfl rfl rfl rfl rfl rfl rfl (K0 (by simp:(b.funcs.map (FF G ks)).length=b.funcs.length) (Nat.le_of_lt hkl)) rfl (Int.natCast_nonneg _) (by omega)) ?_;refine dq 72 (At Ag rfl rfl rfl (.ptr _ _ _ _ _ _ _ _ rfl (K0 (by simp:(b.funcs.map (FF G ks)).length=b.funcs.length) (Nat.le_of_lt hkl)) (K1 (by simp:(b.funcs.map (FF G ks)).length=b.funcs.length) hkl)) rfl) ?_;refine wk 3 ?_;refine dx 76 (DQ Tryz.func21 ((hS _ hJ.2 q (List.mem_of_getElem? hq)).2)) ?_;refine wk 5 ?_;refine dq 80 (Ab Ag rfl rfl rfl rfl rfl rfl rfl (AC (Gn G ks f) (Nat.le_of_lt hjl)) rfl (Int.natCast_nonneg _) (by omega)) ?_;refine DOps.w rfl rfl (o_store Ag rfl rfl rfl rfl rfl rfl (AC (Gn G ks f) (Nat.le_of_lt hjl)) (fill_get (Gn G ks f) hjl) rfl (by decide) rfl Dy) ?_
   refine wk 2 ?_;refine aq 81 (Bj rfl rfl hjl (by simp only[maxLen];omega)) ?_;refine wk 2 ?_;exact⟨j+1,Drop.mk' SR (by repeat(first | exact HDrop.none _ _ | exact HDrop.tail _ _ | refine HDrop.put ?_ (by first | rfl | exact congrArg (fun x=>some (AObj.row false 2 [BFunc.cells x])) (OP hq).symm | exact congrArg (fun es=>some (AObj.row true 5 es)) (BR (f:=OPass.cells) (x:=G (M4 G (ks.take j) f) q) (Gn G ks f) (TE hq))) rfl (by first | rfl | exact J1 | exact Mj rfl))),⟨hjl,by rw[OP hq];exact hqs.1⟩,by omega⟩
  refine acf ?_;have hge2:ks.length<=j:=by have h:=hb5;simp at h;omega
  refine wk 1 ?_;refine AGo.ghost (.freezeCell 4 (0+((k:Nat):Int).toNat) 0 6 rfl (K1 (by simp:(b.funcs.map (FF G ks)).length=b.funcs.length) hkl) rfl rfl (AC (Gn G ks f) hJ.1) (by decide)) ?_;have hrow:(((((b.funcs.map (FF G ks)).take (k)).map (fun x=>[C3 x]))++List.replicate (b.funcs.length-(k)) [AV.nil]).set (0+((k:Nat):Int).toNat) [AV.ref 6 ks.length 0 ks.length]).set (0+((k:Nat):Int).toNat) ([AV.ref 6 ks.length 0 ks.length].set 0 (.lst false ((((((FF G ks f).take j).map OPass.cells)++List.replicate (ks.length-j) [AV.int .i64 0,AV.nil,AV.nil,AV.int .i64 0,AV.nil]).drop 0).take ks.length)))=((((b.funcs.map (FF G ks)).take (k+1)).map (fun x=>[C3 x]))++List.replicate (b.funcs.length-(k+1)) [AV.nil]):=by
   rw[Vv,CQ (Gn G ks f) hge2];exact BR (f:=fun x=>[C3 x]) (x:=FF G ks f) (by simp:(b.funcs.map (FF G ks)).length=b.funcs.length) (by rw[List.getElem?_map,hf];rfl)
  rw[hrow,List.take_of_length_le hge2];refine wk 5 ?_;refine aq 86 (Ab Ag rfl rfl rfl rfl rfl rfl rfl (AC (by simp:(b.funcs.map (M4 G ks)).length=b.funcs.length) (Nat.le_of_lt hkl)) rfl (Int.natCast_nonneg _) (by omega)) ?_;refine AOps.w rfl rfl (o_store Ag rfl rfl rfl rfl rfl rfl (AC (by simp:(b.funcs.map (M4 G ks)).length=b.funcs.length) (Nat.le_of_lt hkl)) (fill_get (by simp:(b.funcs.map (M4 G ks)).length=b.funcs.length) hkl) rfl (by decide) rfl Dy) ?_;refine wk 2 ?_;refine aq 87 (Bj rfl rfl hkl (by simp only[maxLen];have:=hL.n;omega)) ?_;refine wk 2 ?_;exact⟨k+1,Drop.mk' SR (by repeat(first | exact HDrop.none _ _ | exact HDrop.tail _ _ | refine HDrop.put ?_ (by first | rfl | exact congrArg (fun es=>some (AObj.row true 2 es)) (BR (f:=BFunc.cells) (x:=M4 G ks f) (by simp:(b.funcs.map (M4 G ks)).length=b.funcs.length) (by rw[List.getElem?_map,hf];rfl)) | exact congrArg (fun es=>some (AObj.row false 1 es)) hrow) rfl (by first | rfl | exact J1 | exact Mj rfl))),hkl,by omega⟩
 refine acf ?_;have hge:b.funcs.length<=k:=by have h:=hb4;simp at h;omega
 refine wk 2 ?_;refine AGo.ghost (.freezeCell 3 0 1 2 rfl rfl rfl rfl (AC (by simp:(b.funcs.map (M4 G ks)).length=b.funcs.length) hk) (by decide)) ?_;rw[CQ (by simp:(b.funcs.map (M4 G ks)).length=b.funcs.length) hge];have hr4:((((b.funcs.map (FF G ks)).take (k)).map (fun x=>[C3 x]))++List.replicate (b.funcs.length-(k)) [AV.nil])=(b.funcs.map (FF G ks)).map (fun x=>[C3 x]):=by have h:=CQ (f:=fun x=>[C3 x]) (z:=[AV.nil]) (by simp:(b.funcs.map (FF G ks)).length=b.funcs.length) hge;rwa[List.drop_zero,List.take_of_length_le (by have:=AC (f:=fun x=>[C3 x]) (z:=[AV.nil]) (by simp:(b.funcs.map (FF G ks)).length=b.funcs.length) hk;omega)]at h
 rw[hr4];refine AGo.ghost (.plain 4 rfl (RR _)) ?_;refine AGo.ghost (.freezeA 12 4 rfl rfl (by simp)) ?_;refine wk 8 ?_;refine⟨[_,_,_],⟨⟨_,_,_,_,rfl,rfl,.ptr _ _ _ _ _ _ _ _ rfl rfl rfl,rfl⟩,rfl,rfl,trivial⟩,?_,rfl⟩;rfl
set_option maxRecDepth 100000
theorem PS35.passes{n w:Int}{f:BFunc}(h:PS35 n w f):SA f (GN f):=by
 obtain⟨h1,h2,h3,h4⟩:=C4 h.one;have hl:=h.len;obtain⟨R,hR⟩: ∃R:Nat,f.regs=(R:Int):=⟨f.regs.toNat,by omega⟩
 have hR':f.regs.toNat=R:=by omega
 have hs:=one_sane h.one;have hr:=h.r;refine⟨Zx f h.mild,forwardOf_ok f ⟨h1,h2,by omega,fun x hx=>by have:=hl.2 x hx;omega,fun x hx t ht=>?_,fun x hx e=>?_⟩,ZP f hs (List.length_pos_iff.2 h3) (by omega) (by omega) (fun x hx=>by have:=hl.2 x hx;omega),Yx f h.tame,rfl,rfl,rfl,rfl⟩
 . rw[hR'];have:=(h4 x hx).2 t ht;rw[hR]at this;exact fits_tacR this
 . have:=hs.fin x hx e;omega
theorem lh(b:Blocks)(hb:All35 b)(ks:List Int)(hks:ks.length<=20)(hv: ∀k∈ks,kind35 k=true):APure Tryz.prog 15 [.agg b.cells,A0 ks] (fun r=>r= .tup [.agg (TM b ks).cells,V5 (b.funcs.map (FF GN ks)),.int .i64 0]):=
 cu b ks GN (fun f=>∃n w,PS35 n w f) hb.lim hks hv (fun f hf=>by obtain⟨i,hi⟩:=List.getElem?_of_mem hf;exact⟨_,_,hb.e i f hi⟩) (fun f ⟨n,w,hf⟩ k hk=>⟨⟨n,w,hf.step k⟩,co f (GN f) hf.passes k (hv k hk)⟩)
theorem cy(k:Int):APure Tryz.prog 22 [.int .i64 k] (fun r=>r= .bool (kind35 k)):=by
 refine APure.of_body (n:=9) Ag Tryz.func22 rfl rfl ?_;refine wk 40 ?_;refine EP 5 (fun hb1=>?_) fun hb1=>?_
 . refine wk 40 ?_;refine⟨[_],⟨rfl,trivial⟩,?_,rfl⟩;refine bc ?_;simp at hb1;simp[kind35,hb1]
 . refine wk 40 ?_;refine⟨[_],⟨rfl,trivial⟩,?_,rfl⟩;refine bc ?_;simp at hb1;unfold kind35;exact(decide_eq_false (by omega)).symm
theorem VU(ks:List Int)(hl:ks.length<=1048576):APure Tryz.prog 16 [A0 ks] (fun r=>r= .bool (ks.all kind35&&decide (ks.length<=20))):=by
 refine APure.of_body (n:=19) Ag Tryz.func16 rfl rfl ?_;refine wk 40 ?_;refine AGo.loopI (γ:=Nat) (fun i=>⟨19,Aa (Aa A9 0 (A0 ks)) 3 (.int .i64 (i:Int)),hNone⟩) (fun i=>i<=ks.length/\(ks.take i).all kind35=true) (fun i=>ks.length-i) 0 (Sub.mk' Cf (HSub.none _)) ⟨Nat.zero_le _,rfl⟩ ?_
 rintro i ⟨hi,hF⟩
 refine wk 40 ?_;refine asp 7 (fun hb1=>?_) fun hb1=>?_
 .
  have hil:i<ks.length:=by have:=hb1;simp at this;exact this
  obtain⟨k,hk⟩:=Ae hil;refine wk 40 ?_;refine aq 12 (MH Ag (AM hk)) ?_;refine wk 1 ?_;refine ax 14 (DQ Tryz.func22 (cy k)) ?_;refine wk 40 ?_;refine asp 15 (fun hb2=>?_) fun hb2=>?_
  . have hno:kind35 k=false:=by simpa using hb2
    refine wk 40 ?_;refine⟨[_],⟨rfl,trivial⟩,?_,rfl⟩;refine bc ?_;rw[show ks.all kind35=false from by rw[Bool.eq_false_iff];intro e;rw[List.all_eq_true.1 e k (List.mem_of_getElem? hk)]at hno;cases hno];rfl
  . have hyes:kind35 k=true:=by simpa using hb2
    refine wk 40 ?_;exact⟨i+1,Sub.mk' (by repeat(first | exact ESub.new _ | refine ESub.put ?_ (by first | rfl | exact congrArg (fun x=>some (AV.int .i64 x)) (Jb hil (by simp only[maxLen];omega))))) (HSub.none _),⟨hil,by rw[BP hk,List.all_append,hF];simp[hyes]⟩,by omega⟩
 have hie:i=ks.length:=by have:=hb1;simp at this;omega
 refine wk 40 ?_;refine⟨[_],⟨rfl,trivial⟩,?_,rfl⟩;refine bc ?_;rw[hie,List.take_length]at hF;rw[hF,List.length_map]
 simp
 omega
end Go.Proofs.YtbbfelelocccmaaGreat.Sv
namespace Go.Proofs.YtbbfelelocccmaaGreat.Sv
open Go
theorem eY(a:Nat)(ha:a<4294967296):ACall Tryz.prog 101 [.int .u32 (a:Int)] (hput hNew 0 .free) (fun r h'=>r= .ref 0 32 0 32/\HSub (hput hNone 0 (.row true 1 (natCells (Ei a 32)))) h'):=by
 refine ACall.of_body (n:=18) Ag Tryz.func101 rfl rfl ?_;refine wk 10 ?_;refine AGo.ghost (.dry 3 0 1 true rfl rfl rfl (by decide)) ?_;refine wk 4 ?_;refine AGo.loopI (γ:=Nat) (fun k=>⟨18,(Aa (Aa (Aa A9 0 (.int .u32 ((a/2^k:Nat):Int))) 3 (.ref 0 k 0 k)) 4 (.int .i64 (k:Int))),(hput hNone 0 (.row true 1 (natCells (Ei a k))))⟩) (fun k=>k<=32) (fun k=>32-k) 0 (Sub.mk' (by repeat(first | exact ESub.new _ | refine ESub.put ?_ (by first | rfl | exact congrArg (fun(n:Nat)=>some (AV.int .u32 (n:Int))) (by simp)))) Fz) (Nat.zero_le _) ?_;exact m6
theorem eX(a:Nat)(ha:a<4294967296):ACall Tryz.prog 101 [.int .u32 (a:Int)] (hput hNew 1 .free) (fun r h'=>r= .ref 1 32 0 32/\HSub (hput hNone 1 (.row true 1 (natCells (Ei a 32)))) h'):=by
 refine ACall.of_body (n:=18) Ag Tryz.func101 rfl rfl ?_;refine wk 10 ?_;refine AGo.ghost (.dry 3 1 1 true rfl rfl rfl (by decide)) ?_;refine wk 4 ?_;refine AGo.loopI (γ:=Nat) (fun k=>⟨18,(Aa (Aa (Aa A9 0 (.int .u32 ((a/2^k:Nat):Int))) 3 (.ref 1 k 0 k)) 4 (.int .i64 (k:Int))),(hput hNone 1 (.row true 1 (natCells (Ei a k))))⟩) (fun k=>k<=32) (fun k=>32-k) 0 (Sub.mk' (by repeat(first | exact ESub.new _ | refine ESub.put ?_ (by first | rfl | exact congrArg (fun(n:Nat)=>some (AV.int .u32 (n:Int))) (by simp)))) Fz) (Nat.zero_le _) ?_;exact m6
theorem Z6(l:List Nat)(hl:l.length=32)(hb: ∀b∈l,b<2):APure Tryz.prog 102 [.lst false (natCells l)] (fun r=>r= .int .u32 (valB l:Int)):=by
 refine APure.of_body (n:=23) Ag Tryz.func102 rfl rfl ?_;refine wk 13 ?_;refine aq 7 (AU (r:=.int .i64 (31:Int)) rfl rfl rfl (by rw[BF,hl];rfl)) ?_;refine wk 3 ?_;refine AGo.loopI (γ:=Nat) (fun k=>⟨23,(Aa (Aa (Aa A9 0 (.lst false (natCells l))) 3 (.int .u64 ((valB (l.drop k):Nat):Int))) 4 (.int .i64 ((k:Int)-1))),hNone⟩) (fun k=>k<=32) (fun k=>k) 32 (Sub.mk' (by repeat(first | exact ESub.new _ | refine ESub.put ?_ (by first | rfl | exact congrArg (fun(n:Nat)=>some (AV.int .u64 (n:Int))) (by rw[List.drop_eq_nil_of_le (by omega)];rfl)))) Fz) (Nat.le_refl _) ?_;intro k hk;refine wk 6 ?_;refine asp 9 (fun hb1=>?_) fun hb1=>?_
 .
  refine act ?_;obtain⟨m,rfl⟩: ∃m,k=m+1:=⟨k-1,by have h:=hb1;simp at h;omega⟩
  obtain⟨b,hx⟩:=Ae (l:=l) (k:=m) (by omega);have hb2:=hb b (List.mem_of_getElem? hx);have hv:=Ko hl hb (m+1);have hv2:=Yp hx;refine wk 5 ?_;refine aq 13 (AU (r:=.int .u64 ((2*valB (l.drop (m+1)):Nat):Int)) rfl rfl rfl (OU (a:=2) (b:=valB (l.drop (m+1))) (Ch (by omega)))) ?_;refine wk 2 ?_;refine aq 16 (Au Ag rfl rfl rfl rfl rfl rfl (by omega) (cs:=[.int .i64 (b:Int)]) (by rw[show(((m+1:Nat):Int)-1).toNat=m by omega];show(natCells l)[m]?=_;rw[natCells,List.getElem?_map,hx];rfl) rfl) ?_;refine wk 1 ?_;refine aq 18 (Cm Ag rfl rfl rfl rfl rfl (Ch (by omega))) ?_;refine aq 19 (AU (r:=.int .u64 ((2*valB (l.drop (m+1))+b:Nat):Int)) rfl rfl rfl (Hq (Ch (by omega)))) ?_;refine wk 4 ?_;refine aq 11 (AU (r:=.int .i64 ((m:Int)-1)) rfl rfl rfl (by simp only[AI,Bm,isShift,cond_false,if_true];rw[BD (by omega) (by omega)];congr 2;omega)) ?_;refine wk 2 ?_;exact⟨m,Sub.mk' (by repeat(first | exact ESub.new _ | refine ESub.put ?_ (by first | rfl | exact congrArg (fun(n:Nat)=>some (AV.int .u64 (n:Int))) (by omega)))) Fz,(by omega),by omega⟩
 refine acf ?_;obtain rfl:k=0:=by have h:=hb1;simp at h;omega
 refine wk 4 ?_;refine aq 21 (AU (r:=.int .u64 ((valB (l.drop 0)%4294967296:Nat):Int)) rfl rfl rfl (Fv (a:=valB (l.drop 0)) (b:=4294967296) (by decide))) ?_;refine aq 22 (Cm Ag rfl rfl rfl rfl rfl (Dq (Nat.mod_lt _ (by decide)))) ?_;refine wk 2 ?_;refine FZ ⟨[_],⟨rfl,trivial⟩,?_,rfl⟩;show AV.int .u32 _=_;rw[Nat.mod_eq_of_lt (Ko hl hb 0),List.drop_zero]
theorem iM(op:Int)(a b:Nat)(ha:a<4294967296)(hb:b<4294967296):APure Tryz.prog 93 [.int .i64 op,.int .u32 (a:Int),.int .u32 (b:Int)] (fun r=>r= .int .u32 (valB (EI op a b):Int)):=by
 refine APure.of_body (n:=50) Ag Tryz.func93 rfl rfl ?_;refine wk 7 ?_;refine ax 12 (VZ (eY a ha) [0] [(0,(.row true 1 (natCells (Ei a 32))))] rfl Tryz.func101 (by kernel_rfl) rfl rfl rfl ⟨⟨_,rfl,rfl⟩,trivial⟩ rfl (AH rfl (BE _)) ⟨⟨_,rfl,rfl,rfl⟩,trivial⟩ rfl) ?_;refine wk 1 ?_;refine ax 14 (VZ (eX b hb) [1] [(1,(.row true 1 (natCells (Ei b 32))))] rfl Tryz.func101 (by kernel_rfl) rfl rfl rfl ⟨⟨_,rfl,rfl⟩,trivial⟩ rfl (AH rfl (BE _)) ⟨⟨_,rfl,rfl,rfl⟩,trivial⟩ rfl) ?_;refine wk 9 ?_;refine AGo.loopI (γ:=Nat) (fun k=>⟨50,(Aa (Aa (Aa (Aa A9 0 (.int .i64 op)) 7 (.ref 0 32 0 32)) 8 (.ref 1 32 0 32)) 9 (.int .i64 (k:Int))),(hput (hput hNone 0 (.row true 1 (natCells (IJ op a b k)))) 1 (.row true 1 (natCells (Ei b 32))))⟩) (fun k=>k<=32) (fun k=>32-k) 0 (Sub.mk' Cf (by repeat(first | exact HSub.refl _ | exact HSub.none _ | exact AG _ | exact AE GK | refine HSub.put ?_ (by first | rfl | exact congrArg (fun l=>some (AObj.row true 1 (natCells l))) (Zf op a b).symm) | refine AF ?_ GK | refine Bq ?_ (by decide)))) (Nat.zero_le _) ?_
 intro k hk;refine wk 6 ?_;refine asp 16 (fun hb1=>?_) fun hb1=>?_
 .
  refine act ?_;have hkl:k<32:=by have h:=hb1;simp at h;omega
  refine wk 7 ?_;refine dq 21 (Ab Ag rfl rfl rfl rfl rfl rfl rfl (by simp[BF,DT (Nat.le_of_lt hkl),Ce]) rfl (Int.natCast_nonneg _) (by omega)) ?_;refine dq 22 (At Ag rfl rfl rfl (.ptr _ _ _ _ _ _ _ _ rfl (by simp[BF,DT (Nat.le_of_lt hkl)]) (FU (Og hkl))) rfl) ?_;refine wk 2 ?_;refine dq 25 (Ab Ag rfl rfl rfl rfl rfl rfl rfl (by simp[BF,DT (Nat.le_of_lt hkl),Ce]) rfl (Int.natCast_nonneg _) (by omega)) ?_;refine dq 26 (At Ag rfl rfl rfl (.ptr _ _ _ _ _ _ _ _ rfl (by simp[BF,Ce]) (FU (L5 hkl))) rfl) ?_;refine dq 27 (AU (r:=.int .i64 ((a/2^k%2+b/2^k%2:Nat):Int)) rfl rfl rfl (Hq (Jc (by omega)))) ?_;refine wk 6 ?_;refine aq 30 (Ab Ag rfl rfl rfl rfl rfl rfl rfl (by simp[BF,DT (Nat.le_of_lt hkl),Ce]) rfl (Int.natCast_nonneg _) (by omega)) ?_;refine AOps.w rfl rfl (o_store Ag rfl rfl rfl rfl rfl rfl (by simp[BF,DT (Nat.le_of_lt hkl)]) (FU (Og hkl)) rfl (by decide) rfl Dy) ?_;refine wk 6 ?_;refine EP 33 (fun hb2=>?_) fun hb2=>?_
  .
   refine wk 4 ?_;refine EP 37 (fun hb3=>?_) fun hb3=>?_
   .
    refine wk 12 ?_;exact jN
   refine wk 3 ?_;refine EP 40 (fun hb4=>?_) fun hb4=>?_
   .
    refine wk 5 ?_;refine asp 44 (fun hb5=>?_) fun hb5=>?_
    .
     refine wk 4 ?_;exact jN
    refine wk 4 ?_;exact mX
   refine wk 9 ?_;exact mX
  refine wk 7 ?_;refine EP 40 (fun hb6=>?_) fun hb6=>?_
  .
   refine wk 5 ?_;refine asp 44 (fun hb7=>?_) fun hb7=>?_
   .
    refine wk 4 ?_;exact jN
   refine wk 4 ?_;exact mX
  refine wk 9 ?_;exact mX
 refine acf ?_;have hge: ¬k<32:=by have h:=hb1;simp at h;omega
 obtain rfl:k=32:=by omega
 rw[cY];refine wk 2 ?_;refine AGo.ghost (.freezeAll 7 0 rfl rfl (by simp[BF,D6])) ?_;refine wk 2 ?_;refine ax 49 (DQ Tryz.func102 (Z6 _ (D6 _ _ _) (eV _ _ _))) ?_;refine wk 2 ?_;refine FZ ⟨[_],⟨rfl,trivial⟩,?_,rfl⟩;rfl
theorem YF(op:Int)(a b:Nat)(ha:a<4294967296)(hb:b<4294967296)(ho:op=12\/op=13):APure Tryz.prog 94 [.int .i64 op,.int .u32 (a:Int),.int .u32 (b:Int)] (fun r=>r= .int .u32 (FA op a b)):=by
 refine APure.of_body (n:=27) Ag Tryz.func94 rfl rfl ?_;refine wk 10 ?_;refine asp 10 (fun hb1=>?_) fun hb1=>?_
 .
  refine act ?_;have hb32:32<=b:=by have h:=hb1;simp at h;omega
  refine wk 4 ?_;refine FZ ⟨[_],⟨rfl,trivial⟩,?_,rfl⟩;show AV.int .u32 _=_;rw[Vb op hb32]
 refine acf ?_;have hb32:b<32:=by have h:=hb1;simp at h;omega
 refine wk 4 ?_;refine aq 12 (Cm Ag rfl rfl rfl rfl rfl (Ch (by omega))) ?_;refine wk 8 ?_;refine AGo.loopI (γ:=Nat) (fun k=>⟨27,(Aa (Aa (Aa (Aa A9 0 (.int .i64 op)) 2 (.int .u32 (b:Int))) 7 (.int .u64 ((shN op a k:Nat):Int))) 8 (.int .u32 (k:Int))),hNone⟩) (fun k=>k<=b) (fun k=>b-k) 0 (Sub.mk' Cf Fz) (Nat.zero_le _) ?_;intro k hk;refine wk 7 ?_;refine asp 15 (fun hb2=>?_) fun hb2=>?_
 .
  refine act ?_;have hkl:k<b:=by have h:=hb2;simp at h;omega
  have hlt:=Rv (op:=op) ha k;refine wk 8 ?_;refine asp 19 (fun hb3=>?_) fun hb3=>?_
  .
   refine wk 3 ?_;refine aq 21 (AU (r:=.int .u64 ((2*shN op a k:Nat):Int)) rfl rfl rfl (OU (a:=2) (b:=shN op a k) (Ch (by omega)))) ?_;refine aq 22 (AU (r:=.int .u64 ((2*shN op a k%4294967296:Nat):Int)) rfl rfl rfl (Fv (a:=2*shN op a k) (b:=4294967296) (by decide))) ?_;exact mM
  refine wk 3 ?_;refine aq 24 (AU (r:=.int .u64 ((shN op a k/2:Nat):Int)) rfl rfl rfl (K4 (a:=shN op a k) (b:=2) (by decide) (Ch (by omega)))) ?_;exact mM
 refine acf ?_;obtain rfl:k=b:=by have h:=hb2;simp at h;omega
 refine wk 4 ?_;refine aq 26 (Cm Ag rfl rfl rfl rfl rfl (Dq (Rv ha _))) ?_;refine wk 2 ?_;refine FZ ⟨[_],⟨rfl,trivial⟩,?_,rfl⟩;show AV.int .u32 _=_;rw[Rf ha hb32 ho]
theorem XI(ok:Bool):APure Tryz.prog 95 [.bool ok] (fun r=>r= .int .u32 (bif ok then 1 else 0)):=by
 refine APure.of_body (n:=4) Ag Tryz.func95 rfl rfl ?_;refine wk 9 ?_;refine asp 3 (fun hb1=>?_) fun hb1=>?_
 .
  refine wk 5 ?_;refine FZ ⟨[_],⟨rfl,trivial⟩,?_,rfl⟩;show AV.int .u32 _=_;simp[*]
 refine wk 6 ?_;refine FZ ⟨[_],⟨rfl,trivial⟩,?_,rfl⟩;show AV.int .u32 _=_;simp[*]
theorem Vz(op:Int)(a b:Nat)(ha:a<4294967296)(hb:b<4294967296):APure Tryz.prog 72 [.int .i64 op,.int .u32 (a:Int),.int .u32 (b:Int)] (fun r=>r=WL (B3 op a b)):=by
 refine APure.of_body (n:=80) Ag Tryz.func72 rfl rfl ?_;refine wk 8 ?_;refine aq 11 (Cm Ag rfl rfl rfl rfl rfl (Ch (by omega))) ?_;refine wk 1 ?_;refine aq 13 (Cm Ag rfl rfl rfl rfl rfl (Ch (by omega))) ?_;refine wk 14 ?_;refine asp 15 (fun hb1=>?_) fun hb1=>?_
 .
  refine act ?_;obtain rfl:op=4:=by simpa using hb1
  refine wk 4 ?_;refine aq 19 (AU (r:=.int .u64 ((a+b:Nat):Int)) rfl rfl rfl (Hq (Ch (by omega)))) ?_;refine aq 20 (AU (r:=.int .u64 (((a+b)%4294967296:Nat):Int)) rfl rfl rfl (Fv (a:=a+b) (b:=4294967296) (by decide))) ?_;refine aq 21 (Cm Ag rfl rfl rfl rfl rfl (Dq (Nat.mod_lt _ (by decide)))) ?_;refine wk 4 ?_;refine⟨[_,_],⟨rfl,rfl,trivial⟩,?_,rfl⟩;show AV.tup _=_;rw[aT];rfl
 refine wk 6 ?_;refine asp 22 (fun hb2=>?_) fun hb2=>?_
 .
  refine act ?_;obtain rfl:op=5:=by simpa using hb2
  refine wk 3 ?_;refine aq 25 (AU (r:=.int .u64 ((a+4294967296:Nat):Int)) rfl rfl rfl (Hq (b:=4294967296) (Ch (by omega)))) ?_;refine wk 1 ?_;refine aq 27 (AU (r:=.int .u64 ((a+4294967296-b:Nat):Int)) rfl rfl rfl (ebin_sub (by omega) (Ch (by omega)))) ?_;refine aq 28 (AU (r:=.int .u64 (((a+4294967296-b)%4294967296:Nat):Int)) rfl rfl rfl (Fv (a:=a+4294967296-b) (b:=4294967296) (by decide))) ?_;refine aq 29 (Cm Ag rfl rfl rfl rfl rfl (Dq (Nat.mod_lt _ (by decide)))) ?_;refine wk 4 ?_;refine⟨[_,_],⟨rfl,rfl,trivial⟩,?_,rfl⟩;show AV.tup _=_;rw[aM hb];rfl
 refine wk 6 ?_;refine asp 30 (fun hb3=>?_) fun hb3=>?_
 .
  refine act ?_;obtain rfl:op=6:=by simpa using hb3
  have hab:a*b<18446744073709551616:=by have:=Nat.mul_lt_mul'' ha hb;omega
  refine wk 4 ?_;refine aq 34 (AU (r:=.int .u64 ((a*b:Nat):Int)) rfl rfl rfl (OU (Ch hab))) ?_;refine aq 35 (AU (r:=.int .u64 ((a*b%4294967296:Nat):Int)) rfl rfl rfl (Fv (a:=a*b) (b:=4294967296) (by decide))) ?_;refine aq 36 (Cm Ag rfl rfl rfl rfl rfl (Dq (Nat.mod_lt _ (by decide)))) ?_;refine wk 4 ?_;refine⟨[_,_],⟨rfl,rfl,trivial⟩,?_,rfl⟩;show AV.tup _=_;rw[aN];rfl
 refine wk 6 ?_;refine asp 37 (fun hb4=>?_) fun hb4=>?_
 .
  refine act ?_;obtain rfl:op=7:=by simpa using hb4
  refine wk 6 ?_;refine asp 40 (fun hb5=>?_) fun hb5=>?_
  .
   refine act ?_;obtain rfl:b=0:=by have h:=hb5;simp at h;omega
   refine wk 6 ?_;refine⟨[_,_],⟨rfl,rfl,trivial⟩,?_,rfl⟩;show AV.tup _=_;rw[show(((0:Nat):Int))=0 from rfl,PN _ _ (by simp)];rfl
  refine acf ?_;have hb0: ¬b=0:=by have h:=hb5;simp at h;omega
  have hda:=Nat.div_le_self a b;refine wk 5 ?_;refine aq 43 (AU (r:=.int .u64 ((a/b:Nat):Int)) rfl rfl rfl (K4 (Nat.pos_of_ne_zero hb0) (Ch (by omega)))) ?_;refine aq 44 (Cm Ag rfl rfl rfl rfl rfl (Dq (by omega))) ?_;refine wk 4 ?_;refine⟨[_,_],⟨rfl,rfl,trivial⟩,?_,rfl⟩;show AV.tup _=_;rw[aS ha hb0];rfl
 refine wk 6 ?_;refine asp 45 (fun hb6=>?_) fun hb6=>?_
 .
  refine act ?_;obtain rfl:op=8:=by simpa using hb6
  refine wk 6 ?_;refine asp 48 (fun hb7=>?_) fun hb7=>?_
  .
   refine act ?_;obtain rfl:b=0:=by have h:=hb7;simp at h;omega
   refine wk 6 ?_;refine⟨[_,_],⟨rfl,rfl,trivial⟩,?_,rfl⟩;show AV.tup _=_;rw[show(((0:Nat):Int))=0 from rfl,PN _ _ (by simp)];rfl
  refine acf ?_;have hb0: ¬b=0:=by have h:=hb7;simp at h;omega
  have hma:=Nat.mod_lt a (Nat.pos_of_ne_zero hb0);refine wk 5 ?_;refine aq 51 (AU (r:=.int .u64 ((a%b:Nat):Int)) rfl rfl rfl (Fv (Nat.pos_of_ne_zero hb0))) ?_;refine aq 52 (Cm Ag rfl rfl rfl rfl rfl (Dq (by omega))) ?_;refine wk 4 ?_;refine⟨[_,_],⟨rfl,rfl,trivial⟩,?_,rfl⟩;show AV.tup _=_;rw[aO hb0];rfl
 refine wk 7 ?_;refine asp 53 (fun hb8=>?_) fun hb8=>?_
 .
  refine wk 5 ?_;exact jM
 refine wk 6 ?_;refine asp 53 (fun hb9=>?_) fun hb9=>?_
 .
  refine wk 5 ?_;exact jM
 refine wk 5 ?_;refine asp 53 (fun hb10=>?_) fun hb10=>?_
 .
  refine wk 3 ?_;exact jM
 refine wk 7 ?_;refine asp 61 (fun hb11=>?_) fun hb11=>?_
 .
  refine wk 5 ?_;exact me
 refine wk 5 ?_;refine asp 61 (fun hb12=>?_) fun hb12=>?_
 .
  refine wk 3 ?_;exact me
 refine wk 6 ?_;refine asp 68 (fun hb13=>?_) fun hb13=>?_
 .
  refine act ?_;obtain rfl:op=14:=by simpa using hb13
  refine wk 5 ?_;refine ax 73 (DQ Tryz.func95 (XI _)) ?_;refine wk 4 ?_;refine⟨[_,_],⟨rfl,rfl,trivial⟩,?_,rfl⟩;show AV.tup _=_;rw[fX];rfl
 refine wk 6 ?_;refine asp 74 (fun hb14=>?_) fun hb14=>?_
 .
  refine act ?_;obtain rfl:op=15:=by simpa using hb14
  refine wk 5 ?_;refine ax 79 (DQ Tryz.func95 (XI _)) ?_;refine wk 4 ?_;refine⟨[_,_],⟨rfl,rfl,trivial⟩,?_,rfl⟩;show AV.tup _=_;rw[fY];rfl
 refine wk 8 ?_;exact Kj
theorem YO(op a b:Int)(ha:ER a)(hb:ER b):APure Tryz.prog 72 [.int .i64 op,.int .u32 a,.int .u32 b] (fun r=>r=WL (B3 op a b)):=by
 obtain⟨n,rfl⟩:=Int.eq_ofNat_of_zero_le ha.1;obtain⟨m,rfl⟩:=Int.eq_ofNat_of_zero_le hb.1;exact Vz op n m (by have:=ha.2;omega) (by have:=hb.2;omega)
theorem WZ(b:Blocks)(s:ByteArray)(fuel:Int)(m:Mach)(hfu:fuel<=9223372036854775807):ACall Tryz.prog 52 [.ptr 0 1 0 0] (Ic hNew b s fuel m) (fun r h'=>r= .bool (AK fuel m).1/\HSub (Ic hNone b s fuel (AK fuel m).2) h'):=by
 refine ACall.of_body (n:=22) Ag Tryz.func52 rfl rfl ?_;refine wk 17 ?_;refine asp 11 (fun hb1=>?_) fun hb1=>?_
 .
  refine wk 13 ?_;rw[cQ hb1];exact⟨[_],⟨rfl,trivial⟩,rfl,HSub.put (HSub.put (HSub.put (HSub.none _) rfl) rfl) rfl⟩
 refine wk 8 ?_;refine aq 19 (Bj rfl rfl (show m.steps<fuel.toNat by have h:=hb1;simp at h;omega) (by simp only[maxLen];omega)) ?_;refine wk 9 ?_;rw[Y9 hb1];exact⟨[_],⟨rfl,trivial⟩,rfl,HSub.put (HSub.put (HSub.put (HSub.none _) rfl) rfl) rfl⟩
theorem gL(b:Blocks)(s:ByteArray)(fuel:Int)(call:Int->Mach->Mach)(t:Tac)(regs:List Int)(m:Mach)(n R:Nat)(ht:jp t n R b.words.toNat)(hr:JI regs)(hlen:regs.length=R)(hm:m.good b.words.toNat)(h0:m.fin=0)(hbw:b.words<=1048576)(hs:s.size<=9223372036854775807)(hwn:ER t.n)
 (hcall: ∀(i:Int),0<=i->i<n->ACall Tryz.prog 39 [.ptr 0 1 0 0,.int .i64 i] (Ic hNew b s fuel m) (fun r h'=>r= .tup []/\HSub (Ic hNone b s fuel (call i m)) h')):ACall Tryz.prog 53 [.ptr 0 1 0 0,.agg t.cells,.ref 4 R 0 R] (hput (Ic hNew b s fuel m) 4 (.row true 1 (Bn regs))) (fun r h'=>r= .tup []/\HSub (hput (Ic hNone b s fuel (mone call s t regs m).2) 4 (.row true 1 (Bn (mone call s t regs m).1))) h'):=by
 refine ACall.of_body (n:=211) Ag Tryz.func53 rfl rfl ?_;refine MJ ?_;refine ax 4 (GJ 8 5) ?_;refine wk 12 ?_;refine asp 10 (fun hb1=>?_) fun hb1=>?_
 .
  refine act ?_;have ho:t.op=1:=by simpa using hb1
  have hd:=ht.d (by simp[setsOp,ho]);refine wk 6 ?_;refine aq 17 (Ab Ag rfl rfl rfl rfl rfl rfl rfl (by rw[Ap,hlen]) rfl hd.1 (by have:=hd.2;omega)) ?_;refine AOps.w rfl rfl (o_store Ag rfl rfl rfl rfl rfl rfl (by rw[Ap,hlen]) (D9 (by have:=hd;omega)) rfl (by decide) rfl Dy) ?_;refine an ?_;refine⟨[],trivial,rfl,?_⟩;rw[cV ho];exact Va
 refine wk 6 ?_;refine asp 18 (fun hb2=>?_) fun hb2=>?_
 .
  refine act ?_;have ho:t.op=2:=by simpa using hb2
  have hd:=ht.d (by simp[setsOp,ho]);have ha:=ht.a (by simp[use1,use2,ho]);refine wk 7 ?_;refine dq 26 (Ab Ag rfl rfl rfl rfl rfl rfl rfl (by rw[Ap,hlen]) rfl ha.1 (by have:=ha.2;omega)) ?_;refine dq 27 (At Ag rfl rfl rfl (.ptr _ _ _ _ _ _ _ _ rfl (by rw[Ap,hlen]) (D9 (by have:=ha;omega))) rfl) ?_;refine dq 28 (Ab Ag rfl rfl rfl rfl rfl rfl rfl (by rw[Ap,hlen]) rfl hd.1 (by have:=hd.2;omega)) ?_;refine DOps.w rfl rfl (o_store Ag rfl rfl rfl rfl rfl rfl (by rw[Ap,hlen]) (D9 (by have:=hd;omega)) rfl (by decide) rfl Dy) ?_;refine wk 1 ?_;refine⟨[],trivial,rfl,?_⟩;rw[jh ho];exact Va
 refine wk 6 ?_;refine asp 29 (fun hb3=>?_) fun hb3=>?_
 .
  refine act ?_;have ho:t.op=3:=by simpa using hb3
  have hd:=ht.d (by simp[setsOp,ho]);have ha:=ht.a (by simp[use1,use2,ho]);have hb:=ht.b (by simp[use2,ho]);refine wk 7 ?_;refine dq 37 (Ab Ag rfl rfl rfl rfl rfl rfl rfl (by rw[Ap,hlen]) rfl ha.1 (by have:=ha.2;omega)) ?_;refine dq 38 (At Ag rfl rfl rfl (.ptr _ _ _ _ _ _ _ _ rfl (by rw[Ap,hlen]) (D9 (by have:=ha;omega))) rfl) ?_;refine wk 3 ?_;refine dq 42 (Ab Ag rfl rfl rfl rfl rfl rfl rfl (by rw[Ap,hlen]) rfl hb.1 (by have:=hb.2;omega)) ?_;refine dq 43 (At Ag rfl rfl rfl (.ptr _ _ _ _ _ _ _ _ rfl (by rw[Ap,hlen]) (D9 (by have:=hb;omega))) rfl) ?_;refine dx 44 (DQ Tryz.func72 (YO t.k (rget regs t.a) (rget regs t.b) (HD hr _) (HD hr _))) ?_;refine wk 12 ?_;refine asp 48 (fun hb4=>?_) fun hb4=>?_
  .
   refine wk 9 ?_;refine⟨[],trivial,rfl,?_⟩;rw[ln ho hb4];exact az
  refine wk 7 ?_;refine aq 56 (Ab Ag rfl rfl rfl rfl rfl rfl rfl (by rw[Ap,hlen]) rfl hd.1 (by have:=hd.2;omega)) ?_;refine AOps.w rfl rfl (o_store Ag rfl rfl rfl rfl rfl rfl (by rw[Ap,hlen]) (D9 (by have:=hd;omega)) rfl (by decide) rfl Dy) ?_;refine an ?_;refine⟨[],trivial,rfl,?_⟩;rw[jg ho hb4];exact Va
 refine wk 6 ?_;refine asp 57 (fun hb5=>?_) fun hb5=>?_
 .
  refine act ?_;have ho:t.op=4:=by simpa using hb5
  have hd:=ht.d (by simp[setsOp,ho]);have hbs:=ht.base (by simp[ho]);refine wk 10 ?_;refine dq 68 (Ab Ag rfl rfl rfl rfl rfl rfl rfl (by rw[Ap,hm.len]) rfl hbs.1 (by have:=hbs.2;omega)) ?_;refine dq 69 (At Ag rfl rfl rfl (.ptr _ _ _ _ _ _ _ _ rfl (by rw[Ap,hm.len]) (D9 (by have:=hbs;have:=hm.len;omega))) rfl) ?_;refine dq 70 (Ab Ag rfl rfl rfl rfl rfl rfl rfl (by rw[Ap,hlen]) rfl hd.1 (by have:=hd.2;omega)) ?_;refine DOps.w rfl rfl (o_store Ag rfl rfl rfl rfl rfl rfl (by rw[Ap,hlen]) (D9 (by have:=hd;omega)) rfl (by decide) rfl Dy) ?_;refine wk 1 ?_;refine⟨[],trivial,rfl,?_⟩;rw[qH ho];exact Va
 refine wk 6 ?_;refine asp 71 (fun hb6=>?_) fun hb6=>?_
 .
  refine act ?_;have ho:t.op=5:=by simpa using hb6
  have ha:=ht.a (by simp[use1,use2,ho]);have hbs:=ht.base (by simp[ho]);refine wk 10 ?_;refine dq 82 (Ab Ag rfl rfl rfl rfl rfl rfl rfl (by rw[Ap,hlen]) rfl ha.1 (by have:=ha.2;omega)) ?_;refine dq 83 (At Ag rfl rfl rfl (.ptr _ _ _ _ _ _ _ _ rfl (by rw[Ap,hlen]) (D9 (by have:=ha;omega))) rfl) ?_;refine dq 84 (Ab Ag rfl rfl rfl rfl rfl rfl rfl (by rw[Ap,hm.len]) rfl hbs.1 (by have:=hbs.2;omega)) ?_;refine DOps.w rfl rfl (o_store Ag rfl rfl rfl rfl rfl rfl (by rw[Ap,hm.len]) (D9 (by have:=hbs;have:=hm.len;omega)) rfl (by decide) rfl Dy) ?_;refine wk 1 ?_;refine⟨[],trivial,rfl,?_⟩;rw[qG ho];exact HSub.put (HSub.put (HSub.put (HSub.put (HSub.none _) rfl) jW) rfl) rfl
 refine wk 7 ?_;refine asp 85 (fun hb7=>?_) fun hb7=>?_
 .
  refine wk 6 ?_;have ho:t.op=6\/t.op=7:=by simp_all
  have har:=ht.arr ho;have ha:=ht.a (by rcases ho with ho | ho<;>simp[use1,use2,ho]);have hwa:=HD hr t.a;have hwa1:=hwa.1;have hwa2:=hwa.2;refine wk 3 ?_;refine dq 91 (Ab Ag rfl rfl rfl rfl rfl rfl rfl (by rw[Ap,hlen]) rfl ha.1 (by have:=ha.2;omega)) ?_;refine dq 92 (At Ag rfl rfl rfl (.ptr _ _ _ _ _ _ _ _ rfl (by rw[Ap,hlen]) (D9 (by have:=ha;omega))) rfl) ?_;refine dq 93 (Fp Ag rfl rfl rfl rfl rfl (r:=rget regs t.a) (by rw[IntKind.wrap_u64];omega)) ?_;refine wk 2 ?_;refine dq 96 (Fp Ag rfl rfl rfl rfl rfl (r:=t.size) (by rw[IntKind.wrap_u64];omega)) ?_;refine wk 2 ?_;refine asp 97 (fun hb8=>?_) fun hb8=>?_
  .
   refine act ?_;have hsz:=hb8;refine wk 8 ?_;refine⟨[],trivial,rfl,?_⟩;rw[Xs ho hsz];exact az
  refine acf ?_;have hsz:=hb8;have hsz2:rget regs t.a<t.size:=by simpa using hb8
  have hidx:0<=t.base+rget regs t.a/\t.base+rget regs t.a<b.words.toNat:=by omega
  refine wk 7 ?_;refine asp 103 (fun hb9=>?_) fun hb9=>?_
  .
   refine act ?_;have ho6:t.op=6:=by simpa using hb9
   exact mV
  refine acf ?_;have ho7:t.op=7:=by have h:=hb9;simp at h;omega
  exact m3
 refine wk 5 ?_;refine asp 85 (fun hb10=>?_) fun hb10=>?_
 .
  refine wk 4 ?_;have ho:t.op=6\/t.op=7:=by simp_all
  have har:=ht.arr ho;have ha:=ht.a (by rcases ho with ho | ho<;>simp[use1,use2,ho]);have hwa:=HD hr t.a;have hwa1:=hwa.1;have hwa2:=hwa.2;refine wk 3 ?_;refine dq 91 (Ab Ag rfl rfl rfl rfl rfl rfl rfl (by rw[Ap,hlen]) rfl ha.1 (by have:=ha.2;omega)) ?_;refine dq 92 (At Ag rfl rfl rfl (.ptr _ _ _ _ _ _ _ _ rfl (by rw[Ap,hlen]) (D9 (by have:=ha;omega))) rfl) ?_;refine dq 93 (Fp Ag rfl rfl rfl rfl rfl (r:=rget regs t.a) (by rw[IntKind.wrap_u64];omega)) ?_;refine wk 2 ?_;refine dq 96 (Fp Ag rfl rfl rfl rfl rfl (r:=t.size) (by rw[IntKind.wrap_u64];omega)) ?_;refine wk 2 ?_;refine asp 97 (fun hb11=>?_) fun hb11=>?_
  .
   refine act ?_;have hsz:=hb11;refine wk 8 ?_;refine⟨[],trivial,rfl,?_⟩;rw[Xs ho hsz];exact az
  refine acf ?_;have hsz:=hb11;have hsz2:rget regs t.a<t.size:=by simpa using hb11
  have hidx:0<=t.base+rget regs t.a/\t.base+rget regs t.a<b.words.toNat:=by omega
  refine wk 7 ?_;refine asp 103 (fun hb12=>?_) fun hb12=>?_
  .
   refine act ?_;have ho6:t.op=6:=by simpa using hb12
   exact mV
  refine acf ?_;have ho7:t.op=7:=by have h:=hb12;simp at h;omega
  exact m3
 refine wk 6 ?_;refine asp 142 (fun hb13=>?_) fun hb13=>?_
 .
  refine act ?_;have ho:t.op=8:=by simpa using hb13
  have hd:=ht.d (by simp[setsOp,ho]);refine wk 5 ?_;refine aq 147 (Ab Ag rfl rfl rfl rfl rfl rfl rfl (by rw[Ap,hlen]) rfl hd.1 (by have:=hd.2;omega)) ?_;refine AOps.w rfl rfl (o_store Ag rfl rfl rfl rfl rfl rfl (by rw[Ap,hlen]) (D9 (by have:=hd;omega)) rfl (by decide) rfl Dy) ?_;refine wk 14 ?_;refine asp 157 (fun hb14=>?_) fun hb14=>?_
  .
   refine act ?_;have hrd:m.read<s.size:=by have h:=hb14;simp at h;omega
   refine wk 13 ?_;refine dq 169 (Tt (c:=inAt s m.read) Ag rfl rfl rfl rfl rfl (Int.natCast_nonneg _) (dA hrd)) ?_;refine dq 170 (Fp Ag rfl rfl rfl rfl rfl (r:=((inAt s m.read).toNat:Int)) (by rw[IntKind.wrap_u32];have:=(eS (inAt s m.read)).2;omega)) ?_;refine dq 171 (Ab Ag rfl rfl rfl rfl rfl rfl rfl (by rw[List.length_set,Ap,hlen]) rfl hd.1 (by have:=hd.2;omega)) ?_;refine DOps.w rfl rfl (o_store Ag rfl rfl rfl rfl rfl rfl (by rw[List.length_set,Ap,hlen]) (KV (D9 (by have:=hd;omega))) rfl (by decide) rfl Dy) ?_;refine wk 6 ?_;refine aq 176 (Bj rfl rfl hrd (by simp only[maxLen];omega)) ?_;refine wk 4 ?_;refine⟨[],trivial,rfl,?_⟩;rw[qD ho hrd];exact Va
  refine acf ?_;have hrd: ¬m.read<s.size:=by have h:=hb14;simp at h;omega
  refine fH ?_;refine⟨[],trivial,rfl,?_⟩;rw[lm ho hrd];exact Va
 refine wk 6 ?_;refine asp 179 (fun hb15=>?_) fun hb15=>?_
 .
  refine act ?_;have ho:t.op=9:=by simpa using hb15
  have ha:=ht.a (by simp[use1,use2,ho]);have hwa:=HD hr t.a;have hwa1:=hwa.1;have hwa2:=hwa.2;refine wk 10 ?_;refine asp 186 (fun hb16=>?_) fun hb16=>?_
  .
   refine act ?_;have hou:m.out.length>=65536:=by have h:=hb16;simp[AR]at h;omega
   refine wk 8 ?_;refine⟨[],trivial,rfl,?_⟩;rw[ll ho hou];exact az
  refine acf ?_;have hou: ¬m.out.length>=65536:=by have h:=hb16;simp[AR]at h;omega
  refine wk 10 ?_;refine dq 198 (Ab Ag rfl rfl rfl rfl rfl rfl rfl (by rw[Ap,hlen]) rfl ha.1 (by have:=ha.2;omega)) ?_;refine dq 199 (At Ag rfl rfl rfl (.ptr _ _ _ _ _ _ _ _ rfl (by rw[Ap,hlen]) (D9 (by have:=ha;omega))) rfl) ?_;refine dq 200 (Fp Ag rfl rfl rfl rfl rfl (Yc hwa)) ?_;refine dx 201 (Cn Ag rfl rfl rfl rfl rfl rfl (by decide) rfl rfl rfl rfl rfl rfl) ?_;refine dx 202 (o_append Ag (n:=m.out.length) (m:=1) rfl rfl rfl rfl rfl rfl rfl rfl rfl (by simp[AR]) rfl rfl (Nat.zero_lt_succ _) (.lst _ _) (by intro cs h;simp[partVals]at h;subst h;rfl) (fun _ cs h=>by simp[partVals]at h;subst h;rfl) rfl (by simp[AR,partVals];have:=hm.out;omega) (by simp[AR,partVals];simp only[maxLen];have:=hm.out;omega)) ?_;refine wk 4 ?_;refine⟨[],trivial,rfl,?_⟩;rw[qC ho hou];exact HSub.put (HSub.put (HSub.put (HSub.put (HSub.none _) (by first | rfl | exact congrArg (fun n=>some (AObj.row false 9 [[.int .i64 b.words,FY b.funcs,.str s,.int .i64 fuel,.ref 1 b.words.toNat 0 b.words.toNat,.ref 2 n 0 n,.int .i64 (m.read:Int),.int .i64 (m.steps:Int),.int .i64 m.fin]])) (by simp))) rfl) (by first | rfl | exact congrArg (fun es=>some (AObj.row true 1 es)) (by simp[AR,partVals];rfl))) rfl
 refine wk 6 ?_;refine asp 205 (fun hb17=>?_) fun hb17=>?_
 .
  refine act ?_;have ho:t.op=10:=by simpa using hb17
  have hcl:=ht.call ho;refine wk 4 ?_;refine ax 210 (VZ (hcall t.base hcl.1 hcl.2) [2,1,0] [(0,(.row false 9 [Ee b s fuel (call t.base m)])),(1,(.row true 1 (Bn ((call t.base m)).words))),(2,(.row true 1 (AR ((call t.base m)).out)))] rfl Tryz.func39 (by kernel_rfl) rfl rfl rfl ⟨⟨_,rfl,rfl⟩,⟨_,rfl,rfl⟩,⟨_,rfl,rfl⟩,trivial⟩ rfl (AH rfl (AH rfl (AH rfl (BE _)))) ⟨⟨_,rfl,rfl,rfl⟩,⟨_,rfl,rfl,rfl⟩,⟨_,rfl,rfl,rfl⟩,trivial⟩ rfl) ?_;refine an ?_;refine⟨[],trivial,rfl,?_⟩;rw[lp ho];exact az
 refine wk 2 ?_;exact absurd ht.op (by simp_all;omega)
theorem dS(b:Blocks)(s:ByteArray)(fuel:Int)(call:Int->Mach->Mach)(i:Int)(f:BFunc)(m:Mach)(hfu:fuel<=9223372036854775807)(hs:s.size<=9223372036854775807)(hbw:b.words<=1048576)(hf:b.funcs[i.toNat]?=some f)(hi:0<=i)(hone:f.one i b.words=true)
 (hfw: ∀x∈f.blocks,Il x.ins) (hfl: ∀x∈f.blocks,x.ins.length<=maxLen)
 (hcall: ∀(j:Int) (m:Mach),0<=j->j<i->m.fin=0->m.good b.words.toNat->ACall Tryz.prog 39 [.ptr 0 1 0 0,.int .i64 j] (Ic hNew b s fuel m) (fun r h'=>r= .tup []/\HSub (Ic hNone b s fuel (call j m)) h'))
 (hcg: ∀i m,m.good b.words.toNat->(call i m).good b.words.toNat) (hcs: ∀i m,m.steps<=(call i m).steps) (hm:m.good b.words.toNat) (h0:m.fin=0):ACall Tryz.prog 39 [.ptr 0 1 0 0,.int .i64 i] (Ic hNew b s fuel m) (fun r h'=>r= .tup []/\HSub (Ic hNone b s fuel (FV call s fuel f (fuel.toNat+1) 0 (List.replicate f.regs.toNat 0) m)) h'):=by
 have hsp:=C4 hone;refine ACall.of_body (n:=76) Ag Tryz.func39 rfl rfl ?_;refine wk 8 ?_;refine aq 15 (Au Ag rfl rfl rfl rfl rfl rfl hi (Uj hf) rfl) ?_;refine wk 1 ?_;refine ax 4 (EO Ag 3) ?_;refine wk 6 ?_;refine ax 19 (AA Ag (n:=f.regs.toNat) (m:=f.regs.toNat) 4 true rfl rfl rfl (by have:=hsp.1;omega) (by have:=hsp.1;omega) rfl rfl rfl rfl rfl (Nat.zero_lt_succ _) rfl (Nat.le_refl _) (by show 4*f.regs.toNat<=_;have:=hsp.2.1;omega) (by simp only[maxLen];have:=hsp.2.1;omega)) ?_;refine wk 7 ?_;refine Bh (γ:=FG) 5 (fun q=>⟨76,(Aa (Aa (Aa (Aa A9 0 (.ptr 0 1 0 0)) 4 (.ptr 3 1 0 0)) 5 (.ref 4 f.regs.toNat 0 f.regs.toNat)) 6 (.int .i64 q.i)),(hput (hput (hput (hput (hput (BK 5) 0 (.row false 9 [Ee b s fuel q.m])) 1 (.row true 1 (Bn (q.m).words))) 2 (.row true 1 (AR (q.m).out))) 3 (.row false 2 [f.cells])) 4 (.row true 1 (Bn q.regs)))⟩) (fun q=>FInv call s fuel f b.words.toNat f.regs.toNat (FV call s fuel f (fuel.toNat+1) 0 (List.replicate f.regs.toNat 0) m) q) (fun q=>q.g) ⟨0,List.replicate f.regs.toNat 0,m,fuel.toNat+1⟩ (Sub.mk' Cf tH) (FInv.first hm h0 hsp.2.2.1) (fun _=>Ah (Ah (Ah (Ah (Ah (fun b hb=>A8 hb) rfl) rfl) rfl) rfl) rfl) ?_
 intro q hF;refine wk 9 ?_;refine asp 24 (fun hb1=>?_) fun hb1=>?_
 .
  refine act ?_;obtain⟨k,hk⟩:=Ae (l:=f.blocks) (k:=q.i.toNat) (by have:=hF.i;omega);have hkm:=List.mem_of_getElem? hk;have hks:=hsp.2.2.2 k hkm;refine wk 7 ?_;refine aq 28 (Au Ag rfl rfl rfl rfl rfl rfl hF.i.1 (Uj hk) rfl) ?_;refine wk 1 ?_;refine ax 7 (EO Ag 5) ?_;refine wk 8 ?_;refine Bh (γ:=IG) 6 (fun r=>⟨76,(Aa (Aa (Aa (Aa (Aa (Aa A9 0 (.ptr 0 1 0 0)) 4 (.ptr 3 1 0 0)) 5 (.ref 4 f.regs.toNat 0 f.regs.toNat)) 6 (.int .i64 q.i)) 7 (.ptr 5 1 0 0)) 8 (.int .i64 (r.j:Int))),(hput (hput (hput (hput (hput (hput (BK 6) 0 (.row false 9 [Ee b s fuel r.m])) 1 (.row true 1 (Bn (r.m).words))) 2 (.row true 1 (AR (r.m).out))) 3 (.row false 2 [f.cells])) 4 (.row true 1 (Bn r.regs))) 5 (.row false 5 [k.cells]))⟩) (fun r=>IInv call s fuel k q b.words.toNat f.regs.toNat r) (fun r=>k.ins.length-r.j) ⟨0,q.regs,q.m⟩ (Sub.mk' Cf Fz) hF.start (fun _=>Ah (Ah (Ah (Ah (Ah (Ah (fun b hb=>A8 hb) rfl) rfl) rfl) rfl) rfl) rfl) ?_
  intro r hI;refine wk 9 ?_;refine asp 34 (fun hb2=>?_) fun hb2=>?_
  .
   refine act ?_;have hjl:r.j<k.ins.length:=F1 hb2;obtain⟨u,hu⟩:=Ae hjl;have hum:=List.mem_of_getElem? hu;have hut:=Ns (hks.2 u hum);have huw:=hfw k hkm u hum;refine wk 7 ?_;refine ax 38 (VZ (WZ b s fuel r.m hfu) [2,1,0] [(0,(.row false 9 [Ee b s fuel (AK fuel r.m).2])),(1,(.row true 1 (Bn ((AK fuel r.m).2).words))),(2,(.row true 1 (AR ((AK fuel r.m).2).out)))] rfl Tryz.func52 (by kernel_rfl) rfl rfl rfl ⟨⟨_,rfl,rfl⟩,⟨_,rfl,rfl⟩,⟨_,rfl,rfl⟩,trivial⟩ rfl (AH rfl (AH rfl (AH rfl (BE _)))) ⟨⟨_,rfl,rfl,rfl⟩,⟨_,rfl,rfl,rfl⟩,⟨_,rfl,rfl,rfl⟩,trivial⟩ rfl) ?_;refine wk 2 ?_;refine asp 39 (fun hb3=>?_) fun hb3=>?_
   .
    refine act ?_;have hst:(AK fuel r.m).1=false:=by simpa using hb3
    refine FZ ?_;refine⟨[],trivial,rfl,?_⟩;rw[show(FV call s fuel f (fuel.toNat+1) 0 (List.replicate f.regs.toNat 0) m)=_ from qO hF hk hI hu hst];exact HSub.put (HSub.put (HSub.put (HSub.none _) rfl) rfl) rfl
   refine acf ?_;have hst:(AK fuel r.m).1=true:=by simpa using hb3
   have hsf:(AK fuel r.m).2.fin=0:=by rw[(Gr hst).2];exact hI.fin
   refine wk 7 ?_;refine aq 44 (Au Ag rfl rfl rfl rfl rfl rfl (Int.natCast_nonneg _) (AM (by assumption)) rfl) ?_;refine wk 2 ?_;refine ax 47 (VZ (gL b s fuel call u r.regs (AK fuel r.m).2 i.toNat f.regs.toNat hut hI.regs hI.len (E0 hI.good) hsf hbw hs huw (fun j h1 h2=>hcall j _ h1 (by omega) hsf (E0 hI.good))) [4,2,1,0] [(0,(.row false 9 [Ee b s fuel (mone call s u r.regs (AK fuel r.m).2).2])),(1,(.row true 1 (Bn ((mone call s u r.regs (AK fuel r.m).2).2).words))),(2,(.row true 1 (AR ((mone call s u r.regs (AK fuel r.m).2).2).out))),(4,(.row true 1 (Bn (mone call s u r.regs (AK fuel r.m).2).1)))] rfl Tryz.func53 (by kernel_rfl) rfl rfl rfl ⟨⟨_,rfl,rfl⟩,⟨_,rfl,rfl⟩,⟨_,rfl,rfl⟩,⟨_,rfl,rfl⟩,trivial⟩ rfl (AH rfl (AH rfl (AH rfl (AH rfl (BE _))))) ⟨⟨_,rfl,rfl,rfl⟩,⟨_,rfl,rfl,rfl⟩,⟨_,rfl,rfl,rfl⟩,⟨_,rfl,rfl,rfl⟩,trivial⟩ rfl) ?_;refine wk 9 ?_;refine asp 52 (fun hb4=>?_) fun hb4=>?_
   .
    refine act ?_;have hnz:=hb4;refine FZ ?_;refine⟨[],trivial,rfl,?_⟩;rw[show(FV call s fuel f (fuel.toNat+1) 0 (List.replicate f.regs.toNat 0) m)=_ from qN hF hk hI hu hst hnz];exact HSub.put (HSub.put (HSub.put (HSub.none _) rfl) rfl) rfl
   refine acf ?_;have hnz:=hb4;refine wk 3 ?_;refine aq 36 (Bj rfl rfl hjl (hfl k hkm)) ?_;refine wk 2 ?_;exact⟨⟨r.j+1,(mone call s u r.regs (AK fuel r.m).2).1,(mone call s u r.regs (AK fuel r.m).2).2⟩,Drop.mk' SR Re,(hI.next hcg hcs hu huw hst hnz),(by show k.ins.length-(r.j+1)<k.ins.length-r.j;omega)⟩
  refine acf ?_;have hge:=F7 hb2;refine wk 5 ?_;refine ax 54 (VZ (WZ b s fuel r.m hfu) [2,1,0] [(0,(.row false 9 [Ee b s fuel (AK fuel r.m).2])),(1,(.row true 1 (Bn ((AK fuel r.m).2).words))),(2,(.row true 1 (AR ((AK fuel r.m).2).out)))] rfl Tryz.func52 (by kernel_rfl) rfl rfl rfl ⟨⟨_,rfl,rfl⟩,⟨_,rfl,rfl⟩,⟨_,rfl,rfl⟩,trivial⟩ rfl (AH rfl (AH rfl (AH rfl (BE _)))) ⟨⟨_,rfl,rfl,rfl⟩,⟨_,rfl,rfl,rfl⟩,⟨_,rfl,rfl,rfl⟩,trivial⟩ rfl) ?_;refine wk 2 ?_;refine EP 56 (fun hb5=>?_) fun hb5=>?_
  .
   refine wk 7 ?_;exact mr
  have hst:(AK fuel r.m).1=true:=by simpa using hb5
  refine wk 5 ?_;refine asp 60 (fun hb6=>?_) fun hb6=>?_
  .
   refine wk 2 ?_;exact mr
  refine wk 14 ?_;refine EP 66 (fun hb7=>?_) fun hb7=>?_
  .
   have hv:=lI hks.1 hb7;refine wk 3 ?_;refine aq 70 (Ab Ag rfl rfl rfl rfl rfl rfl rfl (by rw[Ap,hI.len]) rfl hv.1 (by have:=hv.2;omega)) ?_;refine aq 71 (At Ag rfl rfl rfl (.ptr _ _ _ _ _ _ _ _ rfl (by rw[Ap,hI.len]) (D9 (by have:=hv;have:=hI.len;omega))) rfl) ?_;refine wk 3 ?_;refine asp 73 (fun hb8=>?_) fun hb8=>?_
   .
    refine wk 6 ?_;exact jR
   refine wk 2 ?_;exact jR
  refine wk 10 ?_;exact jR
 refine acf ?_;have hbad:=hb1;refine wk 1 ?_;exact absurd hF.fin (by simpa using hbad)
theorem dT(b:Blocks)(s:ByteArray)(fuel:Int)(hfu:fuel<=9223372036854775807)(hs:s.size<=9223372036854775807)(hb:b.right=true)(hbw:b.insW)(hbl: ∀f∈b.funcs,∀x∈f.blocks,x.ins.length<=maxLen):
 ∀(n:Nat) (i:Int) (m:Mach),0<=i->i<n->i<b.funcs.length->m.fin=0->m.good b.words.toNat->ACall Tryz.prog 39 [.ptr 0 1 0 0,.int .i64 i] (Ic hNew b s fuel m) (fun r h'=>r= .tup []/\HSub (Ic hNone b s fuel (EB b s fuel n i m)) h')
 | 0,i,m,h1,h2,_,_,_=>absurd h2 (by omega)
 | n+1,i,m,h1,h2,h3,h4,h5=>by
  obtain⟨f,hf⟩:=Ae (l:=b.funcs) (k:=i.toNat) (by omega);have hr:=HC hb;have hfm:=List.mem_of_getElem? hf;have hone:f.one i b.words=true:=by
   have:=hr.2.2.2 i.toNat f hf;rwa[Int.toNat_of_nonneg h1]at this
  have key:=dS b s fuel (EB b s fuel n) i f m hfu hs hr.2.1 hf h1 hone (hbw f hfm) (hbl f hfm)
   (fun j m' j1 j2 j3 j4=>dT b s fuel hfu hs hb hbw hbl n j m' j1 (by omega) (by omega) j3 j4) (fun j m' hg=>Qm hbw n j m' hg) (fun j m'=>HQ n j m') h5 h4
  have e:EB b s fuel (n+1) i m=FV (EB b s fuel n) s fuel f (fuel.toNat+1) 0 (List.replicate f.regs.toNat 0) m:=by
   rw[EB,hf]
  rw[e];exact key
theorem bu(b:Blocks)(s:ByteArray)(fuel:Int)(hfu:fuel<=9223372036854775807)(hs:s.size<=9223372036854775807)(hb:b.right=true)(hbw:b.insW)(hbl: ∀f∈b.funcs,∀x∈f.blocks,x.ins.length<=maxLen):APure Tryz.prog 26 [.agg b.cells,.str s,.int .i64 fuel] (fun r=>r= .agg (bB (E1 b s fuel))):=by
 have hr:=HC hb;have hne:0<b.funcs.length:=List.length_pos_iff.2 hr.2.2.1;refine APure.of_body (n:=51) Ag Tryz.func26 rfl rfl ?_;refine asq ?_;refine I9 0 rfl (fun H ι v=>NM) (fun hfit=>?_);refine XT ?_;refine ax 3 (GJ 2 3) ?_;refine ax 6 (EO Ag 4) ?_;refine wk 9 ?_;refine asp 11 (fun hb1=>?_) fun hb1=>?_
 .
  refine wk 7 ?_;exact absurd hne (by have h:=hb1;simp[FY]at h;simp[h])
 refine wk 3 ?_;refine AGo.join (γ:=Unit) (fun _u=>⟨51,(Aa (Aa (Aa (Aa (Aa A9 0 (.agg b.cells)) 1 (.str s)) 3 (.ptr 3 1 0 0)) 6 (.ptr 4 1 0 0)) 2 (.int .i64 (CC fuel))),(hput (hput (hput (hput (hput (BK 5) 3 (.row false 2 [b.cells])) 4 (.row false 3 [[.int .i64 0,.str .empty,.int .i64 0]])) 0 .free) 1 .free) 2 .free)⟩) (fun _u=>True) ?_ ?_
 .
  refine wk 5 ?_;refine asp 14 (fun hb2=>?_) fun hb2=>?_
  .
   refine wk 4 ?_;exact mD
  refine wk 2 ?_;exact mD
 intro _u _;refine asq ?_;have hfu0:CC fuel<=9223372036854775807:=by unfold CC;cases decide (fuel<0)<;>simp<;>omega
 have m0_good:(m0 b).good b.words.toNat:=⟨by simp[m0],Pd _,by simp[m0]⟩;refine wk 6 ?_;refine dx 20 (AA Ag (n:=b.words.toNat) (m:=b.words.toNat) 1 true rfl rfl rfl (by have:=hr.1;omega) (by have:=hr.1;omega) rfl rfl rfl rfl rfl (Nat.zero_lt_succ _) rfl (Nat.le_refl _) (by show 4*b.words.toNat<=_;have:=hr.2.1;omega) (by simp only[maxLen];have:=hr.2.1;omega)) ?_;refine wk 1 ?_;refine dx 22 (GJ 9 0) ?_;refine wk 3 ?_;refine AGo.ghost (.dryCell 0 0 5 2 1 true rfl rfl rfl rfl rfl (by decide)) ?_;refine AGo.sub (s':=⟨51,(Aa (Aa (Aa (Aa (Aa A9 0 (.agg b.cells)) 1 (.str s)) 3 (.ptr 3 1 0 0)) 6 (.ptr 4 1 0 0)) 7 (.ptr 0 1 0 0)),(hput (hput (hput (hput (hput hNone 0 (.row false 9 [Ee b s (CC fuel) (m0 b)])) 1 (.row true 1 (Bn ((m0 b)).words))) 2 (.row true 1 (AR ((m0 b)).out))) 3 (.row false 2 [b.cells])) 4 (.row false 3 [[.int .i64 0,.str .empty,.int .i64 0]]))⟩) (Sub.mk' Cf tH) ?_;refine XT ?_
 have hmx:=hfit.1;refine wk 4 ?_;refine aq 27 (AU (r:=.int .i64 ((b.funcs.length:Int)-1)) rfl rfl rfl (by simp only[AI,Bm,isShift,cond_false,if_true];rw[List.length_map,BD (by omega) (by simp only[maxLen]at hmx;omega)])) ?_;refine ax 28 (VZ (dT b s (CC fuel) hfu0 hs hb hbw hbl b.funcs.length ((b.funcs.length:Int)-1) (m0 b) (by omega) (by omega) (by omega) rfl m0_good) [2,1,0] [(0,(.row false 9 [Ee b s (CC fuel) (EB b s (CC fuel) b.funcs.length ((b.funcs.length:Int)-1) (m0 b))])),(1,(.row true 1 (Bn ((EB b s (CC fuel) b.funcs.length ((b.funcs.length:Int)-1) (m0 b))).words))),(2,(.row true 1 (AR ((EB b s (CC fuel) b.funcs.length ((b.funcs.length:Int)-1) (m0 b))).out)))] rfl Tryz.func39 (by kernel_rfl) rfl rfl rfl ⟨⟨_,rfl,rfl⟩,⟨_,rfl,rfl⟩,⟨_,rfl,rfl⟩,trivial⟩ rfl (AH rfl (AH rfl (AH rfl (BE _)))) ⟨⟨_,rfl,rfl,rfl⟩,⟨_,rfl,rfl,rfl⟩,⟨_,rfl,rfl,rfl⟩,trivial⟩ rfl) ?_
 refine wk 2 ?_;refine AGo.join (γ:=Mach) (fun m=>⟨51,(Aa (Aa (Aa (Aa (Aa A9 0 (.agg b.cells)) 1 (.str s)) 3 (.ptr 3 1 0 0)) 6 (.ptr 4 1 0 0)) 7 (.ptr 0 1 0 0)),(hput (hput (hput (hput (hput hNone 0 (.row false 9 [Ee b s (CC fuel) m])) 1 (.row true 1 (Bn (m).words))) 2 (.row true 1 (AR (m).out))) 3 (.row false 2 [b.cells])) 4 (.row false 3 [[.int .i64 0,.str .empty,.int .i64 0]]))⟩) (fun m=>m=E1 b s fuel) ?_ ?_
 .
  refine wk 8 ?_;refine asp 33 (fun hb3=>?_) fun hb3=>?_
  .
   refine wk 7 ?_;exact⟨{(EB b s (CC fuel) b.funcs.length ((b.funcs.length:Int)-1) (m0 b))with fin:=1},Sub.mk' Cf Fz,(by simp[E1, *])⟩
  refine wk 2 ?_;exact⟨(EB b s (CC fuel) b.funcs.length ((b.funcs.length:Int)-1) (m0 b)),Sub.mk' Cf Fz,(by simp[E1, *])⟩
 intro m hm;refine asq ?_;refine AGo.ghost (.freezeCell 0 0 5 2 rfl rfl rfl rfl (by simp[AR]) (by decide)) ?_;refine wk 9 ?_;refine dq 45 (VG (l:=m.out) Ag rfl (by show some (AV.lst false _)=_;rw[List.drop_zero,List.take_of_length_le (by simp[AR])]) rfl rfl rfl rfl rfl rfl) ?_;refine wk 8 ?_;refine⟨[_],⟨⟨_,_,_,_,rfl,rfl,.ptr _ _ _ _ _ _ _ _ rfl rfl rfl,rfl⟩,trivial⟩,?_,rfl⟩;subst hm;rfl
theorem fi(a b:Blocks)(s:ByteArray)(n:Int)(hn:0<=n/\n<=1000)(hs:s.size<=1000000)(ha:a.right=true)(hb:b.right=true)(haw:a.insW)(hbw:b.insW)(hac:a.count<=1048576)(hbc:b.count<=1048576)(hP:PS a b):APure Tryz.prog 19 [.agg a.cells,.agg b.cells,.str s,.int .i64 n] (fun r=>r= .bool true):=by
 have hcap:=cR a s hn.1;have hrun:(E1 a s n).fin≠5->(E1 b s (((((E1 a s n).steps+1)*(b.count+1):Nat):Nat):Int)).fin=(E1 a s n).fin/\(E1 b s (((((E1 a s n).steps+1)*(b.count+1):Nat):Nat):Int)).out=(E1 a s n).out:=fun h=>YE hP s n (K:=b.count+1) (fun f hf x hx=>by have:=L2 hf hx;omega) (by rw[Nat.mul_comm];exact Int.le_refl _) h
 have hmul:((E1 a s n).steps+1)*(b.count+1)<=1001*1048577:=Nat.mul_le_mul (by omega) (by omega);refine APure.of_body (n:=40) Ag Tryz.func19 rfl rfl ?_;refine MJ ?_;refine ax 4 (GJ 2 0) ?_;refine ax 5 (GJ 2 1) ?_;refine wk 7 ?_;refine ax 14 (DQ Tryz.func26 (bu a s n (by omega) (by omega) ha haw (fun f hf x hx=>by have:=L2 hf hx;simp only[maxLen];omega))) ?_;refine ax 9 (EO Ag 2) ?_;refine wk 9 ?_;refine asp 17 (fun hb1=>?_) fun hb1=>?_
 .
  refine act ?_
  skip
  refine wk 4 ?_;refine FZ ⟨[_],⟨rfl,trivial⟩,?_,rfl⟩;rfl
 refine acf ?_;have h5:(E1 a s n).fin≠5:=by simpa using hb1
 obtain⟨hr1,hr2⟩:=hrun h5;refine wk 7 ?_;refine dq 22 (AU (r:=.int .i64 (((E1 a s n).steps+1:Nat):Int)) rfl rfl rfl (by simp only[AI,Bm,isShift,cond_false,if_true];rw[BD (by omega) (by omega)];rfl)) ?_;refine wk 1 ?_;refine dx 24 (DQ Tryz.func27 (Ti b (by omega))) ?_;refine dq 25 (AU (r:=.int .i64 ((b.count+1:Nat):Int)) rfl rfl rfl (by simp only[AI,Bm,isShift,cond_false,if_true];rw[BD (by omega) (by omega)];rfl)) ?_;refine dq 26 (AU (r:=.int .i64 ((((E1 a s n).steps+1)*(b.count+1):Nat):Int)) rfl rfl rfl (by simp only[AI,Bm,isShift,cond_false,if_true];rw[<-Int.natCast_mul,BD (by omega) (by omega)])) ?_;refine dx 27 (DQ Tryz.func26 (bu b s ((((E1 a s n).steps+1)*(b.count+1):Nat):Int) (by omega) (by omega) hb hbw (fun f hf x hx=>by have:=L2 hf hx;simp only[maxLen];omega))) ?_;refine dx 10 (EO Ag 3) ?_;refine wk 10 ?_;refine EP 33 (fun hb2=>?_) fun hb2=>?_
 .
  refine wk 8 ?_;refine FZ ⟨[_],⟨rfl,trivial⟩,?_,rfl⟩;refine bc ?_;first |(rw[hr2];simp;done) |(exfalso;simp_all)
 refine wk 8 ?_;refine FZ ⟨[_],⟨rfl,trivial⟩,?_,rfl⟩;refine bc ?_;first |(rw[hr2];simp;done) |(exfalso;simp_all)
theorem ga:APure Tryz.prog 30 [] (fun r=>r= .agg (WW tinyA).cells):=
 Dx (ct:=gU) (fz:=Zq) (lg:=[]) Ag Qh (by kernel_rfl) 1000 (by kernel_rfl) (E3 _)
theorem Rn:FN Tryz.prog Is:=E4 ga (E3 _)
theorem fe(ho:APure Tryz.prog 15 Vj (fun r=>r=WV))(hv:FN Tryz.prog ku):APure Tryz.prog 14 [] (fun r=>r= .bool true):=
 Dx (ct:=ue) (fz:=Zq) (lg:=Is++(ku++(Is++(Is++((15,Vj,WV)::Is))))) Ag Qh (by kernel_rfl) 1000 (by kernel_rfl)
  (Jv Rn (Jv hv (Jv Rn (Jv Rn (E4 ho Rn)))))
theorem Vi:APure Tryz.prog 97 [.agg tinyBl.cells,.int .i64 3] (fun r=>r=Rl):=by
 have hT: ∀t∈tinyBl.ins,t.inR (3:Int):=fun t ht=>by
  simp only[tinyBl,List.mem_cons,List.not_mem_nil,or_false]at ht;rcases ht with rfl | rfl<;>exact⟨by decide,by decide⟩
 have h:=S1 tinyBl 3 (by decide) (by decide) hT (fun h=>absurd h (by decide));have e:AV.tup [.lst false (Bs 3 (JO tinyBl)),.lst false (Bs 3 (fun v=>CL v tinyBl.ins))]=Rl:=by rfl
 rw[e]at h;exact PI rfl h
theorem gb:APure Tryz.prog 15 Vj (fun r=>r=WV):=
 Dx (ct:=tA) (fz:=Zq) (lg:=[(97,[.agg tinyBl.cells,.int .i64 3],Rl)]) Ag Qh (by kernel_rfl) 1000 (by kernel_rfl) (E4 Vi (E3 _))
theorem f7:FN Tryz.prog ku:=
 E4 (Dx (ct:=gU) (fz:=Zq) (lg:=[]) Ag Qh (by kernel_rfl) 1000 (by kernel_rfl) (E3 _))<|
 E4 (Dx (ct:=gU) (fz:=Zq) (lg:=[]) Ag Qh (by kernel_rfl) 1000 (by kernel_rfl) (E3 _))<|
 E4 (Dx (ct:=gU) (fz:=Zq) (lg:=[]) Ag Qh (by kernel_rfl) 1000 (by kernel_rfl) (E3 _)) (E3 _)
set_option maxRecDepth 100000
theorem LC(b:Blocks)(ks:List Int)(s:ByteArray)(hL:b.Lim)(hW:b.insW):APure Tryz.prog 4 [.agg b.cells,A0 ks,.str s] (fun r=>r= .bool true):=by
 have hawake:=fe gb f7;refine APure.of_body (n:=47) Ag Tryz.func4 rfl rfl ?_;refine wk 40 ?_;refine ax 3 (GJ 2 0) ?_;refine wk 40 ?_;refine ax 11 (DQ Tryz.func13 (Vp b hL)) ?_;refine wk 2 ?_;refine EP 13 (fun hb1=>?_) fun hb1=>?_
 . refine wk 40 ?_;exact fK
 have hsm:GO b=true:=by simpa using hb1
 refine wk 5 ?_;refine EP 18 (fun hb2=>?_) fun hb2=>?_
 . refine wk 40 ?_;exact fK
 have hkl:ks.length<=6:=by have:=hb2;simp[A0]at this;omega
 refine wk 5 ?_;refine EP 23 (fun hb3=>?_) fun hb3=>?_
 . refine wk 40 ?_;exact fK
 have hsl:s.size<=60:=by have:=hb3;simp at this;omega
 refine wk 1 ?_;refine ax 25 (DQ Tryz.func16 (VU ks (by omega))) ?_;refine wk 40 ?_;refine asp 27 (fun hb4=>?_) fun hb4=>?_
 . refine wk 40 ?_;exact fK
 have hps:ks.all kind35=true:=by have:=hb4;simp at this;exact List.all_eq_true.2 this.1
 have hall:=All35.of hsm hW;have hopt:=hall.opt ks;refine wk 40 ?_;refine ax 32 (DQ Tryz.func15 (lh b hall ks (by omega) (fun k hk=>List.all_eq_true.1 hps k hk))) ?_;refine wk 40 ?_;refine ax 7 (EO Ag 1) ?_;refine wk 40 ?_;refine ax 36 (DQ Tryz.func14 hawake) ?_;refine wk 40 ?_;refine ax 45 (DQ Tryz.func19 (fi b (TM b ks) s 300 (by decide) (by omega) hall.r hopt.r hW hopt.insW (Nat.le_trans hall.count (by decide)) (Nat.le_trans hopt.count (by decide)) (hall.ps ks))) ?_;refine wk 40 ?_;exact⟨[_],⟨rfl,trivial⟩,rfl,rfl⟩
theorem KF(b:Blocks)(ks:List Int)(s:ByteArray)(hb:b.Lim/\b.insW)(hk:ks.length<=1048576)(hs:s.size<=maxLen):APure Tryz.prog 4 [.agg b.cells,A0 ks,.str s] (fun r=>r= .bool true):=LC b ks s hb.1 hb.2
end Go.Proofs.YtbbfelelocccmaaGreat.Sv
namespace Go.Proofs.YtbbfelelocccmaaGreat
open Go.ChangeShapes Go.WideShapes Go.ChangeAt Go.RowKit Sv
set_option linter.unusedVariables false

set_option maxRecDepth 100000 in
theorem optimizeMeans_lifted(os:Os)(started:os.Started)(H:Type)(enc:TypeId×Value->H)(F:Stop.Interp):
 ReturnsInHanded {} Tryz.checked os 4 .any ((Rows.OpenSpec.upto Rows.optimizeMeansSpec).pre6 enc Tryz.prog Tryz.f4 Rows.optimizeMeansUptoRow.domain false) (((Rows.OpenSpec.upto Rows.optimizeMeansSpec).at F).post enc Tryz.prog Tryz.f4 false true false false):=by
 refine returnsInHanded_of_cond_sized (C:=Tryz.checked) (s:=Rows.OpenSpec.upto Rows.optimizeMeansSpec) (k:=Rows.uptoSmall) rfl own' started (by kernel_rfl) Tryz.func4
  (OpenSpec.witness (enc:=enc) (C:=Tryz.checked) (s:=Rows.OpenSpec.upto Rows.optimizeMeansSpec) (k:=Rows.uptoSmall) rfl false ⟨#[],#[.agg #[.int .i64 0,.slice none 0 0],.slice none 0 0,.string ⟨#[]⟩],[]⟩ 8 (by kernel_rfl) (by kernel_rfl) (by kernel_rfl) (x:=([.agg [.lit (.int .i64 0),.nil],.nil,.lit (.string [])],[],[])) (by kernel_rfl) rfl (by kernel_rfl)) ?_
 intro W base args ds gs before hval0 hW hcnd hk hwt0 hh;have hval: ∀(j:Nat) t v,Tryz.f4.params[j]?=some t->args[j]?=some v->Value.okWide Tryz.prog W .any base t v:=hval0
 have hW':=hW;obtain⟨p,q,hA0,hV,rfl,hfz,hnd⟩:=hW;have hA:DataW.TrodAll enc Tryz.prog W 0 (fun _=>true) true Tryz.f4.params.toList args.toList ds p:=hA0;have hwt:(DataW.weightsEach Tryz.prog (Tryz.f4.params.toList++(Rows.OpenSpec.upto Rows.optimizeMeansSpec).bare.plain.varTypes Tryz.prog) (ds++gs)).all (· <=reachBytes)=true:=hwt0;rw[Tryz.params4]at hA hval hwt;obtain⟨v0,vs0,d0,ds0,p0,q0,hargs,rfl,rfl,h0,r0⟩:=trodAll_cons hA;obtain⟨v1,vs1,d1,ds1,p1,q1,rfl,rfl,rfl,h1,r1⟩:=trodAll_cons r0;obtain⟨v2,vs2,d2,ds2,p2,q2,rfl,rfl,rfl,h2,r2⟩:=trodAll_cons r1;obtain⟨rfl,rfl,rfl⟩:=trodAll_nil r2;obtain rfl:args= #[v0,v1,v2]:=by cases args;simp_all
 obtain⟨rfl,rfl⟩:=trodVars_none hV;obtain⟨x0,e0,g0⟩:=arg_oneR h0 (weightsEach_get hwt (i:=0) rfl rfl) decBlocksR;have u0:=upto_get hk (i:=0) rfl;obtain⟨x1,e1,g1⟩:=arg_oneR h1 (weightsEach_get hwt (i:=1) rfl rfl) decIntsR;have u1:=upto_get hk (i:=1) rfl;obtain⟨x2,e2,g2⟩:=arg_oneR h2 (weightsEach_get hwt (i:=2) rfl rfl) decStrR;have u2:=upto_get hk (i:=2) rfl;exact Zj laidOut' rfl (by kernel_rfl) rfl bool' rfl rfl rfl hW' (.cons (e0.val (VX Ag rfl rfl (hval 0 24 v0 rfl rfl))) (.cons (e1.val1 (okWide_cell Ag rfl rfl (hval 1 _ v1 rfl rfl))) (.cons (e2.val1 (okWide_cellS Ag rfl rfl (hval 2 9 v2 rfl rfl))) .nil))) (KF x0 x1 x2 (blocksI_row g0 u0) (ints23_row g1 u1) (str23_row g2 u2)) (fun g l h=>by cases h)

theorem optimizeMeans_holds:Rows.OptimizeMeansUptoSaid:=
 OpenClaim.holds_of_cond 4 Tryz.f4 rfl rfl rfl rfl rfl rfl rfl ⟨rfl,rfl,rfl,rfl,rfl⟩ rfl rfl rfl rfl rfl (by kernel_rfl) Tryz.func4 (by kernel_rfl)
  (of_decide_eq_true (by kernel_rfl)) (by unfold Func.isWrapper;first |(rw[if_pos (by decide+kernel)];kernel_rfl) |(rw[if_neg (by decide+kernel)];exact⟨rfl,rfl⟩))
  (fun os started H enc _ F=>optimizeMeans_lifted os started H enc F)

end Go.Proofs.YtbbfelelocccmaaGreat
