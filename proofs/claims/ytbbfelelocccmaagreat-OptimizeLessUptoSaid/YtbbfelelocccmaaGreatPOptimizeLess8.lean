/-
  The law OptimizeLess of the given program answers true for every input of the bulk that is named, and leaves its arguments as they were. Own work.
-/
import Derived.Test.YtbbfelelocccmaaGreatPOptimizeLess6
import Derived.Test.YtbbfelelocccmaaGreatPOptimizeLess7
import Derived.Test.YtbbfelelocccmaaGreatPOptimizeLess2
import Derived.Test.YtbbfelelocccmaaGreatPOptimizeLess4
import Derived.Test.YtbbfelelocccmaaGreatPOptimizeLess3
import Derived.Test.YtbbfelelocccmaaGreatPOptimizeLess5
import Derived.Deep.CondSized
import Derived.JoinedCond
set_option linter.unusedVariables false
set_option linter.unusedSimpArgs false
set_option maxRecDepth 100000
set_option maxHeartbeats 2000000
namespace Go.Proofs.YtbbfelelocccmaaGreat.Sv
open Go
theorem SK(f:BFunc)(hs:f.sane)(R:Nat)(hRf:f.regs=(R:Int))(st:RSd)(hq:QId R st)(v:Nat)(hv:v<R)(hn:f.blocks.length<=100000)(hR:R<=100000)(hi: ∀x∈f.blocks,x.ins.length<=100000):ACall Tryz.prog 59 [.ptr 2 1 0 0,.int .i64 (v:Int)] (DH (Ip f R (SB f) (st.es) (st.ws.length) (st.w)) (DF f R (SB f) st.G)) (fun r h'=>r= .tup []/\HSub (EV hNone (DH (Ip f R (SB f) (HO f v st).es (HO f v st).ws.length (HO f v st).w) (DF f R (SB f) (HO f v st).G))) h'):=by
 obtain⟨inn,hinn⟩: ∃inn:Nat->Bool,inn=fun b=>UC (Ct f st.G) v b:=⟨_,rfl⟩
 refine ACall.of_body (n:=109) Ag Tryz.func59 rfl rfl ?_;refine wk 8 ?_;refine aq 18 (Ab Ag rfl rfl rfl rfl rfl rfl rfl (An _ _).symm rfl (Int.natCast_nonneg _) (by omega)) ?_;refine aq 19 (At Ag rfl rfl rfl (.ptr _ _ _ _ _ _ _ [oR f.blocks.length R (SB f) v] BC (An _ _).symm Yl) rfl) ?_;refine aq 20 (FM Ag rfl rfl rfl rfl) ?_;refine wk 2 ?_;refine asp 21 (fun hb1=>?_) fun hb1=>?_
 .
  refine act ?_;have hz0:(FE f v).length=0:=by have h:=hb1;rw[Ea]at h;simp only[beq_iff_eq]at h;exact Int.ofNat_inj.1 h
  refine GN ?_;rw[YY hz0];exact fO
 refine acf ?_
 skip
 refine wk 5 ?_;refine AOps.call 24 (hn:=EV _ (DH (Ip f R (SB f) (st.es) (st.ws.length) (st.w)) (DF f R (SB f) st.G))) (r:=Cu (Hb f.blocks.length inn)) rfl rfl rfl (Em (Ip f R (SB f) (st.es) (st.ws.length) (st.w)) (Ip f R (SB f) (st.es) (st.ws.length) (st.w)) (DF f R (SB f) st.G) rfl Tryz.func84 (by kernel_rfl) rfl rfl rfl rfl rfl (Cf _ _ _ _ _ _) (Cf _ _ _ _ _ _) Rt G6 (Bd CF f R _ _) (Bd CF f R _ _) rfl (by rw[hinn];exact U0 f hs R st.G st.es st.ws.length st.w v hv hn hR hi)) ?_;refine wk 9 ?_;refine aq 30 (Ab Ag rfl rfl rfl rfl rfl rfl BC (An _ _).symm rfl (Int.natCast_nonneg _) (by omega)) ?_;refine aq 31 (At Ag rfl rfl rfl (.ptr _ _ _ _ _ _ _ [oR f.blocks.length R (SB f) v] BC (An _ _).symm Yl) rfl) ?_;refine aq 32 (FM Ag rfl rfl rfl rfl) ?_;refine wk 3 ?_;refine Bc (γ:=Nat) (kf 8) (fun k=>⟨109,(Aa (Aa (Aa (Aa (Aa (Aa Ba 0 (.ptr 2 1 0 0)) 1 (.int .i64 (v:Int))) 4 (Cu (Hb f.blocks.length inn))) 31 (oR f.blocks.length R (SB f) v)) 32 (.int .i64 ((JX f.blocks.length R (SB f) v).length:Int))) 33 (.int .i64 (k:Int))),(HA (nb [.free,.free,(.row false 8 [Ta f R ((Kd f inn v st k).es).length ((Kd f inn v st k).ws.length)]),(.row false 1 (Ay (aR (Aw f)) f.blocks.length)),(.row false 1 (Ay (oR f.blocks.length R (SB f)) R)),(.row false 1 (Ay (gR f) f.blocks.length)),(.row true 1 ((Kd f inn v st k).es)),(.row true 1 (bC R ((Kd f inn v st k).w)))]) (DF f R (SB f) (Kd f inn v st k).G))⟩) (fun k=>k<=(FE f v).length/\QId R (Kd f inn v st k)) (fun k=>(FE f v).length-k) 0 (Sub.mk' (by repeat(first | exact ESub.new _ | refine ESub.put ?_ (by first | rfl))) (B1 (k0:=8) rfl tD G6 fD)) ⟨Nat.zero_le _,hq⟩ (fun g b hb=>BI (k0:=8) rfl hb) ?_
 intro k hQ;generalize hK:(Kd f inn v st k)=q at hQ |-;refine wk 5 ?_;refine asp 34 (fun hb2=>?_) fun hb2=>?_
 .
  refine act ?_;have hkl:k<(FE f v).length:=by have h:=hb2;rw[Ea]at h;simp only[decide_eq_true_eq]at h;exact Int.ofNat_lt.1 h
  obtain⟨i,hgi⟩:=Ae hkl;have hig:i<f.blocks.length/\0<(SB f i v).length:=SC (S:=SB f) hgi;obtain⟨x,hx⟩:=Ae hig.1;have hxm:=List.mem_of_getElem? hx;refine wk 5 ?_;refine aq 35 (N2 Ag rfl rfl rfl rfl rfl rfl ((Ao _ _ _).trans (congrArg some (S4 hv))) rfl (Int.natCast_nonneg _) (by rw[Ea];exact Int.ofNat_lt.2 hkl)) ?_;refine aq 36 (At Ag rfl rfl rfl (.ptr _ _ _ _ false 2 (JX f.blocks.length R (SB f) v) (UI R (SB f) v i) ((Ao _ _ _).trans (congrArg some ((S4 hv).trans (RQ (k:=k) (by rw[Ea];exact hkl))))) rfl (by rw[Int.toNat_natCast];show((FE f v).map (UI R (SB f) v))[_]?=_;rw[List.getElem?_map,hgi];rfl)) rfl) ?_;refine ax 6 (HU Ag 8 rfl rfl BC rfl (Nat.zero_lt_succ _) rfl) ?_;refine wk 15 ?_;refine dq 43 (Au Ag rfl rfl rfl rfl rfl rfl (Int.natCast_nonneg _) (AO (CL hx)) rfl) ?_;refine wk 5 ?_;refine Bc (γ:=Nat) (kf 9) (fun j=>⟨109,(Aa (Aa (Aa (Aa (Aa (Aa (Aa (Aa (Aa (Aa (Aa Ba 0 (.ptr 2 1 0 0)) 1 (.int .i64 (v:Int))) 4 (Cu (Hb f.blocks.length inn))) 31 (oR f.blocks.length R (SB f) v)) 32 (.int .i64 ((JX f.blocks.length R (SB f) v).length:Int))) 33 (.int .i64 (k:Int))) 6 (.ptr 8 1 0 0)) 7 (.bool (U9 inn x j))) 44 (AZ x.nexts)) 45 (.int .i64 (x.nexts.length:Int))) 46 (.int .i64 (j:Int))),(HA (nb [.free,.free,(.row false 8 [Ta f R (q.es).length (q.ws.length)]),(.row false 1 (Ay (aR (Aw f)) f.blocks.length)),(.row false 1 (Ay (oR f.blocks.length R (SB f)) R)),(.row false 1 (Ay (gR f) f.blocks.length)),(.row true 1 (q.es)),(.row true 1 (bC R (q.w))),(.row false 2 [UI R (SB f) v i])]) (DF f R (SB f) q.G))⟩) (fun j=>True) (fun j=>x.nexts.length-j) 0 (Sub.mk' Ez (B1 (k0:=9) rfl re FX Ym)) trivial (fun g b hb=>BI (k0:=9) rfl hb) ?_
  intro j _;refine wk 5 ?_;refine asp 47 (fun hb3=>?_) fun hb3=>?_
  .
   refine act ?_;have hjl:j<x.nexts.length:=by have h:=hb3;simp[AZ]at h;exact h
   obtain⟨d,hd⟩:=Ae hjl;have hd0:=hs.next x hxm d (List.mem_of_getElem? hd);have hdn:d.toNat<f.blocks.length:=by omega
   refine wk 5 ?_;refine aq 48 (MT Ag (AO hd)) ?_;refine wk 6 ?_;refine EY 51 (fun hb4=>?_) fun hb4=>?_
   .
    refine wk 8 ?_;exact mO
   refine wk 2 ?_;have hz9:=hb4;refine aq 54 (Au Ag rfl rfl rfl rfl rfl rfl hd0.1 (AO (Ub hdn)) rfl) ?_;refine wk 5 ?_;exact mO
  refine acf ?_;have hjge:x.nexts.length<=j:=by have h:=hb3;simp[AZ]at h;omega
  refine wk 6 ?_;refine aq 61 (A2 (r:=.int .i64 ((((Hp f v i).length-0:Nat):Int)-1)) rfl rfl rfl (YW (by have h1:(SB f i v).length<=x.ins.length+1:=MZ hx;have:=hi x hxm;omega))) ?_;refine wk 3 ?_;refine Bc (γ:=Nat) (kf 9) (fun m=>⟨109,(Aa (Aa (Aa (Aa (Aa (Aa (Aa (Aa (Aa Ba 0 (.ptr 2 1 0 0)) 1 (.int .i64 (v:Int))) 4 (Cu (Hb f.blocks.length inn))) 31 (oR f.blocks.length R (SB f) v)) 32 (.int .i64 ((JX f.blocks.length R (SB f) v).length:Int))) 33 (.int .i64 (k:Int))) 6 (.ptr 8 1 0 0)) 7 (.bool (CJ inn v x i q m).2)) 10 (.int .i64 ((((Hp f v i).length-m:Nat):Int)-1))),(HA (nb [.free,.free,(.row false 8 [Ta f R ((CJ inn v x i q m).1.es).length ((CJ inn v x i q m).1.ws.length)]),(.row false 1 (Ay (aR (Aw f)) f.blocks.length)),(.row false 1 (Ay (oR f.blocks.length R (SB f)) R)),(.row false 1 (Ay (gR f) f.blocks.length)),(.row true 1 ((CJ inn v x i q m).1.es)),(.row true 1 (bC R ((CJ inn v x i q m).1.w))),(.row false 2 [UI R (SB f) v i])]) (DF f R (SB f) (CJ inn v x i q m).1.G))⟩) (fun m=>m<=(Hp f v i).length/\QId R (CJ inn v x i q m).1) (fun m=>(Hp f v i).length-m) 0 (Sub.mk' (by repeat(first | exact ESub.new _ | refine ESub.put ?_ (by first | rfl | exact congrArg (fun z=>some (AV.bool z)) (fh hjge) | exact congrArg (fun(n:Nat)=>some (AV.int .i64 (n:Int))) (by simp)))) (B1 (k0:=9) rfl re FX Ym)) ⟨Nat.zero_le _,hQ.2⟩ (fun g b hb=>BI (k0:=9) rfl hb) ?_
  intro m hF;generalize hS2:(CJ inn v x i q m)=S2 at hF |-;refine wk 6 ?_;refine asp 63 (fun hb5=>?_) fun hb5=>?_
  .
   refine act ?_;obtain⟨kk,hkk⟩: ∃kk,m+kk+1=(Hp f v i).length:=⟨(Hp f v i).length-m-1,by have h:=hb5;simp at h;omega⟩
   obtain⟨s,hsk⟩:=Ae (l:=Hp f v i) (k:=kk) (by omega);have hat:=Xj hx hsk;rw[show(((Hp f v i).length-m:Nat):Int)-1=(kk:Int) by omega];refine wk 8 ?_;refine aq 69 (Ab Ag rfl rfl rfl rfl rfl rfl ((Ao _ _ _).trans (congrArg some (Nn hv hig.2))) (List.length_map _).symm rfl (Int.natCast_nonneg _) (by show((kk:Nat):Int)<((Hp f v i).length:Int);omega)) ?_;refine aq 70 (At Ag rfl rfl rfl (.ptr _ _ _ _ true 3 ((Hp f v i).map G8) (G8 s) ((Ao _ _ _).trans (congrArg some (Nn hv hig.2))) (List.length_map _).symm (by rw[Nat.zero_add,Int.toNat_natCast,List.getElem?_map,hsk];rfl)) rfl) ?_;refine ax 11 (HU Ag 9 rfl rfl BC rfl (Nat.zero_lt_succ _) rfl) ?_;refine wk 9 ?_;refine AOps.call 75 (hn:=EV _ (DH (Ip f R (SB f) (S2.1.es) (S2.1.ws.length) (S2.1.w)) (DF f R (SB f) S2.1.G))) (r:=.bool (leftS (S2.1.G i) x.ins.length s)) rfl rfl rfl (Em (Ip f R (SB f) (S2.1.es) (S2.1.ws.length) (S2.1.w)) (Ip f R (SB f) (S2.1.es) (S2.1.ws.length) (S2.1.w)) (DF f R (SB f) S2.1.G) rfl Tryz.func85 (by kernel_rfl) rfl rfl rfl rfl rfl (Cf _ _ _ _ _ _) (Cf _ _ _ _ _ _) Rt G6 (Bd CF f R _ _) (Bd CF f R _ _) rfl (U1 f R (SB f) S2.1.G S2.1.es S2.1.ws.length S2.1.w i x hx s hat)) ?_
   refine wk 2 ?_;refine asp 76 (fun hb6=>?_) fun hb6=>?_
   .
    refine act ?_;have hlf:leftS (S2.1.G i) x.ins.length s=false:=by have h:=hb6;simpa using h
    have hnx2:CJ inn v x i q (m+1)=S2:=by rw[Fv (by rw[<-DJ hx];exact hsk) (by rw[<-DJ hx];exact hkk),hS2];exact VQ hlf
    refine wk 3 ?_;exact rd
   refine acf ?_;have hlf:leftS (S2.1.G i) x.ins.length s=true:=by have h:=hb6;simpa using h
   refine wk 7 ?_;refine asp 78 (fun hb7=>?_) fun hb7=>?_
   .
    refine act ?_;have hss:s.s=true:=hb7;obtain⟨t,ht⟩:=bw hx hsk hss;have htu: ∀u∈t.uses,0<=u/\u<R:=fun u hu=>by have:=(hs.low x hxm t (List.mem_of_getElem? ht)).2 u hu;rw[hRf]at this;exact this
    refine wk 10 ?_;refine dq 86 (MT Ag (AO hx)) ?_;refine wk 4 ?_;refine dq 91 (MT Ag (AO ht)) ?_;refine wk 1 ?_;refine dx 12 (HU Ag 10 rfl rfl BC rfl (Nat.zero_lt_succ _) rfl) ?_;refine wk 7 ?_;refine EY 95 (fun hb8=>?_) fun hb8=>?_
    .
     refine wk 1 ?_;have hz:=hb8;refine ax 97 (DX Tryz.func86 (ew _)) ?_;refine wk 2 ?_;refine asp 98 (fun hb9=>?_) fun hb9=>?_
     .
      refine act ?_;have hnx2:CJ inn v x i q (m+1)=(BW i s.at_ t.uses S2.1,S2.2):=by rw[Fv (by rw[<-DJ hx];exact hsk) (by rw[<-DJ hx];exact hkk),hS2];exact Tu hlf ht hss (by have h:=hz;simpa using h) hb9
      refine wk 8 ?_;refine AOps.call 105 (hn:=EV _ (DH (Ip f R (SB f) ((BW i s.at_ t.uses S2.1).es) ((BW i s.at_ t.uses S2.1).ws.length) ((BW i s.at_ t.uses S2.1).w)) (DF f R (SB f) (BW i s.at_ t.uses S2.1).G))) (r:=.tup []) rfl rfl rfl (Em (Ip f R (SB f) (S2.1.es) (S2.1.ws.length) (S2.1.w)) (Ip f R (SB f) ((BW i s.at_ t.uses S2.1).es) ((BW i s.at_ t.uses S2.1).ws.length) ((BW i s.at_ t.uses S2.1).w)) (DF f R (SB f) (BW i s.at_ t.uses S2.1).G) rfl Tryz.func87 (by kernel_rfl) rfl rfl rfl rfl rfl (Cf _ _ _ _ _ _) (Cf _ _ _ _ _ _) Rt G6 (Bd CF f R _ _) (Bd CF f R _ _) rfl (ZT f R (SB f) S2.1.G S2.1.es S2.1.ws S2.1.w i s.at_ x hx (List.getElem?_eq_some_iff.1 ht).1 t htu hR hF.2)) ?_;refine wk 4 ?_;refine aq 65 (A2 (r:=.int .i64 ((((Hp f v i).length-(m+1):Nat):Int)-1)) rfl rfl rfl (i7 hkk (by have:=MZ hx (v:=v);have:=hi x hxm;omega))) ?_;refine wk 2 ?_;exact⟨m+1,DropK.mk' m4 (Bm (k0:=9) rfl tE na (Bd (Ar _) f R _ _)),⟨by omega,by rw[hnx2];exact hF.2.leaveR htu⟩,(by omega)⟩
     refine acf ?_;have hk2:s.s=true->∀t,x.ins[s.at_]?=some t->(!S2.2&&t.pure)=false:=fun _ t' e=>by
      rw[ht]at e;cases e;first |(rw[show t.pure=false from hb9];exact Bool.and_false _) |(rw[hz];rfl)
     refine wk 9 ?_;refine asp 107 (fun hb10=>?_) fun hb10=>?_
     .
      refine act ?_;have hr:s.r=true:=hb10;exact jI
     refine acf ?_;have hr:s.r=false:=hb10;exact jH
    refine wk 1 ?_;have hz:=hb8;refine wk 4 ?_;have hk2:s.s=true->∀t,x.ins[s.at_]?=some t->(!S2.2&&t.pure)=false:=fun _ t' e=>by
     rw[ht]at e;cases e;first |(rw[show t.pure=false from hb8];exact Bool.and_false _) |(rw[hz];rfl)
    refine wk 9 ?_;refine asp 107 (fun hb11=>?_) fun hb11=>?_
    .
     refine act ?_;have hr:s.r=true:=hb11;exact jI
    refine acf ?_;have hr:s.r=false:=hb11;exact jH
   refine acf ?_;have hss:s.s=false:=hb7;have hk2:s.s=true->∀t,x.ins[s.at_]?=some t->(!S2.2&&t.pure)=false:=fun e=>by rw[hss]at e;cases e
   refine wk 6 ?_;refine asp 107 (fun hb12=>?_) fun hb12=>?_
   .
    refine act ?_;have hr:s.r=true:=hb12;exact jI
   refine acf ?_;have hr:s.r=false:=hb12;exact jH
  refine acf ?_;have hmge:(Hp f v i).length<=m:=by have h:=hb5;simp at h;omega
  have hnx:Kd f inn v st (k+1)=S2.1:=by rw[<-YZ hgi hx hmge,hK,hS2]
  refine wk 2 ?_;refine aq 108 (Bk rfl rfl hkl jS) ?_;refine wk 2 ?_;exact⟨k+1,DropK.mk' (by repeat(first | exact EDropK.new _ _ | refine EDropK.put ?_ (by first | rfl | exact congrArg (fun(n:Nat)=>some (AV.int .i64 (n:Int))) (by simp)) (by first | rfl | exact A4 (Ar _) _ _ _ _))) (Bm (k0:=8) rfl (by repeat(first | exact trivial | refine⟨⟨by first | rfl | exact BT rfl |(rw[hnx];first | rfl | exact BT rfl),by first | rfl | exact Ad (fun _ _=>Bf (Ar _) _ _) | exact Ad (fun _ _=>A4 (Ar _) _ _ _ _) | exact Ad (fun _ _=>BZ (Ar _) _ _) | exact EM _⟩,?_⟩)) (fun x_=>by rw[hnx];(try simp only[hputs]);(try dsimp only);first | exact Ao _ _ _ | exact(EG _ _ x_).trans (Ao _ _ _)) (Bd (Ar _) f R _ _)),⟨hkl,by rw[hnx];exact hF.2⟩,(by omega)⟩
 refine acf ?_;have hkge:(FE f v).length<=k:=by have h:=hb2;rw[Ea]at h;simp only[decide_eq_false_iff_not]at h;exact Nat.le_of_not_lt fun e=>h (Int.ofNat_lt.2 e)
 refine wk 1 ?_;have hkk0:k=(FE f v).length:=by omega
 have hreg:HO f v st=q:=by rw[<-hK,hkk0,hinn];rfl
 rw[hreg];exact fO
theorem Pc(n R:Nat)(S:CV)(v i p:Nat)(hv:v<R)(hi0:i<n)(hlast: ∀j,i<j->S j v=[])(hlen:(S i v).length<=1000000)(hn:n<=100000)(c0 c1 c2 c3 c5 c6 c7:AV)(r3 r5 r6 r7:AObj)(r0 r1:Nat->AObj):ACall Tryz.prog 82 [.ptr 2 1 0 0,.int .i64 (v:Int),.int .i64 (i:Int),.int .i64 (p:Int)] (DH [(.row false 8 [[c0,c1,c2,c3,.ref 4 R 0 R,c5,c6,c7]]),r3,(.row false 1 (Ay (oR n R S) R)),r5,r6,r7] (F4 r0 r1 (N0 n R S) (MS R S))) (fun r h'=>r= .ptr (4*(v+R*i)+3+16) (A6 (S i v) p).length ((A6 (S i v) p).length-1) 0/\HSub (EV hNone (DH [(.row false 8 [[c0,c1,c2,c3,.ref 4 R 0 R,c5,c6,c7]]),r3,(.row false 1 (Ay (oR n R (Cm S i v (A6 (S i v) p))) R)),r5,r6,r7] (F4 r0 r1 (N0 n R (Cm S i v (A6 (S i v) p))) (MS R (Cm S i v (A6 (S i v) p)))))) h'):=by
 have hpl:=Zb S i v;have hgl:=SA S n v;refine ACall.of_body (n:=94) Ag Tryz.func82 rfl rfl ?_;refine wk 11 ?_;refine aq 16 (Ab Ag rfl rfl rfl rfl rfl rfl rfl (An _ _).symm rfl (Int.natCast_nonneg _) (by omega)) ?_;refine aq 17 (At Ag rfl rfl rfl (.ptr _ _ _ _ _ _ _ [oR n R S v] rfl (An _ _).symm Yl) rfl) ?_;refine wk 6 ?_;refine aq 19 (FM Ag rfl rfl rfl rfl) ?_;refine wk 2 ?_;refine EY 21 (fun hb1=>?_) fun hb1=>?_
 .
  refine wk 11 ?_;refine AGo.join (γ:=Unit) (fun _u=>⟨94,(Aa (Aa (Aa (Aa (Aa Ba 0 (.ptr 2 1 0 0)) 1 (.int .i64 (v:Int))) 2 (.int .i64 (i:Int))) 3 (.int .i64 (p:Int))) 9 (.ref (4*v+2+16) ((Cg S i v).length+1) 0 ((Cg S i v).length+1))),(DH [(.row false 8 [[c0,c1,c2,c3,.ref 4 R 0 R,c5,c6,c7]]),r3,(.row false 1 (Ay (oX n R S v i) R)),r5,r6,r7] (F4 r0 r1 (P8 n R S v i (S i v)) (MS R S)))⟩) (fun _u=>True) ?_ ?_
  .
   refine act ?_;have hS0:S i v=[]:=by
    first
    | exact note_new2 hi0 hlast hj0 (by omega) (by have h:=hb1;simp at h;omega)
    | exact Qr hi0 hlast (Eo hb1)
   exact tA
  intro _ _;refine wk 5 ?_;refine aq 47 (A2 (r:=.int .i64 (((Cg S i v).length:Nat):Int)) rfl rfl rfl (P0 (L:=(Cg S i v).length+1) (Nat.succ_pos _) (by omega))) ?_;refine aq 48 (Ab Ag rfl rfl rfl rfl rfl rfl ((Ao _ _ _).trans (congrArg some (FL))) MN rfl (Int.natCast_nonneg _) (by omega)) ?_;refine wk 8 ?_;refine dq 52 (At Ag rfl rfl rfl (.ptr _ _ _ _ false 2 (Cs R S v i++[JH R v i (S i v)]) (JH R v i (S i v)) ((Ao _ _ _).trans (congrArg some (FL))) MN PI) rfl) ?_;refine dq 53 (FM Ag rfl rfl rfl rfl) ?_;refine wk 2 ?_;refine DOps.split 55 rfl (fun hb2=>?_) (fun hb2=>?_)
  .
   refine wk 15 ?_;refine dq 71 (Fx true rfl rfl rfl rfl) ?_;refine wk 1 ?_;refine AGo.join (γ:=Unit) (fun _u=>⟨94,(Aa Ba 10 (.ptr (4*v+2+16) ((Cg S i v).length+1) (0+(((Cg S i v).length:Nat):Int).toNat) 0)),(DH [(.row false 8 [[c0,c1,c2,c3,.ref 4 R 0 R,c5,c6,c7]]),r3,(.row false 1 (Ay (oX n R S v i) R)),r5,r6,r7] (F4 r0 r1 (P8 n R S v i (A6 (S i v) p)) (Y7 R S v i (A6 (S i v) p))))⟩) (fun _u=>True) ?_ ?_
   .
    refine act ?_;have hnl:A6 (S i v) p=S i v++[⟨p,false,false⟩]:=by
     first
     | exact Jz hs0 (by omega) (by have h:=hb2;simp at h;omega)
     |(have h0:(S i v).length=0:=(by have h:=hb2;first | exact Eo h |(rw[List.length_map]at h;exact Eo h));rw[M3 h0];rfl)
    exact q8
   exact q7
  have hs1:0<(S i v).length:=by have h:=hb2;rw[List.length_map]at h;exact SG h
  obtain⟨s0,hs0⟩:=Ae (l:=S i v) (k:=(S i v).length-1) (by omega);refine wk 3 ?_;refine dq 59 (At Ag rfl rfl rfl (.ptr _ _ _ _ false 2 (Cs R S v i++[JH R v i (S i v)]) (JH R v i (S i v)) ((Ao _ _ _).trans (congrArg some (FL))) MN PI) rfl) ?_;refine wk 3 ?_;refine dq 63 (At Ag rfl rfl rfl (.ptr _ _ _ _ false 2 (Cs R S v i++[JH R v i (S i v)]) (JH R v i (S i v)) ((Ao _ _ _).trans (congrArg some (FL))) MN PI) rfl) ?_;refine dq 64 (FM Ag rfl rfl rfl rfl) ?_;refine dq 65 (A2 (r:=.int .i64 (((S i v).length-1:Nat):Int)) rfl rfl rfl (by rw[List.length_map];exact P0 hs1 (by omega))) ?_;refine dq 66 (IC Ag (b:=(4*(v+R*i)+3+16)) (es:=(S i v).map G8) rfl rfl rfl rfl rfl rfl ((Ao _ _ _).trans (congrArg some (P7 hv))) rfl (Int.natCast_nonneg _) (by rw[List.length_map];omega)) ?_;refine wk 1 ?_;refine dq 68 (At Ag rfl rfl rfl (.ptr _ _ _ _ true 3 ((S i v).map G8) (G8 s0) ((Ao _ _ _).trans (congrArg some ((P7 hv).trans (M0 hs1)))) rfl (by rw[Int.toNat_natCast,List.getElem?_map,hs0];rfl)) rfl) ?_
  refine wk 2 ?_;refine dq 71 (EF false rfl rfl rfl rfl) ?_;refine wk 1 ?_;refine AGo.join (γ:=Unit) (fun _u=>⟨94,(Aa Ba 10 (.ptr (4*v+2+16) ((Cg S i v).length+1) (0+(((Cg S i v).length:Nat):Int).toNat) 0)),(DH [(.row false 8 [[c0,c1,c2,c3,.ref 4 R 0 R,c5,c6,c7]]),r3,(.row false 1 (Ay (oX n R S v i) R)),r5,r6,r7] (F4 r0 r1 (P8 n R S v i (A6 (S i v) p)) (Y7 R S v i (A6 (S i v) p))))⟩) (fun _u=>True) ?_ ?_
  .
   refine asp 71 (fun hb3=>?_) fun hb3=>?_
   .
    refine act ?_;have hnl:A6 (S i v) p=S i v++[⟨p,false,false⟩]:=by
     first
     | exact Jz hs0 (by omega) (by have h:=hb3;simp at h;omega)
     |(have h0:(S i v).length=0:=(by have h:=hb3;first | exact Eo h |(rw[List.length_map]at h;exact Eo h));rw[M3 h0];rfl)
    exact q8
   refine acf ?_;have hnl:A6 (S i v) p=S i v:=Qs hs0 (by omega) (by have h:=hb3;simp at h;omega);exact mE
  exact q7
 have hg0:0<(Nb S n v).length:=by have h:=hb1;rw[Ea]at h;exact SG h
 obtain⟨j0,hj0⟩:=Ae (l:=Nb S n v) (k:=(Nb S n v).length-1) (by omega);refine wk 2 ?_;refine aq 24 (FM Ag rfl rfl rfl rfl) ?_;refine aq 25 (A2 (r:=.int .i64 (((Nb S n v).length-1:Nat):Int)) rfl rfl rfl (by rw[Ea];exact P0 hg0 (by omega))) ?_;refine aq 26 (N2 Ag rfl rfl rfl rfl rfl rfl ((Ao _ _ _).trans (congrArg some (V3 hv))) rfl (Int.natCast_nonneg _) (by rw[Ea];omega)) ?_;refine wk 1 ?_;refine aq 28 (At Ag rfl rfl rfl (.ptr _ _ _ _ false 2 (JX n R S v) (UI R S v j0) ((Ao _ _ _).trans (congrArg some ((V3 hv).trans (RQ (k:=(Nb S n v).length-1) (by rw[Ea];omega))))) rfl (by rw[Int.toNat_natCast];show((Nb S n v).map (UI R S v))[_]?=_;rw[List.getElem?_map,hj0];rfl)) rfl) ?_;refine wk 4 ?_;refine AGo.join (γ:=Unit) (fun _u=>⟨94,(Aa (Aa (Aa (Aa (Aa Ba 0 (.ptr 2 1 0 0)) 1 (.int .i64 (v:Int))) 2 (.int .i64 (i:Int))) 3 (.int .i64 (p:Int))) 9 (.ref (4*v+2+16) ((Cg S i v).length+1) 0 ((Cg S i v).length+1))),(DH [(.row false 8 [[c0,c1,c2,c3,.ref 4 R 0 R,c5,c6,c7]]),r3,(.row false 1 (Ay (oX n R S v i) R)),r5,r6,r7] (F4 r0 r1 (P8 n R S v i (S i v)) (MS R S)))⟩) (fun _u=>True) ?_ ?_
 .
  refine asp 31 (fun hb4=>?_) fun hb4=>?_
  .
   refine act ?_;have hS0:S i v=[]:=by
    first
    | exact note_new2 hi0 hlast hj0 (by omega) (by have h:=hb4;simp at h;omega)
    | exact Qr hi0 hlast (Eo hb4)
   exact tA
  refine acf ?_;have hji:j0=i:=by have h:=hb4;simp at h;omega
  rw[hji]at hj0;have hS1:0<(S i v).length:=cU hi0 hlast hj0;refine fH ?_;exact⟨(),Sub.mk' (by repeat(first | exact ESub.new _ | refine ESub.put ?_ (by first | rfl | exact congrArg some (cR hi0 hlast hS1) |(rw[Ho,Ey];rfl)))) (Ng rfl rfl rfl (by repeat(first | exact trivial | refine⟨by first | rfl | exact congrArg (fun es=>some (AObj.row false 1 es)) ((gO hi0 hlast hS1).symm),?_⟩)) (fun x_=>(Ao _ _ _).trans (congrArg some (by rw[ca hv hi0 hlast hS1]))) fD),trivial⟩
 intro _ _;refine wk 5 ?_;refine aq 47 (A2 (r:=.int .i64 (((Cg S i v).length:Nat):Int)) rfl rfl rfl (P0 (L:=(Cg S i v).length+1) (Nat.succ_pos _) (by omega))) ?_;refine aq 48 (Ab Ag rfl rfl rfl rfl rfl rfl ((Ao _ _ _).trans (congrArg some (FL))) MN rfl (Int.natCast_nonneg _) (by omega)) ?_;refine wk 8 ?_;refine dq 52 (At Ag rfl rfl rfl (.ptr _ _ _ _ false 2 (Cs R S v i++[JH R v i (S i v)]) (JH R v i (S i v)) ((Ao _ _ _).trans (congrArg some (FL))) MN PI) rfl) ?_;refine dq 53 (FM Ag rfl rfl rfl rfl) ?_;refine wk 2 ?_;refine DOps.split 55 rfl (fun hb5=>?_) (fun hb5=>?_)
 .
  refine wk 15 ?_;refine dq 71 (Fx true rfl rfl rfl rfl) ?_;refine wk 1 ?_;refine AGo.join (γ:=Unit) (fun _u=>⟨94,(Aa Ba 10 (.ptr (4*v+2+16) ((Cg S i v).length+1) (0+(((Cg S i v).length:Nat):Int).toNat) 0)),(DH [(.row false 8 [[c0,c1,c2,c3,.ref 4 R 0 R,c5,c6,c7]]),r3,(.row false 1 (Ay (oX n R S v i) R)),r5,r6,r7] (F4 r0 r1 (P8 n R S v i (A6 (S i v) p)) (Y7 R S v i (A6 (S i v) p))))⟩) (fun _u=>True) ?_ ?_
  .
   refine act ?_;have hnl:A6 (S i v) p=S i v++[⟨p,false,false⟩]:=by
    first
    | exact Jz hs0 (by omega) (by have h:=hb5;simp at h;omega)
    |(have h0:(S i v).length=0:=(by have h:=hb5;first | exact Eo h |(rw[List.length_map]at h;exact Eo h));rw[M3 h0];rfl)
   exact q8
  exact q7
 have hs1:0<(S i v).length:=by have h:=hb5;rw[List.length_map]at h;exact SG h
 obtain⟨s0,hs0⟩:=Ae (l:=S i v) (k:=(S i v).length-1) (by omega);refine wk 3 ?_;refine dq 59 (At Ag rfl rfl rfl (.ptr _ _ _ _ false 2 (Cs R S v i++[JH R v i (S i v)]) (JH R v i (S i v)) ((Ao _ _ _).trans (congrArg some (FL))) MN PI) rfl) ?_;refine wk 3 ?_;refine dq 63 (At Ag rfl rfl rfl (.ptr _ _ _ _ false 2 (Cs R S v i++[JH R v i (S i v)]) (JH R v i (S i v)) ((Ao _ _ _).trans (congrArg some (FL))) MN PI) rfl) ?_;refine dq 64 (FM Ag rfl rfl rfl rfl) ?_;refine dq 65 (A2 (r:=.int .i64 (((S i v).length-1:Nat):Int)) rfl rfl rfl (by rw[List.length_map];exact P0 hs1 (by omega))) ?_;refine dq 66 (IC Ag (b:=(4*(v+R*i)+3+16)) (es:=(S i v).map G8) rfl rfl rfl rfl rfl rfl ((Ao _ _ _).trans (congrArg some (P7 hv))) rfl (Int.natCast_nonneg _) (by rw[List.length_map];omega)) ?_;refine wk 1 ?_;refine dq 68 (At Ag rfl rfl rfl (.ptr _ _ _ _ true 3 ((S i v).map G8) (G8 s0) ((Ao _ _ _).trans (congrArg some ((P7 hv).trans (M0 hs1)))) rfl (by rw[Int.toNat_natCast,List.getElem?_map,hs0];rfl)) rfl) ?_
 refine wk 2 ?_;refine dq 71 (EF false rfl rfl rfl rfl) ?_;refine wk 1 ?_;refine AGo.join (γ:=Unit) (fun _u=>⟨94,(Aa Ba 10 (.ptr (4*v+2+16) ((Cg S i v).length+1) (0+(((Cg S i v).length:Nat):Int).toNat) 0)),(DH [(.row false 8 [[c0,c1,c2,c3,.ref 4 R 0 R,c5,c6,c7]]),r3,(.row false 1 (Ay (oX n R S v i) R)),r5,r6,r7] (F4 r0 r1 (P8 n R S v i (A6 (S i v) p)) (Y7 R S v i (A6 (S i v) p))))⟩) (fun _u=>True) ?_ ?_
 .
  refine asp 71 (fun hb6=>?_) fun hb6=>?_
  .
   refine act ?_;have hnl:A6 (S i v) p=S i v++[⟨p,false,false⟩]:=by
    first
    | exact Jz hs0 (by omega) (by have h:=hb6;simp at h;omega)
    |(have h0:(S i v).length=0:=(by have h:=hb6;first | exact Eo h |(rw[List.length_map]at h;exact Eo h));rw[M3 h0];rfl)
   exact q8
  refine acf ?_;have hnl:A6 (S i v) p=S i v:=Qs hs0 (by omega) (by have h:=hb6;simp at h;omega);exact mE
 exact q7
theorem Sj(f:BFunc)(hs:f.sane)(R:Nat)(hRf:f.regs=(R:Int))(hR:R<=100000)(hn:f.blocks.length<=100000)(hi: ∀x∈f.blocks,x.ins.length<=100000):ACall Tryz.prog 58 [.agg f.cells] hNew (fun r h'=>r= .ptr 2 1 0 0/\HSub (EV hNone (DH (Ip f R (SB f) ((List.range R).map BH) (R) (fun b=>decide (b<R))) (DF f R (SB f) G0))) h'):=by
 refine ACall.of_body (n:=152) Ag Tryz.func58 rfl rfl ?_;refine Nk ?_;refine ax 1 (GW 2 0) ?_;refine wk 6 ?_;refine dx 18 (DX Tryz.func80 (Si _ (by assumption))) ?_;refine wk 3 ?_;refine dx 22 (AB Ag (n:=f.blocks.length) (m:=f.blocks.length) 3 false rfl rfl rfl (by simp) (by simp) rfl rfl rfl rfl rfl (Nat.zero_lt_succ _) rfl (Nat.le_refl _) (by show 24*f.blocks.length<=_;omega) (by simp only[maxLen];omega)) ?_;refine wk 2 ?_;refine dx 25 (AB Ag (n:=R) (m:=R) 4 false rfl rfl rfl hRf hRf rfl rfl rfl rfl rfl (Nat.zero_lt_succ _) rfl (Nat.le_refl _) (by show 24*R<=_;omega) (by simp only[maxLen];omega)) ?_;refine wk 3 ?_;refine dx 29 (AB Ag (n:=f.blocks.length) (m:=f.blocks.length) 5 false rfl rfl rfl (by simp) (by simp) rfl rfl rfl rfl rfl (Nat.zero_lt_succ _) rfl (Nat.le_refl _) (by show 24*f.blocks.length<=_;omega) (by simp only[maxLen];omega)) ?_;refine wk 1 ?_;refine dx 31 (GW 8 2) ?_;refine wk 4 ?_;refine AGo.ghost (CI 3 (es':=Ay (aR (fun _=>[])) f.blocks.length) rfl (by rw[An,List.length_replicate]) (weak_col fun b=>Wk.nil _)) ?_;refine AGo.ghost (CI 4 (es':=Ay (oR f.blocks.length R S0) R) rfl (by rw[An,List.length_replicate]) (weak_col fun b=>by rw[gP];exact Wk.nil _)) ?_
 refine wk 9 ?_;refine Bc (γ:=Nat) (kf 8) (fun k=>⟨152,(Aa (Aa (Aa (Aa (Aa Ba 1 (.ptr 0 1 0 0)) 3 (.ptr 2 1 0 0)) 35 (A1 f.nexts)) 36 (.int .i64 (f.blocks.length:Int))) 37 (.int .i64 (k:Int))),(HA (nb [(.row false 2 [f.cells]),.free,(.row false 8 [lW f R]),(.row false 1 (Ay (aR (aheadP f k 0)) f.blocks.length)),(.row false 1 (Ay (oR f.blocks.length R S0) R)),(.row false 1 (Ay (gK f 0) f.blocks.length)),.free,.free]) (F4 (R8 f.blocks.length (aheadP f k 0)) (PF f 0 G0) (N0 f.blocks.length R S0) (MS R S0)))⟩) (fun k=>k<=f.blocks.length) (fun k=>f.blocks.length-k) 0 (Sub.mk' m5 (B1 (k0:=8) rfl (by repeat(first | exact trivial | refine⟨⟨by first | rfl | exact congrArg (fun A=>some (AObj.row false 1 (Ay (aR A) f.blocks.length))) (funext fun c=>(Di f 0 c).symm) | exact congrArg (fun es=>some (AObj.row false 1 es)) (il f f.blocks.length),by first | rfl | exact Ad (fun _ _=>Bf (Ar _) _ _) | exact Ad (fun _ _=>A4 (Ar _) _ _ _ _) | exact Ad (fun _ _=>D0 (Ar _) _ _ _)⟩,?_⟩)) (fun x_=>by rw[Qa (Di f 0)];(try simp only[hputs]);(repeat(first | refine AA (by exact Af (by omega)) ?_ | refine hrm_skip (by omega) ?_));exact congrArg some F4_start.symm) fD)) (Nat.zero_le _) (fun g b hb=>BI (k0:=8) rfl hb) ?_
 intro k hk;refine wk 5 ?_;refine asp 38 (fun hb1=>?_) fun hb1=>?_
 .
  refine act ?_;have hkl:k<f.blocks.length:=by have h:=hb1;simp at h;exact h
  obtain⟨x,hx⟩:=Ae hkl;have hxm:=List.mem_of_getElem? hx;refine wk 6 ?_;refine aq 40 (Au Ag rfl rfl rfl rfl rfl rfl (Int.natCast_nonneg _) (AO (CL hx)) rfl) ?_;refine wk 11 ?_;refine Bc (γ:=Nat) (kf 8) (fun j=>⟨152,(Aa (Aa (Aa (Aa (Aa (Aa (Aa (Aa (Aa Ba 1 (.ptr 0 1 0 0)) 3 (.ptr 2 1 0 0)) 35 (A1 f.nexts)) 36 (.int .i64 (f.blocks.length:Int))) 37 (.int .i64 (k:Int))) 4 (.int .i64 (k:Int))) 42 (AZ x.nexts)) 43 (.int .i64 (x.nexts.length:Int))) 44 (.int .i64 (j:Int))),(HA (nb [(.row false 2 [f.cells]),.free,(.row false 8 [lW f R]),(.row false 1 (Ay (aR (aheadP f k j)) f.blocks.length)),(.row false 1 (Ay (oR f.blocks.length R S0) R)),(.row false 1 (Ay (gK f 0) f.blocks.length)),.free,.free]) (F4 (R8 f.blocks.length (aheadP f k j)) (PF f 0 G0) (N0 f.blocks.length R S0) (MS R S0)))⟩) (fun j=>True) (fun j=>x.nexts.length-j) 0 (Sub.mk' Ez (B1 (k0:=8) rfl jW FX fD)) trivial (fun g b hb=>BI (k0:=8) rfl hb) ?_
  intro j _;refine wk 5 ?_;refine asp 45 (fun hb2=>?_) fun hb2=>?_
  .
   refine act ?_;have hjl:j<x.nexts.length:=by have h:=hb2;simp[AZ]at h;exact h
   obtain⟨d,hd⟩:=Ae hjl;have hd0:=hs.next x hxm d (List.mem_of_getElem? hd);have hdn:d.toNat<f.blocks.length:=by omega
   refine wk 5 ?_;refine aq 46 (MT Ag (AO hd)) ?_;refine wk 14 ?_;refine dq 58 (Ab Ag rfl rfl rfl rfl rfl rfl rfl (An _ _).symm rfl hd0.1 (by omega)) ?_;refine dq 59 (At Ag rfl rfl rfl (.ptr _ _ _ _ _ _ _ [aR (aheadP f k j) d.toNat] rfl (An _ _).symm (by rw[Nat.zero_add];exact BV hdn)) rfl) ?_;refine wk 1 ?_;refine dx 61 (Cp Ag rfl rfl rfl rfl rfl rfl (by decide) rfl rfl rfl rfl rfl rfl) ?_;refine dx 62 (o_append1J Ag (b:=4*d.toNat+0+16) (es:=(aheadP f k j d.toNat).map BH) rfl rfl rfl rfl rfl rfl rfl rfl ((Ao _ _ _).trans (congrArg some (qm hdn))) rfl rfl (Nat.zero_lt_succ _) (Jv fun _=>rfl) (Gv fun _=>rfl) rfl rfl (by rw[List.length_map];have:=GI f k j d.toNat;show(_+1)*8<=_;omega) (by rw[List.length_map];have:=GI f k j d.toNat;simp only[maxLen];omega)) ?_;refine dq 63 (Ab Ag rfl rfl rfl rfl rfl rfl BC (An _ _).symm rfl hd0.1 (by omega)) ?_;refine DOps.w rfl rfl (o_store1 Ag (p:=false) (sz:=1) (es:=Ay (aR (aheadP f k j)) f.blocks.length) (cs:=[aR (aheadP f k j) d.toNat]) rfl rfl rfl rfl rfl rfl BC (An _ _).symm (by rw[Nat.zero_add];exact BV hdn) (Dz _ _) (by decide) (DA _ _) (by intro h;cases h)) ?_;refine Fh Dv [([],[]),([],[]),([],[]),([2],[]),([],[]),([],[]),([],[]),([],[]),([2],[]),([],[]),([3],[]),([3],[]),([],[]),([],[]),([16],[16]),([3],[]),([3],[3])] tH (by kernel_rfl) ?_;refine Ya ?_;refine aq 64 (Bk rfl rfl hjl (by simp only[maxLen];have:=F8 x;omega)) ?_;refine wk 2 ?_;exact⟨j+1,DropK.mk' Im (Bm (k0:=8) rfl (by repeat(first | exact trivial | refine⟨⟨by first | rfl | exact congrArg (fun es=>some (AObj.row false 1 es)) (lM (G3 hx hd hd0.1)),by first | rfl | exact Ad (fun _ _=>Bf (Ar _) _ _) | exact Ad (fun _ _=>A4 (Ar _) _ _ _ _) | exact Ad (fun _ _=>D0 (Ar _) _ _ _)⟩,?_⟩)) (fun x_=>by(try simp only[hputs]);(repeat(first | refine AA (by exact Af (by omega)) ?_ | refine hrm_skip (by omega) ?_));exact(DO aP _ _ x_).trans (congrArg some (gC hdn (G3 hx hd hd0.1) x_).symm)) (Lm (fun _=>Jr _) (fun _=>Jq _) (fun _=>Jp (Ar _) _) (fun _=>Jo _))),trivial,by omega⟩
  refine acf ?_;have hjge:x.nexts.length<=j:=by have h:=hb2;simp[AZ]at h;omega
  refine wk 2 ?_;refine aq 65 (Bk rfl rfl hkl (by simp only[maxLen];omega)) ?_;refine wk 2 ?_;exact⟨k+1,DropK.mk' Im (Bm (k0:=8) rfl (by repeat(first | exact trivial | refine⟨⟨by first | rfl | exact congrArg (fun A=>some (AObj.row false 1 (Ay (aR A) f.blocks.length))) (funext (G4 hx hjge)),by first | rfl | exact Ad (fun _ _=>Bf (Ar _) _ _) | exact Ad (fun _ _=>A4 (Ar _) _ _ _ _) | exact Ad (fun _ _=>D0 (Ar _) _ _ _)⟩,?_⟩)) (fun x_=>by rw[<-Qa (G4 hx hjge)];exact Ao _ _ _) (Lm (fun _=>Jr _) (fun _=>Jq _) (fun _=>Jp (Ar _) _) (fun _=>Jo _))),hkl,by omega⟩
 refine acf ?_;have hge:f.blocks.length<=k:=by have h:=hb1;simp at h;omega
 refine wk 3 ?_;have hkn:k=f.blocks.length:=by omega
 subst hkn;rw[show aheadP f f.blocks.length 0=Aw f from funext fun c=>Di f _ c,Za f];refine wk 7 ?_;refine Bc (γ:=Nat) (kf 8) (fun k=>⟨152,(Aa (Aa (Aa (Aa (Aa Ba 1 (.ptr 0 1 0 0)) 3 (.ptr 2 1 0 0)) 67 (B8 f.blocks)) 68 (.int .i64 (f.blocks.length:Int))) 69 (.int .i64 (k:Int))),(HA (nb [(.row false 2 [f.cells]),.free,(.row false 8 [lW f R]),(.row false 1 (Ay (aR (Aw f)) f.blocks.length)),(.row false 1 (Ay (oR f.blocks.length R (C7 f k (fun _=>[]))) R)),(.row false 1 (Ay (gK f k) f.blocks.length)),.free,.free]) (aF f R (C7 f k (fun _=>[])) k))⟩) (fun k=>k<=f.blocks.length) (fun k=>f.blocks.length-k) 0 (Sub.mk' Ez (B1 (k0:=8) rfl jW FX fD)) (Nat.zero_le _) (fun g b hb=>BI (k0:=8) rfl hb) ?_;intro k hk;refine wk 5 ?_;refine asp 70 (fun hb3=>?_) fun hb3=>?_
 .
  refine act ?_;have hkl:k<f.blocks.length:=by have h:=hb3;simp at h;exact h
  obtain⟨x,hx⟩:=Ae hkl;have hxm:=List.mem_of_getElem? hx;have hix:=hi x hxm;refine wk 6 ?_;refine aq 72 (MT Ag (AO hx)) ?_;refine wk 1 ?_;refine ax 9 (EU Ag 8) ?_;refine wk 13 ?_;refine dx 82 (AB Ag (n:=x.ins.length) (m:=x.ins.length) (4*k+1+16) true rfl rfl rfl (by simp) (by simp) rfl rfl rfl (by(try simp only[hputs]);(repeat(first | refine AA (by exact Af (by omega)) ?_ | refine hrm_skip (by omega) ?_));exact(Ao _ _ _).trans (congrArg some gB)) rfl (Nat.zero_lt_succ _) rfl (Nat.le_refl _) (by show 1*x.ins.length<=_;omega) (by simp only[maxLen];omega)) ?_;refine dq 83 (Ab Ag rfl rfl rfl rfl rfl rfl BC (An _ _).symm rfl (Int.natCast_nonneg _) (by omega)) ?_;refine DOps.w rfl rfl (o_store1 Ag (p:=false) (sz:=1) (es:=Ay (gK f k) f.blocks.length) (cs:=[gK f k k]) rfl rfl rfl rfl rfl rfl BC (An _ _).symm (by rw[Nat.zero_add,Int.toNat_natCast];exact BV hkl) rfl (by decide) rfl (by intro h;cases h)) ?_
  refine Fh Dv [([],[]),([],[]),([],[]),([2],[]),([],[]),([],[]),([8],[]),([],[]),([17],[17]),([5],[]),([5],[5])] tH (by kernel_rfl) ?_;refine wk 4 ?_;refine aq 85 (At Ag rfl rfl rfl (.ptr _ _ _ _ _ _ _ _ BC rfl rfl) rfl) ?_;refine wk 4 ?_;refine Bc (γ:=Nat) (kf 9) (fun j=>⟨152,(Aa (Aa (Aa (Aa (Aa (Aa (Aa (Aa (Aa (Aa Ba 1 (.ptr 0 1 0 0)) 3 (.ptr 2 1 0 0)) 67 (B8 f.blocks)) 68 (.int .i64 (f.blocks.length:Int))) 69 (.int .i64 (k:Int))) 8 (.int .i64 (k:Int))) 9 (.ptr 8 1 0 0)) 85 (Eh x.ins)) 86 (.int .i64 (x.ins.length:Int))) 87 (.int .i64 (j:Int))),(HA (nb [(.row false 2 [f.cells]),.free,(.row false 8 [lW f R]),(.row false 1 (Ay (aR (Aw f)) f.blocks.length)),(.row false 1 (Ay (oR f.blocks.length R (C7 f k (Bu x j []))) R)),(.row false 1 (Ay (gK f (k+1)) f.blocks.length)),.free,.free,(.row false 5 [x.cells])]) (aF f R (C7 f k (Bu x j [])) (k+1)))⟩) (fun j=>j<=x.ins.length) (fun j=>x.ins.length-j) 0 (Sub.mk' Ez (B1 (k0:=9) rfl (by repeat(first | exact trivial | refine⟨⟨by first | rfl | exact congrArg (fun S=>some (AObj.row false 1 (Ay (oR _ R S) R))) (Qf f k x) | exact congrArg (fun es=>some (AObj.row false 1 es)) (lq (Cz hx)) |((try simp only[hputs]);repeat(first | rfl | exact Aq _ _ _ | refine AA (by exact Af (by omega)) ?_ | refine hrm_skip (by omega) ?_ | refine(CG _ PH).trans ?_)),by first | rfl | exact Ad (fun _ _=>Bf (Ar _) _ _) | exact Ad (fun _ _=>A4 (Ar _) _ _ _ _) | exact Ad (fun _ _=>D0 (Ar _) _ _ _)⟩,?_⟩)) (fun x_=>by(try simp only[hputs]);rw[<-Qf f k x];(repeat(first | refine AA (by exact Af (by omega)) ?_ | refine hrm_skip (by omega) ?_));exact(DO (fun y_=>by(try simp only[hputs]);(repeat(first | refine AA (by exact Af (by omega)) ?_ | refine hrm_skip (by omega) ?_));exact Ao _ _ _) _ _ x_).trans (congrArg some (cn (Cz hx) x_).symm)) Ym)) (Nat.zero_le _) (fun g b hb=>BI (k0:=9) rfl hb) ?_
  intro j hj;refine wk 5 ?_;refine asp 88 (fun hb4=>?_) fun hb4=>?_
  .
   refine act ?_;have hjl:j<x.ins.length:=by have h:=hb4;simp at h;exact h
   obtain⟨t,ht⟩:=Ae hjl;have hin:=hs.low x hxm t (List.mem_of_getElem? ht);refine wk 6 ?_;refine aq 90 (MT Ag (AO ht)) ?_;refine wk 1 ?_;refine ax 11 (EU Ag 9) ?_;refine wk 7 ?_;refine ax 93 (DX Tryz.func81 (Pm _)) ?_;refine wk 4 ?_;refine Bc (γ:=Nat) (kf 10) (fun q=>⟨152,(Aa (Aa (Aa (Aa (Aa (Aa (Aa (Aa (Aa (Aa (Aa (Aa (Aa (Aa (Aa Ba 1 (.ptr 0 1 0 0)) 3 (.ptr 2 1 0 0)) 67 (B8 f.blocks)) 68 (.int .i64 (f.blocks.length:Int))) 69 (.int .i64 (k:Int))) 8 (.int .i64 (k:Int))) 9 (.ptr 8 1 0 0)) 85 (Eh x.ins)) 86 (.int .i64 (x.ins.length:Int))) 87 (.int .i64 (j:Int))) 10 (.int .i64 (j:Int))) 11 (.ptr 9 1 0 0)) 93 (AZ t.uses)) 94 (.int .i64 (t.uses.length:Int))) 95 (.int .i64 (q:Int))),(HA (nb [(.row false 2 [f.cells]),.free,(.row false 8 [lW f R]),(.row false 1 (Ay (aR (Aw f)) f.blocks.length)),(.row false 1 (Ay (oR f.blocks.length R (C7 f k (Bu x j (t.uses.take q)))) R)),(.row false 1 (Ay (gK f (k+1)) f.blocks.length)),.free,.free,(.row false 5 [x.cells]),(.row false 8 [t.cells])]) (aF f R (C7 f k (Bu x j (t.uses.take q))) (k+1)))⟩) (fun q=>True) (fun q=>t.uses.length-q) 0 (Sub.mk' Ez (B1 (k0:=10) rfl jW FX Kt)) trivial (fun g b hb=>BI (k0:=10) rfl hb) ?_
   intro q _;refine wk 5 ?_;refine asp 96 (fun hb5=>?_) fun hb5=>?_
   .
    refine act ?_;have hql:q<t.uses.length:=by have h:=hb5;simp[AZ]at h;exact h
    obtain⟨u,hu⟩:=Ae hql;have hub:=hin.2 u (List.mem_of_getElem? hu);have hub2:u.toNat<R:=by omega
    refine wk 5 ?_;refine aq 97 (MT Ag (AO hu)) ?_;refine wk 8 ?_;refine AOps.call 103 (hn:=EV _ (DH (fv f R (Cm (C7 f k (Bu x j (t.uses.take q))) k u.toNat (A6 (C7 f k (Bu x j (t.uses.take q)) k u.toNat) j)) (k+1)) (aF f R (Cm (C7 f k (Bu x j (t.uses.take q))) k u.toNat (A6 (C7 f k (Bu x j (t.uses.take q)) k u.toNat) j)) (k+1)))) (r:=.ptr (4*(u.toNat+R*k)+3+16) (A6 (C7 f k (Bu x j (t.uses.take q)) k u.toNat) j).length ((A6 (C7 f k (Bu x j (t.uses.take q)) k u.toNat) j).length-1) 0) rfl rfl rfl (Em (fv f R (C7 f k (Bu x j (t.uses.take q))) (k+1)) (fv f R (Cm (C7 f k (Bu x j (t.uses.take q))) k u.toNat (A6 (C7 f k (Bu x j (t.uses.take q)) k u.toNat) j)) (k+1)) (aF f R (Cm (C7 f k (Bu x j (t.uses.take q))) k u.toNat (A6 (C7 f k (Bu x j (t.uses.take q)) k u.toNat) j)) (k+1)) rfl Tryz.func82 (by kernel_rfl) rfl rfl rfl rfl rfl (Gg _ _ _ _) (Gg _ _ _ _) Rt G6 (De CF f R _ _) (De CF f R _ _) (by simp[AV.avoid,AV.flat,CF]) (by have h:=Pc f.blocks.length R (C7 f k (Bu x j (t.uses.take q))) u.toNat k j hub2 hkl (N7 f k _ _) (Wc (by omega)) hn (.int .i64 f.regs) (B8 f.blocks) (A1 f.nexts) (.ref 3 f.blocks.length 0 f.blocks.length) (.ref 5 f.blocks.length 0 f.blocks.length) .nil .nil (.row false 1 (Ay (aR (Aw f)) f.blocks.length)) (.row false 1 (Ay (gK f (k+1)) f.blocks.length)) .free .free (R8 f.blocks.length (Aw f)) (PF f (k+1) G0);rw[Int.toNat_of_nonneg hub.1]at h;first | exact h |(rw[List.length_map];exact h))) ?_
    obtain⟨s,hs1,hs2,hs3⟩:=si_last (Cy (C7 f k (Bu x j (t.uses.take q)) k u.toNat) j);refine wk 2 ?_;refine AOps.w rfl rfl (o_store Ag (es:=(A6 (C7 f k (Bu x j (t.uses.take q)) k u.toNat) j).map G8) (cs:=G8 s) rfl rfl rfl rfl rfl (by(try simp only[hputs]);exact(EG _ _ _).trans ((Ao _ _ _).trans (congrArg some (OU hub2 (Cy _ _))))) (List.length_map _).symm (by rw[List.getElem?_map,hs1];rfl) rfl (by decide) rfl (fun _=>rfl)) ?_;refine wk 2 ?_;refine aq 106 (Bk rfl rfl hql (by have:=Ky t;simp only[maxLen];omega)) ?_;refine wk 2 ?_;exact⟨q+1,DropK.mk' Im (Bm (k0:=10) rfl (by repeat(first | exact trivial | refine⟨⟨by first | rfl | exact congrArg (fun es=>some (AObj.row false 1 es)) (JN Gd (Wa hu hub.1)) |(refine(BT rfl).trans ?_;exact congrArg (fun es=>some (AObj.row false 1 es)) (JN Gd (Wa hu hub.1))) | exact BT rfl |((try simp only[hputs]);repeat(first | rfl | exact Aq _ _ _ | refine AA (by exact Af (by omega)) ?_ | refine hrm_skip (by omega) ?_ | refine(CG _ PH).trans ?_)),by first | rfl | exact Ad (fun _ _=>Bf (Ar _) _ _) | exact Ad (fun _ _=>A4 (Ar _) _ _ _ _) | exact Ad (fun _ _=>D0 (Ar _) _ _ _)⟩,?_⟩)) (fun x_=>(DO (fun y_=>(EG _ _ y_).trans (Ao _ _ _)) _ _ x_).trans (congrArg some (SY hub2 Gd (Cy _ _) (Wa hu hub.1) hs2 x_).symm)) (De (Ar _) f R _ _)),trivial,by omega⟩
   refine acf ?_;have hqge:t.uses.length<=q:=by have h:=hb5;simp[AZ]at h;omega
   rw[List.take_of_length_le hqge];refine wk 4 ?_;refine ax 108 (DX Tryz.func77 (Li _)) ?_;refine wk 7 ?_;refine asp 110 (fun hb6=>?_) fun hb6=>?_
   .
    refine act ?_;have hsp:0<=t.sets:=by simpa using hb6
    have hs2_:t.sets.toNat<R:=by have:=hin.1 (ED (by simpa using hb6));rw[<-GS (ED (by simpa using hb6))]at this;omega
    refine wk 5 ?_;refine AOps.call 115 (hn:=EV _ (DH (fv f R (Cm (C7 f k (Bu x j t.uses)) k t.sets.toNat (A6 (C7 f k (Bu x j t.uses) k t.sets.toNat) j)) (k+1)) (aF f R (Cm (C7 f k (Bu x j t.uses)) k t.sets.toNat (A6 (C7 f k (Bu x j t.uses) k t.sets.toNat) j)) (k+1)))) (r:=.ptr (4*(t.sets.toNat+R*k)+3+16) (A6 (C7 f k (Bu x j t.uses) k t.sets.toNat) j).length ((A6 (C7 f k (Bu x j t.uses) k t.sets.toNat) j).length-1) 0) rfl rfl rfl (Em (fv f R (C7 f k (Bu x j t.uses)) (k+1)) (fv f R (Cm (C7 f k (Bu x j t.uses)) k t.sets.toNat (A6 (C7 f k (Bu x j t.uses) k t.sets.toNat) j)) (k+1)) (aF f R (Cm (C7 f k (Bu x j t.uses)) k t.sets.toNat (A6 (C7 f k (Bu x j t.uses) k t.sets.toNat) j)) (k+1)) rfl Tryz.func82 (by kernel_rfl) rfl rfl rfl rfl rfl (Gg _ _ _ _) (Gg _ _ _ _) Rt G6 (De CF f R _ _) (De CF f R _ _) (by simp[AV.avoid,AV.flat,CF]) (by have h:=Pc f.blocks.length R (C7 f k (Bu x j t.uses)) t.sets.toNat k j hs2_ hkl (N7 f k _ _) (Wc (by omega)) hn (.int .i64 f.regs) (B8 f.blocks) (A1 f.nexts) (.ref 3 f.blocks.length 0 f.blocks.length) (.ref 5 f.blocks.length 0 f.blocks.length) .nil .nil (.row false 1 (Ay (aR (Aw f)) f.blocks.length)) (.row false 1 (Ay (gK f (k+1)) f.blocks.length)) .free .free (R8 f.blocks.length (Aw f)) (PF f (k+1) G0);rw[Int.toNat_of_nonneg hsp]at h;first | exact h |(rw[List.length_map];exact h))) ?_
    obtain⟨s,hs1,hs2,hs3⟩:=si_last (Cy (C7 f k (Bu x j t.uses) k t.sets.toNat) j);refine wk 2 ?_;refine AOps.w rfl rfl (o_store Ag (es:=(A6 (C7 f k (Bu x j t.uses) k t.sets.toNat) j).map G8) (cs:=G8 s) rfl rfl rfl rfl rfl (by(try simp only[hputs]);exact(EG _ _ _).trans ((Ao _ _ _).trans (congrArg some (OU hs2_ (Cy _ _))))) (List.length_map _).symm (by rw[List.getElem?_map,hs1];rfl) rfl (by decide) rfl (fun _=>rfl)) ?_;refine wk 2 ?_;refine aq 118 (Bk rfl rfl hjl (by simp only[maxLen];omega)) ?_;refine wk 2 ?_;exact⟨j+1,DropK.mk' Im (Bm (k0:=9) rfl (by repeat(first | exact trivial | refine⟨⟨by first | rfl | exact congrArg (fun es=>some (AObj.row false 1 es)) (JN L5 (Wb ht hsp)) |(refine(BT rfl).trans ?_;exact congrArg (fun es=>some (AObj.row false 1 es)) (JN L5 (Wb ht hsp))) | exact BT rfl |((try simp only[hputs]);repeat(first | rfl | exact Aq _ _ _ | refine AA (by exact Af (by omega)) ?_ | refine hrm_skip (by omega) ?_ | refine(CG _ PH).trans ?_)),by first | rfl | exact Ad (fun _ _=>Bf (Ar _) _ _) | exact Ad (fun _ _=>A4 (Ar _) _ _ _ _) | exact Ad (fun _ _=>D0 (Ar _) _ _ _)⟩,?_⟩)) (fun x_=>(DO (fun y_=>(EG _ _ y_).trans (Ao _ _ _)) _ _ x_).trans (congrArg some (SY hs2_ L5 (Cy _ _) (Wb ht hsp) hs3 x_).symm)) (De (Ar _) f R _ _)),hjl,by omega⟩
   refine acf ?_;have hsp: ¬0<=t.sets:=by simpa using hb6
   refine wk 2 ?_;refine aq 118 (Bk rfl rfl hjl (by simp only[maxLen];omega)) ?_;refine wk 2 ?_;exact⟨j+1,DropK.mk' Im (Bm (k0:=9) rfl (by repeat(first | exact trivial | refine⟨⟨by first | rfl | exact congrArg (fun S=>some (AObj.row false 1 (Ay (oR _ R S) R))) (T0 ht hsp),by first | rfl | exact Ad (fun _ _=>Bf (Ar _) _ _) | exact Ad (fun _ _=>A4 (Ar _) _ _ _ _) | exact Ad (fun _ _=>D0 (Ar _) _ _ _)⟩,?_⟩)) (fun x_=>by rw[<-T0 ht hsp];exact Ao _ _ _) (De (Ar _) f R _ _)),hjl,by omega⟩
  refine acf ?_;have hje:j=x.ins.length:=by have h:=hb4;simp at h;omega
  subst hje;refine wk 7 ?_;refine asp 121 (fun hb7=>?_) fun hb7=>?_
  .
   refine act ?_;have hfin:x.fin=2:=by simpa using hb7
   have hv2:=hs.fin x hxm hfin;have hv3:x.v.toNat<R:=by omega
   refine wk 8 ?_;refine AOps.call 129 (hn:=EV _ (DH (fv f R (Cm (C7 f k (Bu x x.ins.length [])) k x.v.toNat (A6 (C7 f k (Bu x x.ins.length []) k x.v.toNat) x.ins.length)) (k+1)) (aF f R (Cm (C7 f k (Bu x x.ins.length [])) k x.v.toNat (A6 (C7 f k (Bu x x.ins.length []) k x.v.toNat) x.ins.length)) (k+1)))) (r:=.ptr (4*(x.v.toNat+R*k)+3+16) (A6 (C7 f k (Bu x x.ins.length []) k x.v.toNat) x.ins.length).length ((A6 (C7 f k (Bu x x.ins.length []) k x.v.toNat) x.ins.length).length-1) 0) rfl rfl rfl (Em (fv f R (C7 f k (Bu x x.ins.length [])) (k+1)) (fv f R (Cm (C7 f k (Bu x x.ins.length [])) k x.v.toNat (A6 (C7 f k (Bu x x.ins.length []) k x.v.toNat) x.ins.length)) (k+1)) (aF f R (Cm (C7 f k (Bu x x.ins.length [])) k x.v.toNat (A6 (C7 f k (Bu x x.ins.length []) k x.v.toNat) x.ins.length)) (k+1)) rfl Tryz.func82 (by kernel_rfl) rfl rfl rfl rfl rfl (Gg _ _ _ _) (Gg _ _ _ _) Rt G6 (De CF f R _ _) (De CF f R _ _) (by simp[AV.avoid,AV.flat,CF]) (by have h:=Pc f.blocks.length R (C7 f k (Bu x x.ins.length [])) x.v.toNat k x.ins.length hv3 hkl (N7 f k _ _) (Wc (by omega)) hn (.int .i64 f.regs) (B8 f.blocks) (A1 f.nexts) (.ref 3 f.blocks.length 0 f.blocks.length) (.ref 5 f.blocks.length 0 f.blocks.length) .nil .nil (.row false 1 (Ay (aR (Aw f)) f.blocks.length)) (.row false 1 (Ay (gK f (k+1)) f.blocks.length)) .free .free (R8 f.blocks.length (Aw f)) (PF f (k+1) G0);rw[Int.toNat_of_nonneg hv2.1]at h;first | exact h |(rw[List.length_map];exact h))) ?_
   obtain⟨s,hs1,hs2,hs3⟩:=si_last (Cy (C7 f k (Bu x x.ins.length []) k x.v.toNat) x.ins.length);refine wk 2 ?_;refine AOps.w rfl rfl (o_store Ag (es:=(A6 (C7 f k (Bu x x.ins.length []) k x.v.toNat) x.ins.length).map G8) (cs:=G8 s) rfl rfl rfl rfl rfl (by(try simp only[hputs]);exact(EG _ _ _).trans ((Ao _ _ _).trans (congrArg some (OU hv3 (Cy _ _))))) (List.length_map _).symm (by rw[List.getElem?_map,hs1];rfl) rfl (by decide) rfl (fun _=>rfl)) ?_;refine wk 2 ?_;refine aq 132 (Bk rfl rfl hkl (by simp only[maxLen];omega)) ?_;refine wk 2 ?_;exact⟨k+1,DropK.mk' Im (Bm (k0:=8) rfl (by repeat(first | exact trivial | refine⟨⟨by first | rfl | exact congrArg (fun es=>some (AObj.row false 1 es)) (JN Gd (Wd hx hfin hv2.1)) |(refine(BT rfl).trans ?_;exact congrArg (fun es=>some (AObj.row false 1 es)) (JN Gd (Wd hx hfin hv2.1))) | exact BT rfl |((try simp only[hputs]);repeat(first | rfl | exact Aq _ _ _ | refine AA (by exact Af (by omega)) ?_ | refine hrm_skip (by omega) ?_ | refine(CG _ PH).trans ?_)),by first | rfl | exact Ad (fun _ _=>Bf (Ar _) _ _) | exact Ad (fun _ _=>A4 (Ar _) _ _ _ _) | exact Ad (fun _ _=>D0 (Ar _) _ _ _)⟩,?_⟩)) (fun x_=>(DO (fun y_=>(EG _ _ y_).trans (Ao _ _ _)) _ _ x_).trans (congrArg some (SY hv3 Gd (Cy _ _) (Wd hx hfin hv2.1) hs2 x_).symm)) (De (Ar _) f R _ _)),hkl,by omega⟩
  refine acf ?_;have hfin: ¬x.fin=2:=by simpa using hb7
  refine wk 2 ?_;refine aq 132 (Bk rfl rfl hkl (by simp only[maxLen];omega)) ?_;refine wk 2 ?_;exact⟨k+1,DropK.mk' Im (Bm (k0:=8) rfl (by repeat(first | exact trivial | refine⟨⟨by first | rfl | exact congrArg (fun S=>some (AObj.row false 1 (Ay (oR _ R S) R))) (T1 hx hfin),by first | rfl | exact Ad (fun _ _=>Bf (Ar _) _ _) | exact Ad (fun _ _=>A4 (Ar _) _ _ _ _) | exact Ad (fun _ _=>D0 (Ar _) _ _ _)⟩,?_⟩)) (fun x_=>by rw[<-T1 hx hfin];exact Ao _ _ _) (De (Ar _) f R _ _)),hkl,by omega⟩
 refine acf ?_;have hge:f.blocks.length<=k:=by have h:=hb3;simp at h;omega
 refine wk 2 ?_;have hkn:k=f.blocks.length:=by omega
 subst hkn;rw[gF,lr];refine wk 4 ?_;refine ax 136 (AB Ag (n:=R) (m:=R) 7 true rfl rfl rfl hRf hRf rfl rfl rfl rfl rfl (Nat.zero_lt_succ _) rfl (Nat.le_refl _) (by show 1*R<=_;omega) (by simp only[maxLen];omega)) ?_;refine wk 6 ?_;refine AGo.ghost (.dryCell 2 0 6 6 1 true rfl rfl rfl rfl rfl (by decide)) ?_;refine wk 9 ?_;refine Bc (γ:=Nat) (kf 8) (fun k=>⟨152,(Aa (Aa (Aa (Aa Ba 1 (.ptr 0 1 0 0)) 3 (.ptr 2 1 0 0)) 143 (.int .i64 (R:Int))) 144 (.int .i64 (k:Int))),(HA (nb [(.row false 2 [f.cells]),.free,(.row false 8 [Ta f R ((List.range k).map BH).length (k)]),(.row false 1 (Ay (aR (Aw f)) f.blocks.length)),(.row false 1 (Ay (oR f.blocks.length R (SB f)) R)),(.row false 1 (Ay (gR f) f.blocks.length)),(.row true 1 ((List.range k).map BH)),(.row true 1 (bC R (fun b=>decide (b<k))))]) (DF f R (SB f) G0))⟩) (fun k=>k<=R) (fun k=>R-k) 0 (Sub.mk' Ez (B1 (k0:=8) rfl (by repeat(first | exact trivial | refine⟨⟨by first | rfl | exact congrArg (fun es=>some (AObj.row true 1 es)) (fd R),by first | rfl | exact Ad (fun _ _=>Bf (Ar _) _ _) | exact Ad (fun _ _=>A4 (Ar _) _ _ _ _) | exact Ad (fun _ _=>BZ (Ar _) _ _)⟩,?_⟩)) FX fD)) (Nat.zero_le _) (fun g b hb=>BI (k0:=8) rfl hb) ?_
 intro k hk;refine wk 5 ?_;refine asp 145 (fun hb8=>?_) fun hb8=>?_
 .
  refine act ?_;have hkl:k<R:=by have h:=hb8;simp at h;exact h
  refine wk 11 ?_;refine AOps.call 149 (hn:=EV _ (DH (Ip f R (SB f) ((List.range (k+1)).map BH) (k+1) (fun b=>decide (b<k+1))) (DF f R (SB f) G0))) (r:=.tup []) rfl rfl rfl (Em (Ip f R (SB f) ((List.range k).map BH) (k) (fun b=>decide (b<k))) (Ip f R (SB f) ((List.range (k+1)).map BH) (k+1) (fun b=>decide (b<k+1))) (DF f R (SB f) G0) rfl Tryz.func83 (by kernel_rfl) rfl rfl rfl rfl rfl (Cf _ _ _ _ _ _) (Cf _ _ _ _ _ _) Rt G6 (Bd CF f R _ _) (Bd CF f R _ _) rfl (by have h:=UZ f R (SB f) G0 ((List.range k).map BH) k (fun b=>decide (b<k)) k hkl hR (by simp) (by simp;omega);rw[N4,QL,Lq]at h;exact h)) ?_;refine wk 2 ?_;refine aq 150 (Bk rfl rfl hkl (by simp only[maxLen];omega)) ?_;refine wk 2 ?_;exact⟨k+1,DropK.mk' Im (Bm (k0:=8) rfl m8 (fun x_=>(EG _ _ x_).trans (Ao _ _ _)) (Bd (Ar _) f R _ _)),hkl,by omega⟩
 refine acf ?_;have hge:R<=k:=by have h:=hb8;simp at h;omega
 refine wk 7 ?_;have hkn:k=R:=by omega
 subst hkn;exact⟨[_],⟨rfl,trivial⟩,rfl,(Ma rfl Tc G6)⟩
theorem ik(f:BFunc)(R:Nat)(S:CV)(G:GG)(es:List (List AV))(len:Nat)(w:Nat->Bool)(i:Nat)(x:Block)(hx:f.blocks[i]?=some x)(j:Nat)(hj:j<x.ins.length):ACall Tryz.prog 61 [.int .i64 (j:Int),.ptr 8 1 0 0,.ptr 12 1 0 0] (WS f R S G es len w i) (fun r h'=>r= .bool (G i j)/\HSub (KM kW hNone (WS f R S G es len w i)) h'):=by
 have hb:i<f.blocks.length:=(List.getElem?_eq_some_iff.1 hx).1;refine ACall.of_body (n:=15) Ag Tryz.func61 rfl rfl ?_;refine wk 11 ?_;refine dq 10 (Ab Ag rfl rfl rfl rfl rfl rfl rfl (An _ _).symm rfl (Int.natCast_nonneg _) (by omega)) ?_;refine dq 11 (At Ag rfl rfl rfl (.ptr _ _ _ _ _ _ _ [gR f i] rfl (An _ _).symm Lp) rfl) ?_;refine wk 1 ?_;refine dq 13 (Ab Ag rfl rfl rfl rfl rfl rfl ((Ao _ _ _).trans (congrArg some (V4 hb hx))) (by rw[An,Cz hx]) rfl (Int.natCast_nonneg _) (by rw[Cz hx];omega)) ?_;refine dq 14 (At Ag rfl rfl rfl (.ptr _ _ _ _ true 1 (bC x.ins.length (G i)) [.bool (G i j)] ((Ao _ _ _).trans (congrArg some (V4 hb hx))) (by rw[An,Cz hx]) (by rw[Nat.zero_add,Int.toNat_natCast];exact BV hj)) rfl) ?_;refine wk 3 ?_;exact⟨[_],⟨rfl,trivial⟩,rfl,TV (Yb rfl rfl rfl rfl rfl rfl rfl rfl (fun x_=>by dsimp only;exact Ao _ _ _))⟩
theorem Vz(f:BFunc)(R:Nat)(S:CV)(G:GG)(es:List (List AV))(len:Nat)(w:Nat->Bool)(i:Nat)(x:Block)(hx:f.blocks[i]?=some x)(hi:x.ins.length<=100000):ACall Tryz.prog 60 [Eh x.ins,(.fn (.func 61) [] [.ptr 8 1 0 0,.ptr 12 1 0 0])] (WS f R S G es len w i) (fun r h'=>r=Eh (Er (G i) x.ins 0)/\HSub (KM kW hNone (WS f R S G es len w i)) h'):=by
 refine ACall.of_body (n:=28) Ag Tryz.func60 rfl rfl ?_;refine wk 8 ?_;refine ax 10 (AB Ag (n:=0) (m:=x.ins.length) 9 true rfl rfl rfl (rfl) (by simp) rfl rfl rfl rfl rfl (Nat.zero_lt_succ _) rfl (Nat.zero_le _) (by show 64*x.ins.length<=_;omega) (by simp only[maxLen];omega)) ?_;refine wk 10 ?_;refine Bc (γ:=Nat) (kf 13) (fun j=>⟨28,(Aa (Aa (Aa (Aa (Aa Ba 1 (.fn (.func 61) [] [.ptr 8 1 0 0,.ptr 12 1 0 0])) 5 (.ref 9 (Er (G i) (x.ins.take j) 0).length 0 (Er (G i) (x.ins.take j) 0).length)) 11 (Eh x.ins)) 12 (.int .i64 (x.ins.length:Int))) 13 (.int .i64 (j:Int))),(HA (nb [.free,.free,(.row false 8 [Ta f R (es).length (len)]),(.row false 1 (Ay (aR (Aw f)) f.blocks.length)),(.row false 1 (Ay (oR f.blocks.length R S) R)),(.row false 1 (Ay (gR f) f.blocks.length)),(.row true 1 (es)),(.row true 1 (bC R (w))),ArW,(.row true 8 ((Er (G i) (x.ins.take j) 0).map Tac.cells)),.free,.free,(tO i)]) (DF f R S G))⟩) (fun j=>j<=x.ins.length) (fun j=>x.ins.length-j) 0 (Sub.mk' Ez (B1 (k0:=13) rfl jV FX mZ)) (Nat.zero_le _) (fun g b hb=>BI (k0:=13) rfl hb) ?_
 intro j hj;refine wk 5 ?_;refine asp 14 (fun hb1=>?_) fun hb1=>?_
 .
  refine act ?_;have hjl:j<x.ins.length:=by have h:=hb1;simp at h;exact h
  obtain⟨t,ht⟩:=Ae hjl;refine wk 6 ?_;refine aq 16 (MT Ag (AO ht)) ?_;refine wk 1 ?_;refine ax 7 (EU Ag 13) ?_;refine wk 7 ?_;refine AOps.call 20 (hn:=_) (r:=.bool (G i j)) rfl rfl rfl (cP (W:=(WS f R S G es len w i)) kW rfl rfl Tryz.func61 (by kernel_rfl) rfl rfl rfl (Yb BC BC BC BC BC BC BC BC (fun x_=>by(try simp only[hputs]);(try dsimp only);first | exact Ao _ _ _ |((repeat(first | refine AA (by exact Af (by omega)) ?_ | refine hrm_skip (by omega) ?_));exact Ao _ _ _))) (Vb f R S G es len w i) Yc rfl (ik f R S G es len w i x hx j hjl)) ?_;refine wk 2 ?_;refine asp 21 (fun hb2=>?_) fun hb2=>?_
  .
   refine act ?_;have hg:G i j=false:=by have h:=hb2;simpa using h
   refine wk 3 ?_;refine ax 24 (Cp Ag rfl rfl rfl rfl rfl rfl (by decide) rfl rfl rfl rfl rfl rfl) ?_;refine ax 25 (o_append Ag (n:=(Er (G i) (x.ins.take j) 0).length) (m:=1) (es:=(Er (G i) (x.ins.take j) 0).map Tac.cells) rfl rfl rfl rfl rfl rfl rfl rfl rfl (by rw[List.length_map]) rfl rfl (Nat.zero_lt_succ _) (.lst _ _) (by intro cs h;simp[partVals]at h;subst h;rfl) (fun _ cs h=>by simp[partVals]at h;subst h;rfl) rfl (by have h1:=M8 (G i) (x.ins.take j) 0;rw[List.length_take]at h1;simp[partVals];omega) (by have h1:=M8 (G i) (x.ins.take j) 0;rw[List.length_take]at h1;simp[partVals];simp only[maxLen];omega)) ?_;refine wk 3 ?_;exact mS
  refine acf ?_;have hg:G i j=true:=by have h:=hb2;simpa using h
  refine wk 2 ?_;exact mS
 refine acf ?_;have hje:j=x.ins.length:=by have h:=hb1;simp at h;omega
 subst hje;refine wk 2 ?_;refine AGo.ghost (.freeze 5 9 rfl rfl (by rw[List.length_map])) ?_;refine wk 5 ?_;refine⟨[_],⟨rfl,trivial⟩,?_,TV (Yb BC BC BC BC BC BC BC BC (fun x_=>by dsimp only;rw[Fc _ (by omega)];exact Ao _ _ _))⟩;show AV.lst false _=AV.lst false _;rw[List.take_length,List.drop_zero,List.take_of_length_le (by rw[List.length_map];exact Nat.le_refl _)]
theorem ZX(f:BFunc)(hs:f.sane)(hn0:0<f.blocks.length)(hn:f.blocks.length<=100000)(hr:f.regs<=100000)(hi: ∀x∈f.blocks,x.ins.length<=100000):APure Tryz.prog 43 [.agg f.cells] (fun r=>r= .tup [.agg (Vp f).cells,.agg [NQ (HX (Vp f))]]):=by
 have hr0:=hs.regs;obtain⟨R,hRf⟩: ∃R:Nat,f.regs=(R:Int):=⟨f.regs.toNat,by omega⟩
 have hR:R<=100000:=by omega
 refine APure.of_body (n:=83) Ag Tryz.func43 rfl rfl ?_;refine Nk ?_;refine ax 1 (GW 2 0) ?_;refine ax 2 (EU Ag 1) ?_;refine ax 3 (EU Ag 9) ?_;refine wk 4 ?_;refine AOps.call 10 (hn:=EV _ (DH (Ip f R (SB f) ((List.range R).map BH) (R) (fun b=>decide (b<R))) (DF f R (SB f) G0))) (r:=.ptr 2 1 0 0) rfl rfl rfl (cN (W:=hNew) (W':=(DH (Ip f R (SB f) ((List.range R).map BH) (R) (fun b=>decide (b<R))) (DF f R (SB f) G0))) kD rfl Tryz.func58 (by kernel_rfl) rfl rfl rfl (fun b hb=>by have:=So hb;(try simp only[hputs]);show _=some AObj.free;(repeat(first | refine AA (by exact Af (by omega)) ?_ | refine hrm_skip (by omega) ?_));rfl) (fun b hb=>⟨.free,rfl,rfl⟩) (fun b hb=>rfl) (fun b hb=>Py rfl (Cf _ _ _ _ _ _) (Bd CF f R _ _) hb) rfl (Sj f hs R hRf hR hn hi)) ?_;refine ax 4 (EU Ag 8) ?_;refine wk 4 ?_;refine Bc (γ:=RSd) (kf 10) (fun st=>⟨83,(Aa (Aa (Aa (Aa Ba 1 (.ptr 0 1 0 0)) 2 (.ptr 1 1 0 0)) 3 (.ptr 9 1 0 0)) 4 (.ptr 8 1 0 0)),(HA (nb [(.row false 2 [f.cells]),(.row false 2 [[.int .i64 0,.nil]]),(.row false 8 [Ta f R (st.es).length (st.ws.length)]),(.row false 1 (Ay (aR (Aw f)) f.blocks.length)),(.row false 1 (Ay (oR f.blocks.length R (SB f)) R)),(.row false 1 (Ay (gR f) f.blocks.length)),(.row true 1 (st.es)),(.row true 1 (bC R (st.w))),ArW,(.row false 1 [[.nil]])]) (DF f R (SB f) st.G))⟩) (fun st=>SI f R st) (fun st=>lU f R st) (lV R) (Sub.mk' Ci (B1 (k0:=10) rfl (by repeat(first | exact trivial | refine⟨⟨by first | rfl | exact BT rfl | exact gm,by first | rfl | exact Ad (fun _ _=>Bf (Ar _) _ _) | exact Ad (fun _ _=>A4 (Ar _) _ _ _ _) | exact Ad (fun _ _=>BZ (Ar _) _ _)⟩,?_⟩)) G6 Kt)) (SI.first hs hRf) (fun g b hb=>BI (k0:=10) rfl hb) ?_
 intro st hQ;obtain⟨G,w,ws,es⟩:=st;dsimp only at hQ |-;refine wk 10 ?_;refine asp 16 (fun hb1=>?_) fun hb1=>?_
 .
  refine act ?_;obtain⟨ws',v,hws⟩: ∃ws' v,ws=ws'++[v]:=by
   rcases E2 ws with h | h
   . have h2:=hb1;rw[h]at h2;simp at h2
   . exact h
  subst hws;have hpop:=hQ.q.wt.pop;have hv:=hpop.2.1;refine wk 13 ?_;refine dq 26 (A2 (r:=.int .i64 (ws'.length:Int)) rfl rfl rfl (KO (by have:=hQ.q.wt.le;simp at this;omega))) ?_;refine dq 27 (Ab Ag rfl rfl rfl rfl rfl rfl rfl rfl rfl (Int.natCast_nonneg _) (by simp;omega)) ?_;refine dq 28 (At Ag rfl rfl rfl (.ptr _ _ _ _ _ _ _ (BH v) rfl rfl (by rw[Nat.zero_add,Int.toNat_natCast];exact hQ.q.st.get)) rfl) ?_;refine wk 14 ?_;refine dq 39 (A2 (r:=.int .i64 (ws'.length:Int)) rfl rfl rfl (KO (by have:=hQ.q.wt.le;simp at this;omega))) ?_;refine dq 40 (Fw Ag (es:=es) (m:=ws'.length) rfl rfl rfl rfl rfl rfl rfl rfl rfl (by simp)) ?_;refine wk 11 ?_;refine aq 48 (Ab Ag rfl rfl rfl rfl rfl rfl rfl (An _ _).symm rfl (Int.natCast_nonneg _) (by omega)) ?_;refine AOps.w rfl rfl (o_store Ag rfl rfl rfl rfl rfl rfl (An _ _).symm Yl rfl (by decide) rfl DG) ?_;refine wk 4 ?_;refine AOps.call 51 (hn:=EV _ (DH (Ip f R (SB f) ((HO f v (⟨G,Cx w v false,ws',es⟩:RSd)).es) ((HO f v (⟨G,Cx w v false,ws',es⟩:RSd)).ws.length) ((HO f v (⟨G,Cx w v false,ws',es⟩:RSd)).w)) (DF f R (SB f) (HO f v (⟨G,Cx w v false,ws',es⟩:RSd)).G))) (r:=.tup []) rfl rfl rfl (Em (Ip f R (SB f) es ws'.length (Cx w v false)) (Ip f R (SB f) (HO f v (⟨G,Cx w v false,ws',es⟩:RSd)).es (HO f v (⟨G,Cx w v false,ws',es⟩:RSd)).ws.length (HO f v (⟨G,Cx w v false,ws',es⟩:RSd)).w) (DF f R (SB f) (HO f v (⟨G,Cx w v false,ws',es⟩:RSd)).G) rfl Tryz.func59 (by kernel_rfl) rfl rfl rfl rfl rfl (Cf _ _ _ _ _ _) (Cf _ _ _ _ _ _) (by repeat(first | exact trivial | refine⟨by first | rfl | exact congrArg (fun es=>some (AObj.row true 1 es)) (H8 false),?_⟩)) G6 (Bd CF f R _ _) (Bd CF f R _ _) rfl (SK f hs R hRf (⟨G,Cx w v false,ws',es⟩:RSd) ⟨hpop.1,hQ.q.st.pop⟩ v hv hn hR hi)) ?_
  refine an ?_;exact⟨(HO f v (⟨G,Cx w v false,ws',es⟩:RSd)),DropK.mk' Im (Bm (k0:=10) rfl m8 G6 (Bd (Ar _) f R _ _)),(hQ.reg hs hRf rfl).1,(hQ.reg hs hRf rfl).2⟩
 refine acf ?_;have hws:ws=[]:=by
  rcases E2 ws with h |⟨L,b,h⟩
  . exact h
  . have h2:=hb1;rw[h]at h2;simp at h2
 subst hws;have hdn:Ct f G=Vp f:=hQ.done hs hRf rfl;refine wk 8 ?_;refine dx 57 (AB Ag (n:=f.blocks.length) (m:=f.blocks.length) 11 true rfl rfl rfl (by simp) (by simp) rfl rfl rfl rfl rfl (Nat.zero_lt_succ _) rfl (Nat.le_refl _) (by show 56*f.blocks.length<=_;omega) (by simp only[maxLen];omega)) ?_;refine wk 1 ?_;refine dx 6 (EU Ag 10) ?_;refine wk 11 ?_;refine Bc (γ:=Nat) (kf 12) (fun k=>⟨83,(Aa (Aa (Aa (Aa (Aa (Aa (Aa (Aa Ba 1 (.ptr 0 1 0 0)) 2 (.ptr 1 1 0 0)) 3 (.ptr 9 1 0 0)) 4 (.ptr 8 1 0 0)) 6 (.ptr 10 1 0 0)) 60 (B8 f.blocks)) 61 (.int .i64 (f.blocks.length:Int))) 62 (.int .i64 (k:Int))),(HA (nb [(.row false 2 [f.cells]),(.row false 2 [[.int .i64 0,.nil]]),(.row false 8 [Ta f R (es).length (([]:List Nat).length)]),(.row false 1 (Ay (aR (Aw f)) f.blocks.length)),(.row false 1 (Ay (oR f.blocks.length R (SB f)) R)),(.row false 1 (Ay (gR f) f.blocks.length)),(.row true 1 (es)),(.row true 1 (bC R (w))),ArW,(.row false 1 [[.nil]]),(.row false 2 [[.int .i64 f.regs,.ref 11 f.blocks.length 0 f.blocks.length]]),(.row true 5 (((Ct f G).blocks.take k).map Block.cells++List.replicate (f.blocks.length-k) [.nil,.int .i64 0,.int .i64 0,.int .i64 0,.int .i64 0]))]) (DF f R (SB f) G))⟩) (fun k=>k<=f.blocks.length) (fun k=>f.blocks.length-k) 0 (Sub.mk' Ez (B1 (k0:=12) rfl jV FX (fun c h1 h2=>by rcases(by omega:c=12\/c=13\/c=14\/c=15)with rfl | rfl | rfl | rfl<;>first | rfl |(try simp only[hputs];repeat(first | rfl | refine AA (by exact Af (by omega)) ?_ | refine hrm_skip (by omega) ?_))))) (Nat.zero_le _) (fun g b hb=>BI (k0:=12) rfl hb) ?_
 intro k hk;refine wk 5 ?_;refine asp 63 (fun hb2=>?_) fun hb2=>?_
 .
  refine act ?_;have hkl:k<f.blocks.length:=by have h:=hb2;simp at h;exact h
  obtain⟨x,hx⟩:=Ae hkl;have hxm:=List.mem_of_getElem? hx;refine wk 6 ?_;refine aq 65 (MT Ag (AO hx)) ?_;refine wk 1 ?_;refine ax 7 (EU Ag 12) ?_;refine ax 8 (EU Ag 13) ?_;refine wk 7 ?_;refine aq 69 (Gp rfl rfl rfl) ?_;refine AOps.call 70 (hn:=_) (r:=Eh (Er (G k) x.ins 0)) rfl rfl rfl (cO (W:=WS f R (SB f) G es ([]:List Nat).length w k) kW rfl Tryz.func60 (by kernel_rfl) rfl rfl rfl (Yb BC BC BC BC BC BC BC BC (fun x_=>by(try simp only[hputs]);(try dsimp only);first | exact Ao _ _ _ |((repeat(first | refine AA (by exact Af (by omega)) ?_ | refine hrm_skip (by omega) ?_));exact Ao _ _ _))) (Vb f R (SB f) G es _ w k) Yc rfl (Vz f R (SB f) G es _ w k x hx (hi x hxm))) ?_;refine wk 8 ?_;refine aq 76 (Ab Ag rfl rfl rfl rfl rfl rfl rfl (AE (cutF_len f G) (Nat.le_of_lt hkl)) rfl (Int.natCast_nonneg _) (by omega)) ?_;refine AOps.w rfl rfl (o_store Ag rfl rfl rfl rfl rfl rfl (AE (cutF_len f G) (Nat.le_of_lt hkl)) (fill_get (cutF_len f G) hkl) rfl (by decide) rfl DG) ?_;refine wk 2 ?_;refine aq 77 (Bk rfl rfl hkl (by simp only[maxLen];omega)) ?_;refine wk 2 ?_;exact⟨k+1,DropK.mk' Im (Bm (k0:=12) rfl (by repeat(first | exact trivial | refine⟨⟨by first | rfl | exact congrArg (fun es=>some (AObj.row true 5 es)) (BU (f:=Block.cells) (x:=x.mid (Er (G k) x.ins 0)) (cutF_len f G) (FD hx)),by first | rfl | exact Ad (fun _ _=>Bf (Ar _) _ _) | exact Ad (fun _ _=>A4 (Ar _) _ _ _ _) | exact Ad (fun _ _=>BZ (Ar _) _ _)⟩,?_⟩)) FX (Bd (Ar _) f R _ _)),hkl,by omega⟩
 refine acf ?_;have hge:f.blocks.length<=k:=by have h:=hb2;simp at h;omega
 refine wk 2 ?_;refine AGo.ghost (.freezeCell 10 0 1 11 rfl rfl rfl rfl (AE (cutF_len f G) hk) (by decide)) ?_;rw[CT (f:=Block.cells) (z:=[.nil,.int .i64 0,.int .i64 0,.int .i64 0,.int .i64 0]) (cutF_len f G) hge];refine wk 3 ?_;refine dx 80 (DX Tryz.func62 (gZ (Ct f G) (ZY hQ.c hs) (by rw[cutF_len];exact hn0) (by rw[cutF_len];exact hn) hr (eE hi))) ?_;refine dq 81 (Xx Ag rfl rfl rfl rfl rfl rfl rfl rfl) ?_;refine wk 5 ?_;refine⟨[_,_],⟨⟨_,_,_,_,rfl,rfl,.ptr _ _ _ _ _ _ _ _ rfl rfl rfl,rfl⟩,⟨_,_,_,_,rfl,rfl,.ptr _ _ _ _ _ _ _ _ rfl rfl rfl,rfl⟩,trivial⟩,?_,rfl⟩;rw[<-hdn];rfl
theorem XN(next:List (List Int))(hnl:next.length<=100000)(b:Int)(s:DS)(es:List (List AV))(hl:s.been.length=next.length)(hw:WayIn next.length s es):ACall Tryz.prog 156 [.int .i64 b,.ptr 1 1 0 0,.ptr 2 1 0 0,.ptr 3 1 0 0] (hput (hput (hput (hput (hput hNew 0 (.row true 1 ((s).been.map A5))) 1 (.row false 1 [[A1 next]])) 2 (.row false 1 [[.ref 0 next.length 0 next.length]])) 3 (.row false 1 [[.ref 4 (es).length 0 (s).way.length]])) 4 (.row true 2 (es))) (fun r h'=>r= .tup []/\HSub (hput (hput (hput (hput (hput hNone 0 (.row true 1 (((BN b s)).been.map A5))) 1 (.row false 1 [[A1 next]])) 2 (.row false 1 [[.ref 0 next.length 0 next.length]])) 3 (.row false 1 [[.ref 4 ((Sx b s es)).length 0 ((BN b s)).way.length]])) 4 (.row true 2 ((Sx b s es)))) h'):=by
 refine ACall.of_body (n:=28) Ag Tryz.func156 rfl rfl ?_;refine wk 5 ?_;refine EY 7 (fun hb1=>?_) fun hb1=>?_
 .
  refine wk 6 ?_;refine EY 13 (fun hb2=>?_) fun hb2=>?_
  .
   have hb0:0<=b/\b<s.been.length:=by simp_all[A1]<;>omega
   obtain⟨v,hv⟩:=Ae (l:=s.been) (k:=b.toNat) (by omega);refine wk 2 ?_;refine aq 16 (Ab Ag rfl rfl rfl rfl rfl rfl rfl (by simp[hl]) rfl hb0.1 (by omega)) ?_;refine aq 17 (At Ag rfl rfl rfl (.ptr _ _ _ _ _ _ _ _ rfl (by simp[hl]) (show _=some [AV.bool v] by rw[Nat.zero_add,List.getElem?_map,hv];rfl)) rfl) ?_;refine wk 3 ?_;refine asp 19 (fun hb3=>?_) fun hb3=>?_
   .
    refine act ?_;have hnb:notBeen s.been b=true:=by rw[notBeen,hv];simp_all
    have hcap:=hw.cap;have hle:=hw.le;refine wk 4 ?_;refine aq 22 (Ab Ag rfl rfl rfl rfl rfl rfl rfl (by simp[hl]) rfl hb0.1 (by omega)) ?_;refine AOps.w rfl rfl (o_store Ag rfl rfl rfl rfl rfl rfl (by simp[hl]) (show _=some [AV.bool v] by rw[Nat.zero_add,List.getElem?_map,hv];rfl) rfl (by decide) rfl DG) ?_;refine wk 5 ?_;refine ax 26 (Cp Ag rfl rfl rfl rfl rfl rfl (by decide) rfl rfl rfl rfl rfl rfl) ?_;refine ax 27 (LM Ag (es:=es) rfl rfl rfl rfl rfl rfl rfl rfl rfl rfl hw.le rfl rfl (Nat.zero_lt_succ _) (.lst _ _) rfl (fun _=>rfl) (by show _*16<=_;omega) (by simp only[maxLen];omega)) ?_;refine wk 2 ?_;refine⟨[],trivial,rfl,?_⟩;rw[show BN b s=_ from dinto_eq hnb,show Sx b s es=_ from dD hnb];exact HSub.put (HSub.put (HSub.put (HSub.put (HSub.put (HSub.none _) (by first | rfl | exact congrArg (fun es=>some (AObj.row true 1 es)) (U8 _ _ _))) rfl) rfl) (by first | rfl | exact congrArg (fun m=>some (AObj.row false 1 [[AV.ref 4 _ 0 m]])) (by simp))) (by rfl)
   refine acf ?_;exact mQ
  exact i4
 refine AOps.k 8 rfl rfl rfl ?_;refine AOps.k 9 rfl rfl rfl ?_;refine AOps.k 10 rfl rfl rfl ?_;refine AOps.k 11 rfl rfl rfl ?_;refine wk 2 ?_;exact i4
theorem ib(b:Int):ACall Tryz.prog 155 [.int .i64 b] hNew (fun r h'=>r= .tup []/\HSub hNone h'):=by
 refine ACall.of_body (n:=2) Ag Tryz.func155 rfl rfl ?_;refine fH ?_;exact⟨[],trivial,rfl,HSub.none _⟩
theorem fY(next:List (List Int))(hnl:next.length<=100000)(hsm: ∀l∈next,l.length<=100000)(been:List Bool)(hbl:been.length=next.length):ACall Tryz.prog 154 [A1 next,.ref 0 next.length 0 next.length,.fn (.func 155) [] []] (hput hNew 0 (.row true 1 (been.map A5))) (fun r h'=>r= .tup []/\HSub (hput hNone 0 (.row true 1 ((GD next been).map A5))) h'):=by
 refine ACall.of_body (n:=69) Ag Tryz.func154 rfl rfl ?_;refine Nk ?_;refine ax 3 (GW 1 1) ?_;refine ax 4 (GW 1 2) ?_;refine wk 3 ?_;refine ax 6 (EU Ag 3) ?_;refine wk 2 ?_;refine AGo.ghost (.dryCell 3 0 0 4 2 true rfl rfl rfl rfl rfl (by decide)) ?_;refine Ya ?_;refine aq 10 (Gp rfl rfl rfl) ?_;refine wk 5 ?_;refine ax 12 (M2 (hc:=(hput (hput (hput (hput (hput hNew 0 (.row true 1 (((DS.mk been [])).been.map A5))) 1 (.row false 1 [[A1 next]])) 2 (.row false 1 [[.ref 0 next.length 0 next.length]])) 3 (.row false 1 [[.ref 4 (([]:List (List AV))).length 0 ((DS.mk been [])).way.length]])) 4 (.row true 2 (([]:List (List AV)))))) (hw:=(hput (hput (hput (hput (hput hNone 0 (.row true 1 (((BN 0 (DS.mk been []))).been.map A5))) 1 (.row false 1 [[A1 next]])) 2 (.row false 1 [[.ref 0 next.length 0 next.length]])) 3 (.row false 1 [[.ref 4 ((Sx 0 (DS.mk been []) ([]:List (List AV)))).length 0 ((BN 0 (DS.mk been []))).way.length]])) 4 (.row true 2 ((Sx 0 (DS.mk been []) ([]:List (List AV))))))) [4,3,2,1,0] [(0,(.row true 1 (((BN 0 (DS.mk been []))).been.map A5))),(1,(.row false 1 [[A1 next]])),(2,(.row false 1 [[.ref 0 next.length 0 next.length]])),(3,(.row false 1 [[.ref 4 ((Sx 0 (DS.mk been []) ([]:List (List AV)))).length 0 ((BN 0 (DS.mk been []))).way.length]])),(4,(.row true 2 ((Sx 0 (DS.mk been []) ([]:List (List AV))))))] rfl rfl Tryz.func156 (by kernel_rfl) rfl rfl rfl ⟨⟨_,rfl,rfl⟩,⟨_,rfl,rfl⟩,⟨_,rfl,rfl⟩,⟨_,rfl,rfl⟩,⟨_,rfl,rfl⟩,trivial⟩ rfl (AJ rfl (AJ rfl (AJ rfl (AJ rfl (AJ rfl (BF _)))))) ⟨⟨_,rfl,rfl,rfl⟩,⟨_,rfl,rfl,rfl⟩,⟨_,rfl,rfl,rfl⟩,⟨_,rfl,rfl,rfl⟩,⟨_,rfl,rfl,rfl⟩,trivial⟩ rfl (XN next hnl 0 (DS.mk been []) ([]:List (List AV)) hbl (PY hbl))) ?_
 refine wk 2 ?_;refine Bi (γ:=FW) 5 (fun q=>⟨69,(Aa (Aa (Aa (Aa (Aa Ba 2 (.fn (.func 155) [] [])) 3 (.ptr 1 1 0 0)) 4 (.ptr 2 1 0 0)) 6 (.ptr 3 1 0 0)) 7 (.fn (.func 156) [] [.ptr 1 1 0 0,.ptr 2 1 0 0,.ptr 3 1 0 0])),(hput (hput (hput (hput (hput (BM 5) 0 (.row true 1 ((q.s).been.map A5))) 1 (.row false 1 [[A1 next]])) 2 (.row false 1 [[.ref 0 next.length 0 next.length]])) 3 (.row false 1 [[.ref 4 (q.es).length 0 (q.s).way.length]])) 4 (.row true 2 (q.es)))⟩) (fun q=>FWInv next (H6 next (SL next (Fg been)+1) (Fg been)) q) (fun q=>q.g) ⟨Fg been,Sx 0 (DS.mk been []) [],SL next (Fg been)+1⟩ (Sub.mk' Ci Ru) (FWInv.first hbl) (fun _=>Ah (Ah (Ah (Ah (Ah (fun b hb=>A9 hb) rfl) rfl) rfl) rfl) rfl) ?_;intro q hF;refine wk 7 ?_;refine asp 15 (fun hb1=>?_) fun hb1=>?_
 .
  refine act ?_;have hpos:0<q.s.way.length:=by simpa using hb1
  obtain⟨⟨b,i⟩,hp⟩: ∃p,q.s.way.getLast?=some p:=⟨_,List.getLast?_eq_some_getLast (List.ne_nil_of_length_pos hpos)⟩
  have htop:=(hF.way.top hp).1;have hbi:=hF.ok.way (b,i) (by rw[Gj hp];simp);simp only at hbi;obtain⟨l,hnx⟩:=Ae (l:=next) (k:=b.toNat) (by omega);have hrl:Bs next b=l:=by simp[Bs,hnx]
  rw[hrl]at hbi;refine wk 7 ?_;refine aq 19 (A2 (r:=.int .i64 ((q.s.way.length-1:Nat):Int)) rfl rfl rfl (OE hpos (by have:=hF.way.cap;have:=hF.way.le;omega))) ?_;refine aq 20 (Ab Ag rfl rfl rfl rfl rfl rfl rfl rfl rfl (Int.natCast_nonneg _) (by have:=hF.way.le;omega)) ?_;refine wk 8 ?_;refine dq 24 (At Ag rfl rfl rfl (.ptr _ _ _ _ _ _ _ _ rfl rfl (show _=some (Dr (b,i)) by rw[Nat.zero_add,Int.toNat_natCast];exact htop)) rfl) ?_;refine wk 4 ?_;refine dq 29 (At Ag rfl rfl rfl (.ptr _ _ _ _ _ _ _ _ rfl rfl (show _=some (Dr (b,i)) by rw[Nat.zero_add,Int.toNat_natCast];exact htop)) rfl) ?_;refine dq 30 (Au Ag rfl rfl rfl rfl rfl rfl hbi.1 (IV hnx) rfl) ?_;refine wk 4 ?_;refine asp 33 (fun hb2=>?_) fun hb2=>?_
  .
   refine act ?_;have hil:i<l.length:=by have h:=hb2;simp at h;exact h
   obtain⟨y,hlx⟩:=Ae (l:=l) (k:=i.toNat) (by omega);refine wk 5 ?_;refine aq 37 (At Ag rfl rfl rfl (.ptr _ _ _ _ _ _ _ _ rfl rfl (show _=some (Dr (b,i)) by rw[Nat.zero_add,Int.toNat_natCast];exact htop)) rfl) ?_;refine aq 38 (A2 (r:=.int .i64 (i+1)) rfl rfl rfl (by simp only[AM,Bw,isShift,cond_false,if_true];rw[BJ (by omega) (by have:=hsm _ (List.mem_of_getElem? hnx);omega)])) ?_;refine wk 2 ?_;refine AOps.w rfl rfl (o_store Ag rfl rfl rfl rfl rfl rfl rfl (show _=some (Dr (b,i)) by rw[Nat.zero_add,Int.toNat_natCast];exact htop) rfl (by decide) rfl DG) ?_;refine wk 2 ?_;refine AGo.sub (s':=⟨69,(Aa (Aa (Aa (Aa (Aa (Aa Ba 2 (.fn (.func 155) [] [])) 3 (.ptr 1 1 0 0)) 4 (.ptr 2 1 0 0)) 6 (.ptr 3 1 0 0)) 7 (.fn (.func 156) [] [.ptr 1 1 0 0,.ptr 2 1 0 0,.ptr 3 1 0 0])) 8 (.ptr 4 q.es.length (0+(((q.s.way.length-1:Nat):Int)).toNat) 0)),(hput (hput (hput (hput (hput hNone 0 (.row true 1 (((DS.mk q.s.been (q.s.way.dropLast++[(b,i+1)]))).been.map A5))) 1 (.row false 1 [[A1 next]])) 2 (.row false 1 [[.ref 0 next.length 0 next.length]])) 3 (.row false 1 [[.ref 4 ((q.es.set (q.s.way.length-1) (Dr (b,i+1)))).length 0 ((DS.mk q.s.been (q.s.way.dropLast++[(b,i+1)]))).way.length]])) 4 (.row true 2 ((q.es.set (q.s.way.length-1) (Dr (b,i+1))))))⟩) (Sub.mk' Ci (by repeat(first | exact HSub.none _ | exact AH _ | exact AF (by decide) | refine HSub.put ?_ (by first | rfl | exact congrArg (fun es=>some (AObj.row true 2 es)) (by rw[Nat.zero_add,Int.toNat_natCast];rfl) | exact congrArg (fun p:Nat×Nat=>some (AObj.row false 1 [[AV.ref 4 p.1 0 p.2]])) (RA hp _ _)) | refine AG ?_ (by decide)))) ?_
   refine wk 6 ?_;refine dq 46 (At Ag rfl rfl rfl (.ptr _ _ _ _ _ _ _ _ rfl (by simp) (show _=some (Dr (b,i+1)) by rw[Nat.zero_add,Int.toNat_natCast,List.getElem?_set_self (by have:=hF.way.le;omega)])) rfl) ?_;refine dq 47 (Au Ag rfl rfl rfl rfl rfl rfl hbi.1 (IV hnx) rfl) ?_;refine wk 4 ?_;refine dq 52 (At Ag rfl rfl rfl (.ptr _ _ _ _ _ _ _ _ rfl (by simp) (show _=some (Dr (b,i+1)) by rw[Nat.zero_add,Int.toNat_natCast,List.getElem?_set_self (by have:=hF.way.le;omega)])) rfl) ?_;refine dq 53 (A2 (r:=.int .i64 i) rfl rfl rfl (by simp only[AM,Bw,isShift,cond_false,if_true];rw[show i+1-1=i by omega,BJ (by omega) (by have:=hsm _ (List.mem_of_getElem? hnx);omega)])) ?_;refine dq 54 (Au Ag rfl rfl rfl rfl rfl rfl hbi.2.2.1 (cs:=[.int .i64 (((Bs next b)[i.toNat]?).getD 0)]) (by show(List.map (fun b=>[AV.int .i64 b]) l)[i.toNat]?=_;rw[List.getElem?_map,hlx,hrl,hlx];rfl) rfl) ?_;refine wk 1 ?_;refine dx 56 (M2 (hc:=(hput (hput (hput (hput (hput hNew 0 (.row true 1 (((DS.mk q.s.been (q.s.way.dropLast++[(b,i+1)]))).been.map A5))) 1 (.row false 1 [[A1 next]])) 2 (.row false 1 [[.ref 0 next.length 0 next.length]])) 3 (.row false 1 [[.ref 4 ((q.es.set (q.s.way.length-1) (Dr (b,i+1)))).length 0 ((DS.mk q.s.been (q.s.way.dropLast++[(b,i+1)]))).way.length]])) 4 (.row true 2 ((q.es.set (q.s.way.length-1) (Dr (b,i+1))))))) (hw:=(hput (hput (hput (hput (hput hNone 0 (.row true 1 (((BN (((Bs next b)[i.toNat]?).getD 0) (DS.mk q.s.been (q.s.way.dropLast++[(b,i+1)])))).been.map A5))) 1 (.row false 1 [[A1 next]])) 2 (.row false 1 [[.ref 0 next.length 0 next.length]])) 3 (.row false 1 [[.ref 4 ((Sx (((Bs next b)[i.toNat]?).getD 0) (DS.mk q.s.been (q.s.way.dropLast++[(b,i+1)])) (q.es.set (q.s.way.length-1) (Dr (b,i+1))))).length 0 ((BN (((Bs next b)[i.toNat]?).getD 0) (DS.mk q.s.been (q.s.way.dropLast++[(b,i+1)])))).way.length]])) 4 (.row true 2 ((Sx (((Bs next b)[i.toNat]?).getD 0) (DS.mk q.s.been (q.s.way.dropLast++[(b,i+1)])) (q.es.set (q.s.way.length-1) (Dr (b,i+1)))))))) [4,3,2,1,0] [(0,(.row true 1 (((BN (((Bs next b)[i.toNat]?).getD 0) (DS.mk q.s.been (q.s.way.dropLast++[(b,i+1)])))).been.map A5))),(1,(.row false 1 [[A1 next]])),(2,(.row false 1 [[.ref 0 next.length 0 next.length]])),(3,(.row false 1 [[.ref 4 ((Sx (((Bs next b)[i.toNat]?).getD 0) (DS.mk q.s.been (q.s.way.dropLast++[(b,i+1)])) (q.es.set (q.s.way.length-1) (Dr (b,i+1))))).length 0 ((BN (((Bs next b)[i.toNat]?).getD 0) (DS.mk q.s.been (q.s.way.dropLast++[(b,i+1)])))).way.length]])),(4,(.row true 2 ((Sx (((Bs next b)[i.toNat]?).getD 0) (DS.mk q.s.been (q.s.way.dropLast++[(b,i+1)])) (q.es.set (q.s.way.length-1) (Dr (b,i+1)))))))] rfl rfl Tryz.func156 (by kernel_rfl) rfl rfl rfl ⟨⟨_,rfl,rfl⟩,⟨_,rfl,rfl⟩,⟨_,rfl,rfl⟩,⟨_,rfl,rfl⟩,⟨_,rfl,rfl⟩,trivial⟩ rfl (AJ rfl (AJ rfl (AJ rfl (AJ rfl (AJ rfl (BF _)))))) ⟨⟨_,rfl,rfl,rfl⟩,⟨_,rfl,rfl,rfl⟩,⟨_,rfl,rfl,rfl⟩,⟨_,rfl,rfl,rfl⟩,⟨_,rfl,rfl,rfl⟩,trivial⟩ rfl (XN next hnl (((Bs next b)[i.toNat]?).getD 0) (DS.mk q.s.been (q.s.way.dropLast++[(b,i+1)])) (q.es.set (q.s.way.length-1) (Dr (b,i+1))) hF.ok.len (hF.way.seen hp))) ?_
   refine wk 2 ?_;exact mJ
  refine acf ?_;have hil: ¬i<l.length:=by have h:=hb2;simp at h;omega
  refine wk 6 ?_;refine aq 60 (At Ag rfl rfl rfl (.ptr _ _ _ _ _ _ _ _ rfl rfl (show _=some (Dr (b,i)) by rw[Nat.zero_add,Int.toNat_natCast];exact htop)) rfl) ?_;refine wk 7 ?_;refine aq 64 (A2 (r:=.int .i64 ((q.s.way.length-1:Nat):Int)) rfl rfl rfl (OE hpos (by have:=hF.way.cap;have:=hF.way.le;omega))) ?_;refine aq 65 (Fw (m:=(DS.mk q.s.been q.s.way.dropLast).way.length) Ag rfl rfl rfl rfl rfl rfl rfl rfl (by simp) (by simp)) ?_;refine wk 5 ?_;refine ax 68 (M2 (hc:=hNew) (hw:=hNone) [] [] rfl rfl Tryz.func155 (by kernel_rfl) rfl rfl rfl trivial rfl (BF _) trivial rfl (ib b)) ?_;refine an ?_;exact mJ
 refine acf ?_;have hnil:q.s.way=[]:=List.length_eq_zero_iff.1 (by have h:=hb1;simp at h;simpa using h);refine wk 1 ?_;refine⟨[],trivial,rfl,?_⟩;rw[show GD next been=q.s.been from(congrArg DS.been (hF.done hnil)).symm];exact HSub.put (HSub.none _) rfl
theorem bR(next:List (List Int))(hnl:next.length<=100000)(hsm: ∀l∈next,l.length<=100000):APure Tryz.prog 148 [A1 next] (fun r=>r=Cu (GD next (List.replicate next.length false))):=by
 refine APure.of_body (n:=11) Ag Tryz.func148 rfl rfl ?_;refine wk 8 ?_;refine ax 6 (AB Ag (n:=next.length) (m:=next.length) 0 true rfl rfl rfl (by simp) (by simp) rfl rfl rfl rfl rfl (Nat.zero_lt_succ _) rfl (Nat.le_refl _) (by show 1*next.length<=_;omega) (by simp only[maxLen];omega)) ?_;refine wk 3 ?_;refine AGo.sub (s':=⟨11,(Aa (Aa Ba 0 (A1 next)) 3 (.ref 0 next.length 0 next.length)),(hput hNone 0 (.row true 1 (((List.replicate next.length false)).map A5)))⟩) (Sub.mk' Ci (by repeat(first | exact HSub.none _ | exact AH _ | exact AF (by decide) | refine HSub.put ?_ (by first | rfl | exact congrArg (fun es=>some (AObj.row true 1 es)) (by rw[List.map_replicate];rfl)) | refine AG ?_ (by decide)))) ?_;refine wk 3 ?_;refine ax 9 (Wj (fY next hnl hsm (List.replicate next.length false) (by simp)) [0] [(0,(.row true 1 ((GD next (List.replicate next.length false)).map A5)))] rfl Tryz.func154 (by kernel_rfl) rfl rfl rfl ⟨⟨_,rfl,rfl⟩,trivial⟩ rfl (AJ rfl (BF _)) ⟨⟨_,rfl,rfl,rfl⟩,trivial⟩ rfl) ?_
 refine wk 2 ?_;refine AGo.ghost (.freezeA 3 0 rfl rfl (by simp[JZ])) ?_;refine wk 4 ?_;refine GN ⟨[_],⟨rfl,trivial⟩,?_,rfl⟩;rfl
theorem VH(f:BFunc)(reach:List Bool)(hn:f.blocks.length<=1000)(hr:reach.length=f.blocks.length)(hle:f.leads):APure Tryz.prog 149 [.agg f.cells,A1 f.nexts,Cu reach] (fun r=>r= .tup [AZ (f.takes reach),Cu (f.takenAt reach f.blocks.length)]):=by
 refine APure.of_body (n:=104) Ag Tryz.func149 rfl rfl ?_;refine Nk ?_;refine ax 3 (GW 2 0) ?_;refine wk 8 ?_;refine ax 18 (AB Ag (n:=f.blocks.length) (m:=f.blocks.length) 1 true rfl rfl rfl (by simp) (by simp) rfl rfl rfl rfl rfl (Nat.zero_lt_succ _) rfl (Nat.le_refl _) (by show 8*f.blocks.length<=_;omega) (by simp only[maxLen];omega)) ?_;refine wk 10 ?_;refine Bi (γ:=Nat) 2 (fun k=>⟨104,(Aa (Aa (Aa (Aa (Aa (Aa (Aa (Aa Ba 0 (.agg f.cells)) 1 (A1 f.nexts)) 2 (Cu reach)) 3 (.ptr 0 1 0 0)) 8 (.ref 1 f.blocks.length 0 f.blocks.length)) 19 (A1 f.nexts)) 20 (.int .i64 (f.blocks.length:Int))) 21 (.int .i64 (k:Int))),(hput (hput (BM 2) 0 (.row false 2 [f.cells])) 1 (.row true 1 (BK (Bv f.nexts reach k))))⟩) (fun k=>k<=f.blocks.length) (fun k=>f.blocks.length-k) 0 (Sub.mk' (by repeat(first | exact ESub.new _ | refine ESub.put ?_ (by first | rfl | exact congrArg (fun(n:Nat)=>some (AV.int .i64 (n:Int))) (by simp[AK])))) (by repeat(first | exact HSub.none _ | exact AH _ | exact AF (by decide) | refine HSub.put ?_ (by first | rfl | exact congrArg (fun es=>some (AObj.row true 1 es)) (by rw[Bv,AK];exact K0 _)) | refine AG ?_ (by decide)))) (Nat.zero_le _) (fun _=>Ah (Ah (fun b hb=>A9 hb) rfl) rfl) ?_
 intro k hk;refine wk 5 ?_;refine asp 22 (fun hb1=>?_) fun hb1=>?_
 .
  refine act ?_;have hkl:k<f.blocks.length:=by simpa using hb1
  obtain⟨x,hx⟩:=Ae hkl;have hnx:=CL hx;obtain⟨rk,hrk⟩:=Ae (l:=reach) (k:=k) (by omega);refine wk 6 ?_;refine aq 24 (Au Ag rfl rfl rfl rfl rfl rfl (Int.natCast_nonneg _) (AO (by assumption)) rfl) ?_;refine wk 9 ?_;refine aq 28 (Au Ag rfl rfl rfl rfl rfl rfl (Int.natCast_nonneg _) (AO (by assumption)) rfl) ?_;refine wk 3 ?_;refine asp 30 (fun hb2=>?_) fun hb2=>?_
  .
   refine act ?_;have hrf:reach[k]?=some false:=by rw[hrk];simpa using hb2
   exact mA
  refine acf ?_;have hrt:reach[k]?=some true:=by rw[hrk];simpa using hb2
  have h2:=LR f x.nexts (List.mem_of_getElem? hnx);refine wk 8 ?_;refine Bi (γ:=Nat) 2 (fun j=>⟨104,(Aa (Aa (Aa (Aa (Aa (Aa (Aa (Aa (Aa (Aa (Aa (Aa Ba 0 (.agg f.cells)) 1 (A1 f.nexts)) 2 (Cu reach)) 3 (.ptr 0 1 0 0)) 8 (.ref 1 f.blocks.length 0 f.blocks.length)) 19 (A1 f.nexts)) 20 (.int .i64 (f.blocks.length:Int))) 21 (.int .i64 (k:Int))) 9 (.int .i64 (k:Int))) 31 (AZ x.nexts)) 32 (.int .i64 (x.nexts.length:Int))) 33 (.int .i64 (j:Int))),(hput (hput (BM 2) 0 (.row false 2 [f.cells])) 1 (.row true 1 (BK ((x.nexts.take j).foldl I8 (Bv f.nexts reach k)))))⟩) (fun j=>j<=x.nexts.length) (fun j=>x.nexts.length-j) 0 (Sub.mk' Ez Ru) (Nat.zero_le _) (fun _=>Ah (Ah (fun b hb=>A9 hb) rfl) rfl) ?_;intro j hj;refine wk 5 ?_;refine asp 34 (fun hb3=>?_) fun hb3=>?_
  .
   refine act ?_;have hjl:j<x.nexts.length:=by simpa using hb3
   obtain⟨y,hy⟩:=Ae hjl;have hyr:=hle x.nexts (List.mem_of_getElem? hnx) y (List.mem_of_getElem? hy);have hub:=QV (Kp (x.nexts.take j) (Mn (LR f) reach k)) y;have hjt:(x.nexts.take j).length=j:=by rw[List.length_take];omega
   rw[hjt]at hub;refine wk 5 ?_;refine aq 35 (Au Ag rfl rfl rfl rfl rfl rfl (Int.natCast_nonneg _) (AO (by assumption)) rfl) ?_;refine wk 6 ?_;refine aq 39 (Ab Ag rfl rfl rfl rfl rfl rfl rfl (by rw[Bl,CU,Bx,AK]) rfl hyr.1 (by omega)) ?_;refine aq 40 (At Ag rfl rfl rfl (.ptr _ _ _ _ _ _ _ _ rfl (by rw[Bl,CU,Bx,AK]) (OP (by rw[CU,Bx,AK];exact hyr))) rfl) ?_;refine aq 41 (A2 (r:=.int .i64 (iget ((x.nexts.take j).foldl I8 (Bv f.nexts reach k)) y+1)) rfl rfl rfl (by simp only[AM,Bw,isShift,cond_false,if_true];rw[BJ (by omega) (by omega)])) ?_;refine aq 42 (Ab Ag rfl rfl rfl rfl rfl rfl rfl (by rw[Bl,CU,Bx,AK]) rfl hyr.1 (by omega)) ?_;refine AOps.w rfl rfl (o_store Ag rfl rfl rfl rfl rfl rfl (by rw[Bl,CU,Bx,AK]) (OP (by rw[CU,Bx,AK];exact hyr)) rfl (by decide) rfl DG) ?_;refine wk 2 ?_;refine aq 43 (Bk rfl rfl hjl (by simp only[maxLen];omega)) ?_;refine wk 2 ?_;exact⟨j+1,Drop.mk' Rs (by repeat(first | exact HDrop.none _ _ | exact HDrop.tail _ _ | refine HDrop.put ?_ (by first | rfl | exact congrArg (fun es=>some (AObj.row true 1 es)) (by rw[WK hy];exact QX _ _ _)) rfl rfl)),hjl,by omega⟩
  refine acf ?_;have hge2:x.nexts.length<=j:=by simpa using hb3
  exact mA
 refine acf ?_;have hge:f.blocks.length<=k:=by simpa using hb1
 obtain rfl:k=f.blocks.length:=by omega
 refine wk 6 ?_;refine ax 48 (AB Ag (n:=f.blocks.length) (m:=f.blocks.length) 2 true rfl rfl rfl (by simp) (by simp) rfl rfl rfl rfl rfl (Nat.zero_lt_succ _) rfl (Nat.le_refl _) (by show 8*f.blocks.length<=_;omega) (by simp only[maxLen];omega)) ?_;refine wk 7 ?_;refine ax 52 (AB Ag (n:=f.blocks.length) (m:=f.blocks.length) 3 true rfl rfl rfl (by simp) (by simp) rfl rfl rfl rfl rfl (Nat.zero_lt_succ _) rfl (Nat.le_refl _) (by show 1*f.blocks.length<=_;omega) (by simp only[maxLen];omega)) ?_;refine wk 11 ?_;refine Bi (γ:=Nat) 4 (fun k=>⟨104,(Aa (Aa (Aa (Aa (Aa (Aa (Aa (Aa (Aa (Aa Ba 0 (.agg f.cells)) 1 (A1 f.nexts)) 2 (Cu reach)) 3 (.ptr 0 1 0 0)) 8 (.ref 1 f.blocks.length 0 f.blocks.length)) 6 (.ref 2 f.blocks.length 0 f.blocks.length)) 7 (.ref 3 f.blocks.length 0 f.blocks.length)) 54 (B8 f.blocks)) 55 (.int .i64 (f.blocks.length:Int))) 56 (.int .i64 (k:Int))),(hput (hput (hput (hput (BM 4) 0 (.row false 2 [f.cells])) 1 (.row true 1 (BK (waysF f.nexts reach)))) 2 (.row true 1 (((f.takes reach).take k).map Sy++List.replicate (f.blocks.length-k) [.int .i64 0]))) 3 (.row true 1 ((f.takenAt reach k).map A5)))⟩) (fun k=>k<=f.blocks.length) (fun k=>f.blocks.length-k) 0 (Sub.mk' Ez (by repeat(first | exact HSub.none _ | exact AH _ | exact AF (by decide) | refine HSub.put ?_ (by first | rfl | exact congrArg (fun w=>some (AObj.row true 1 (BK w))) (by rw[waysF,AK]) | exact congrArg (fun es=>some (AObj.row true 1 es)) (by simp[BFunc.takenAt,A5])) | refine AG ?_ (by decide)))) (Nat.zero_le _) (fun _=>Ah (Ah (Ah (Ah (fun b hb=>A9 hb) rfl) rfl) rfl) rfl) ?_
 intro k hk;refine wk 5 ?_;refine asp 57 (fun hb4=>?_) fun hb4=>?_
 .
  refine act ?_;have hkl:k<f.blocks.length:=by simpa using hb4
  obtain⟨x,hx⟩:=Ae hkl;obtain⟨rk,hrk⟩:=Ae (l:=reach) (k:=k) (by omega);have htk:=Ls (reach:=reach) hx;refine wk 6 ?_;refine aq 59 (Au Ag rfl rfl rfl rfl rfl rfl (Int.natCast_nonneg _) (AO (by assumption)) rfl) ?_;refine wk 1 ?_;refine ax 14 (EU Ag 4) ?_;refine wk 7 ?_;refine aq 63 (Ab Ag rfl rfl rfl rfl rfl rfl rfl (AE (AP f reach) (Nat.le_of_lt hkl)) rfl (Int.natCast_nonneg _) (by omega)) ?_;refine AOps.w rfl rfl (o_store Ag rfl rfl rfl rfl rfl rfl (AE (AP f reach) (Nat.le_of_lt hkl)) (fill_get (AP f reach) hkl) rfl (by decide) rfl DG) ?_;refine wk 5 ?_;refine aq 66 (Au Ag rfl rfl rfl rfl rfl rfl (Int.natCast_nonneg _) (AO (by assumption)) rfl) ?_;refine wk 2 ?_;refine EY 68 (fun hb5=>?_) fun hb5=>?_
  .
   refine wk 5 ?_;refine EY 73 (fun hb6=>?_) fun hb6=>?_
   .
    refine wk 5 ?_;refine EY 78 (fun hb7=>?_) fun hb7=>?_
    .
     refine wk 6 ?_;refine EY 84 (fun hb8=>?_) fun hb8=>?_
     .
      have hto:=IQ hle hx (.inl (by simp_all));refine wk 3 ?_;refine aq 88 (Ab Ag rfl rfl rfl rfl rfl rfl rfl (by rw[Bl,waysF,Bx,AK]) rfl hto.1 (by omega)) ?_;refine aq 89 (At Ag rfl rfl rfl (.ptr _ _ _ _ _ _ _ _ rfl (by rw[Bl,waysF,Bx,AK]) (OP (by rw[waysF,Bx,AK];exact hto))) rfl) ?_;refine wk 3 ?_;refine asp 91 (fun hb9=>?_) fun hb9=>?_
      .
       refine act ?_;have hyes:takeOf f.nexts reach k x=x.to:=VI hrk (by simp_all);refine wk 6 ?_;refine aq 96 (Ab Ag rfl rfl rfl rfl rfl rfl rfl (by rw[List.length_set];exact AE (AP f reach) (Nat.le_of_lt hkl)) rfl (Int.natCast_nonneg _) (by omega)) ?_;refine AOps.w rfl rfl (o_store Ag rfl rfl rfl rfl rfl rfl (by rw[List.length_set];exact AE (AP f reach) (Nat.le_of_lt hkl)) (PR (fill_get (AP f reach) hkl)) rfl (by decide) rfl DG) ?_;refine wk 5 ?_;refine aq 100 (Ab Ag rfl rfl rfl rfl rfl rfl rfl (by rw[List.length_map,Cj]) rfl hto.1 (by omega)) ?_;refine AOps.w rfl rfl (o_store Ag rfl rfl rfl rfl rfl rfl (by rw[List.length_map,Cj]) (cs:=[.bool (bget (f.takenAt reach k) x.to)]) (by rw[Nat.zero_add];exact lJ (by rw[Cj];exact hto)) rfl (by decide) rfl DG) ?_;exact q6
      refine acf ?_;have hno:takeOf f.nexts reach k x= -1:=takeOf_no hrk (by simp_all);exact q6
     refine AOps.k 85 rfl rfl rfl ?_;refine AOps.k 86 rfl rfl rfl ?_;refine AOps.k 87 rfl rfl rfl ?_;refine AOps.k 88 rfl rfl rfl ?_;refine AOps.k 89 rfl rfl rfl ?_;refine AOps.k 90 rfl rfl rfl ?_;refine wk 3 ?_;have hno:takeOf f.nexts reach k x= -1:=takeOf_no hrk (by simp_all);exact q6
    exact jM
   refine AOps.k 74 rfl rfl rfl ?_;refine AOps.k 75 rfl rfl rfl ?_;refine AOps.k 76 rfl rfl rfl ?_;refine wk 2 ?_;exact jM
  refine AOps.k 69 rfl rfl rfl ?_;refine AOps.k 70 rfl rfl rfl ?_;refine AOps.k 71 rfl rfl rfl ?_;refine wk 2 ?_;refine AOps.k 74 rfl rfl rfl ?_;refine AOps.k 75 rfl rfl rfl ?_;refine AOps.k 76 rfl rfl rfl ?_;refine wk 2 ?_;exact jM
 refine acf ?_;have hge:f.blocks.length<=k:=by simpa using hb4
 obtain rfl:k=f.blocks.length:=by omega
 refine wk 2 ?_;refine AGo.ghost (.freezeA 6 2 rfl rfl (AE (AP f reach) (Nat.le_refl _))) ?_;refine AGo.ghost (.freezeA 7 3 rfl rfl (by rw[List.length_map,Cj])) ?_;refine wk 7 ?_;refine⟨[_,_],⟨rfl,rfl,trivial⟩,?_,rfl⟩;have e1:=CT (f:=Sy) (z:=[.int .i64 0]) (AP f reach) (Nat.le_refl _);rw[List.drop_zero,List.take_of_length_le (Nat.le_of_eq (AE (AP f reach) (Nat.le_refl _)).symm)]at e1;show AV.tup [.lst false _,.lst false _]=_;rw[e1];rfl
theorem ZD(takes:List Int)(i:Int)(hn:takes.length<=1000)(hi:0<=i/\i<takes.length)(hin: ∀v∈takes,v= -1\/(0<=v/\v<takes.length))(he:ends takes takes.length i=true):ACall Tryz.prog 150 [.int .i64 i,.ptr 2 1 0 0] (hput hNew 2 (.row false 1 [[AZ takes]])) (fun r h'=>r=AZ (Bb takes i)/\HSub (hput hNone 2 (.row false 1 [[AZ takes]])) h'):=by
 refine ACall.of_body (n:=21) Ag Tryz.func150 rfl rfl ?_;refine wk 7 ?_;refine ax 6 (o_litRow Ag 3 true rfl rfl rfl rfl rfl rfl (by decide) rfl rfl rfl rfl DG rfl rfl) ?_;refine wk 4 ?_;refine AGo.loopI (γ:=jo) (fun q=>⟨21,(Aa (Aa (Aa Ba 0 (.int .i64 q.c)) 1 (.ptr 2 1 0 0)) 4 (.ref 3 q.acc.length 0 q.acc.length)),(hput (hput hNone 2 (.row false 1 [[AZ takes]])) 3 (.row true 1 (BK q.acc)))⟩) (fun q=>FInv2 takes (Bb takes i) q) (fun q=>q.g) ⟨i,[i],takes.length⟩ (Sub.mk' Ci Ru) (FInv2.first hi he) ?_;intro q hF;refine wk 5 ?_;refine aq 9 (Au Ag rfl rfl rfl rfl rfl rfl hF.c.1 (dF hF.c) rfl) ?_;refine wk 3 ?_;refine asp 11 (fun hb1=>?_) fun hb1=>?_
 .
  refine act ?_;have hnx:=hF.next hin hb1;have hlen:=hF.len;have hg0:0<q.g:=by omega
  refine wk 6 ?_;refine aq 14 (Au Ag rfl rfl rfl rfl rfl rfl hF.c.1 (dF hF.c) rfl) ?_;refine wk 6 ?_;refine ax 18 (Cp Ag rfl rfl rfl rfl rfl rfl (by decide) rfl rfl rfl rfl rfl rfl) ?_;refine ax 19 (o_append Ag (n:=q.acc.length) (m:=1) rfl rfl rfl rfl rfl rfl rfl rfl rfl (by rw[Bl]) rfl rfl (Nat.zero_lt_succ _) (.lst _ _) (by intro cs h;simp[partVals]at h;subst h;rfl) (fun _ cs h=>by simp[partVals]at h;subst h;rfl) rfl (by simp[Bl,partVals];show _*8<=_;omega) (by simp[Bl,partVals];simp only[maxLen];omega)) ?_;refine wk 2 ?_;exact⟨⟨iget takes q.c,q.acc++[iget takes q.c],q.g-1⟩,Sub.mk' (by repeat(first | exact ESub.new _ | refine ESub.put ?_ (by first | rfl | exact congrArg (fun n=>some (AV.ref 3 n 0 n)) (by simp)))) (by repeat(first | exact HSub.none _ | exact AH _ | exact AF (by decide) | refine HSub.put ?_ (by first | rfl | exact congrArg (fun es=>some (AObj.row true 1 es)) (by simp[BK,partVals];rfl)) | refine AG ?_ (by decide))),hnx.1,hnx.2⟩
 refine acf ?_;have hdone:=hF.done hb1;refine wk 2 ?_;refine AGo.ghost (.freezeA 4 3 rfl rfl (by rw[Bl])) ?_;refine wk 5 ?_;refine⟨[_],⟨rfl,trivial⟩,?_,HSub.put (HSub.none _) rfl⟩;rw[<-hdone];rfl
theorem Zt(f:BFunc)(p:List Int)(hf: ∀x∈f.blocks,x.ins.length<=10000)(hp:ra f.blocks.length p)(hl:p.length<=100000):APure Tryz.prog 151 [.agg f.cells,AZ p] (fun r=>r=Eh (f.joined p)):=by
 obtain⟨hne,hin⟩:=hp;obtain⟨i0,rest,rfl⟩: ∃i0 rest,p=i0::rest:=⟨p.head hne,p.tail,(List.cons_head_tail hne).symm⟩
 have h0:=hin i0 (by simp);have hrl:rest.length<=100000:=by simp at hl;omega
 refine APure.of_body (n:=40) Ag Tryz.func151 rfl rfl ?_;refine Nk ?_;refine ax 2 (GW 2 0) ?_;refine wk 7 ?_;refine dq 12 (Au Ag rfl rfl rfl rfl rfl rfl (by decide) (cs:=[.int .i64 i0]) rfl rfl) ?_;refine wk 1 ?_;refine dq 14 (Au Ag rfl rfl rfl rfl rfl rfl h0.1 (IV (Be h0)) rfl) ?_;refine wk 11 ?_;refine aq 22 (TH Ag rfl rfl rfl rfl rfl rfl rfl) ?_;refine wk 6 ?_;refine aq 24 (kV Ag (c:=[.int .i64 i0]) (es:=BK rest) rfl rfl rfl rfl rfl rfl (by intro cs h;simp[BK]at h;rcases h with rfl |⟨n,_,rfl⟩<;>rfl)) ?_;refine wk 4 ?_;refine AGo.loopI (γ:=Nat) (fun k=>⟨40,(Aa (Aa (Aa (Aa (Aa Ba 2 (.ptr 0 1 0 0)) 6 (Sp (UA f rest k) 1 (Ii f i0 rest k))) 24 (AZ rest)) 25 (.int .i64 (rest.length:Int))) 26 (.int .i64 (k:Int))),(hput (hput hNone 0 (.row false 2 [f.cells])) 1 (LZ (UA f rest k) 8 (Ii f i0 rest k)))⟩) (fun k=>k<=rest.length) (fun k=>rest.length-k) 0 (Sub.mk' (by repeat(first | exact ESub.new _ | refine ESub.put ?_ (by first | rfl | exact congrArg (fun es=>some (AV.lst true es)) (by simp[Ii,BFunc.joined]) | exact congrArg (fun(n:Nat)=>some (AV.int .i64 (n:Int))) (by simp[Bl])))) Ru) (Nat.zero_le _) ?_
 intro k hk;refine wk 5 ?_;refine asp 27 (fun hb1=>?_) fun hb1=>?_
 .
  refine act ?_;have hkl:k<rest.length:=by simpa[Bl]using hb1
  obtain⟨y,hy⟩:=Ae hkl;have hyr:=hin y (by simp[List.mem_of_getElem? hy]);have hb1:(Ii f i0 rest k).length+(List.map Tac.cells (f.blockAt y).ins).length<=2000000000:=by
   have h1:=Kk hf (i0::(rest.take k));have h2:=Kk hf [y];simp only[BFunc.joined,List.flatMap_cons,List.flatMap_nil,List.append_nil,List.length_append,List.length_cons,List.length_nil,List.length_take]at h1 h2;simp only[Ii,BFunc.joined,List.length_map,List.length_append];omega
  refine wk 5 ?_;refine aq 28 (MT Ag (AO hy)) ?_;refine wk 8 ?_;refine aq 34 (Au Ag rfl rfl rfl rfl rfl rfl hyr.1 (IV (Be hyr)) rfl) ?_;refine wk 2 ?_;refine ax 37 (Qp Ag 1 rfl rfl rfl rfl rfl rfl rfl rfl rfl rfl rfl (Nat.zero_lt_succ _) (MD f i0 rest k).1 (MD f i0 rest k).2 (QU _).1 (QU _).2 (by show _*64<=_;omega) (by simp only[maxLen];omega)) ?_;refine wk 3 ?_;refine aq 38 (Bk rfl rfl hkl (by simp only[maxLen];omega)) ?_;refine wk 2 ?_;exact⟨k+1,Sub.mk' (by repeat(first | exact ESub.new _ | refine ESub.put ?_ (by first | rfl | exact congrArg (fun p:Bool×List (List AV)=>some (Sp p.1 1 p.2)) (jh hy)))) (by repeat(first | exact HSub.none _ | exact AH _ | exact AF (by decide) | refine HSub.put ?_ (by first | rfl | exact congrArg (fun p:Bool×List (List AV)=>some (LZ p.1 8 p.2)) (jh hy)) | refine AG ?_ (by decide))),hkl,by omega⟩
 refine acf ?_;have hge:rest.length<=k:=by simpa[Bl]using hb1
 obtain rfl:k=rest.length:=by omega
 refine wk 2 ?_;refine AGo.ghost (.endJ 6 1 rfl rfl) ?_;refine wk 4 ?_;refine GN ⟨[_],⟨rfl,trivial⟩,?_,rfl⟩;show AV.lst false _=AV.lst false _;rw[Ii,List.take_length];rfl
theorem YK(f:BFunc)(hf:f.tame):APure Tryz.prog 144 [.agg f.cells] (fun r=>r= .tup [.agg f.tidy.cells,A1 f.tpaths]):=by
 have hn:=hf.mild;have hle:=hf.leads;have hnn:=AK f;have hrl:=KI f;have hn2: ∀l∈f.nexts,l.length<=100000:=fun l hl=>by have:=LR f l hl;omega
 have htl:f.tk.length=f.blocks.length:=AP f _;have hti:=Hn hle f.reach;refine APure.of_body (n:=119) Ag Tryz.func144 rfl rfl ?_;refine Nk ?_;refine ax 1 (GW 2 0) ?_;refine ax 2 (EU Ag 1) ?_;refine wk 5 ?_;refine ax 17 (DX Tryz.func80 (Si f (by omega))) ?_;refine wk 5 ?_;refine ax 19 (DX Tryz.func148 (bR f.nexts (by omega) hn2)) ?_;refine wk 7 ?_;refine ax 24 (DX Tryz.func149 (VH f f.reach hn hrl hle)) ?_;refine wk 3 ?_;refine ax 6 (EU Ag 2) ?_;refine wk 8 ?_;refine AGo.ghost (.dry 8 4 1 true rfl rfl rfl (by decide)) ?_;refine wk 4 ?_;refine ax 30 (AB Ag (n:=f.blocks.length) (m:=f.blocks.length) 3 true rfl rfl rfl (by simp) (by simp) rfl rfl rfl rfl rfl (Nat.zero_lt_succ _) rfl (Nat.le_refl _) (by show 8*f.blocks.length<=_;omega) (by simp only[maxLen];omega)) ?_;refine wk 4 ?_;refine aq 31 (Gp rfl rfl rfl) ?_;refine wk 11 ?_;refine Bi (γ:=Nat) 5 (fun k=>⟨119,(Aa (Aa (Aa (Aa (Aa (Aa (Aa (Aa (Aa Ba 1 (.ptr 0 1 0 0)) 2 (.ptr 1 1 0 0)) 9 (.ref 3 f.blocks.length 0 f.blocks.length)) 5 (Cu f.reach)) 7 (Cu (f.takenAt f.reach f.blocks.length))) 8 (.ref 4 (f.pathsTo k).length 0 (f.pathsTo k).length)) 10 (.fn (.func 150) [] [.ptr 2 1 0 0])) 34 (.int .i64 (f.blocks.length:Int))) 35 (.int .i64 (k:Int))),(hput (hput (hput (hput (hput (BM 5) 0 (.row false 2 [f.cells])) 1 (.row false 2 [[.int .i64 0,.nil]])) 2 (.row false 1 [[AZ f.tk]])) 3 (.row true 1 (BK (f.numsTo k)))) 4 (.row true 1 ((f.pathsTo k).map pathCell)))⟩) (fun k=>k<=f.blocks.length) (fun k=>f.blocks.length-k) 0 (Sub.mk' Ez (by repeat(first | exact HSub.none _ | exact AH _ | exact AF (by decide) | refine HSub.put ?_ (by first | rfl | exact congrArg (fun es=>some (AObj.row true 1 es)) (K0 _)) | refine AG ?_ (by decide) | refine Br ?_ (by decide)))) (Nat.zero_le _) (fun _=>Ah (Ah (Ah (Ah (Ah (fun b hb=>A9 hb) rfl) rfl) rfl) rfl) rfl) ?_
 intro k hk;refine wk 5 ?_;refine asp 36 (fun hb1=>?_) fun hb1=>?_
 .
  refine act ?_;have hkl:k<f.blocks.length:=by simpa using hb1
  obtain⟨rk,hrk⟩:=Ae (l:=f.reach) (k:=k) (by omega);obtain⟨tk,htk⟩:=Ae (l:=(f.takenAt f.reach f.blocks.length)) (k:=k) (by rw[Cj];omega);have hhd:=Q2 hrk htk;refine wk 12 ?_;refine aq 40 (Au Ag rfl rfl rfl rfl rfl rfl (Int.natCast_nonneg _) (AO (by assumption)) rfl) ?_;refine wk 2 ?_;refine EY 42 (fun hb2=>?_) fun hb2=>?_
  .
   refine wk 2 ?_;refine aq 45 (Au Ag rfl rfl rfl rfl rfl rfl (Int.natCast_nonneg _) (AO (by assumption)) rfl) ?_;refine wk 4 ?_;refine asp 48 (fun hb3=>?_) fun hb3=>?_
   .
    refine act ?_;have hhead:f.headOf k=true:=by rw[hhd];simp_all
    have hpl:=DV f k;refine wk 6 ?_;refine aq 53 (Ab Ag rfl rfl rfl rfl rfl rfl rfl (by rw[Bl,BX]) rfl (Int.natCast_nonneg _) (by omega)) ?_;refine AOps.w rfl rfl (o_store Ag rfl rfl rfl rfl rfl rfl (by rw[Bl,BX]) (OP (by rw[BX];omega)) rfl (by decide) rfl DG) ?_;refine wk 5 ?_;refine ax 57 (M2 (hc:=(hput hNew 2 (.row false 1 [[AZ f.tk]]))) (hw:=(hput hNone 2 (.row false 1 [[AZ f.tk]]))) [2] [(2,(.row false 1 [[AZ f.tk]]))] rfl rfl Tryz.func150 (by kernel_rfl) rfl rfl rfl ⟨⟨_,rfl,rfl⟩,trivial⟩ rfl (AJ rfl (BF _)) ⟨⟨_,rfl,rfl,rfl⟩,trivial⟩ rfl (ZD f.tk k (by omega) (by omega) hti (hf.ends k hhead))) ?_;refine ax 58 (Cp Ag rfl rfl rfl rfl rfl rfl (by decide) rfl rfl rfl rfl rfl rfl) ?_;refine ax 59 (o_append Ag (n:=(f.pathsTo k).length) (m:=1) rfl rfl rfl rfl rfl rfl rfl rfl rfl (by simp) rfl rfl (Nat.zero_lt_succ _) (.lst _ _) (by intro cs h;simp[partVals]at h;subst h;rfl) (fun _ cs h=>by simp[partVals]at h;subst h;rfl) rfl (by simp[partVals];show _*24<=_;omega) (by simp[partVals];simp only[maxLen];omega)) ?_
    refine wk 3 ?_;exact jP
   refine acf ?_;have hhead:f.headOf k=false:=by rw[hhd];simp_all
   refine wk 2 ?_;exact jP
  refine AOps.k 43 rfl rfl rfl ?_;refine AOps.k 44 rfl rfl rfl ?_;refine AOps.k 45 rfl rfl rfl ?_;refine AOps.k 46 rfl rfl rfl ?_;refine AOps.k 47 rfl rfl rfl ?_;refine wk 3 ?_;have hhead:f.headOf k=false:=by rw[hhd];simp_all
  refine wk 2 ?_;exact jP
 refine acf ?_;have hge:f.blocks.length<=k:=by simpa using hb1
 obtain rfl:k=f.blocks.length:=by omega
 refine wk 2 ?_;refine AGo.ghost (.freezeA 8 4 rfl rfl (by simp)) ?_;have hml:f.tpaths.length<=f.blocks.length:=DV f f.blocks.length;refine wk 5 ?_;refine dx 65 (AB Ag (n:=f.tpaths.length) (m:=f.tpaths.length) 5 true rfl rfl rfl (by simp[BFunc.tpaths]) (by simp[BFunc.tpaths]) rfl rfl rfl rfl rfl (Nat.zero_lt_succ _) rfl (Nat.le_refl _) (by show 56*f.tpaths.length<=_;have:=DV f f.blocks.length;have:f.tpaths.length<=f.blocks.length:=this;omega) (by have:=DV f f.blocks.length;have:f.tpaths.length<=f.blocks.length:=this;simp only[maxLen];omega)) ?_;refine wk 1 ?_;refine dx 12 (EU Ag 6) ?_;refine wk 10 ?_;refine Bi (γ:=Nat) 7 (fun k=>⟨119,(Aa (Aa (Aa (Aa (Aa (Aa (Aa (Aa Ba 1 (.ptr 0 1 0 0)) 2 (.ptr 1 1 0 0)) 9 (.ref 3 f.blocks.length 0 f.blocks.length)) 8 (A1 f.tpaths)) 12 (.ptr 6 1 0 0)) 67 (A1 f.tpaths)) 68 (.int .i64 (f.tpaths.length:Int))) 69 (.int .i64 (k:Int))),(hput (hput (hput (hput (hput (BM 7) 0 (.row false 2 [f.cells])) 1 (.row false 2 [[.int .i64 0,.nil]])) 3 (.row true 1 (BK f.nums))) 5 (.row true 5 (((f.tpaths.map f.newBlock).take k).map Block.cells++List.replicate (f.tpaths.length-k) [.nil,.int .i64 0,.int .i64 0,.int .i64 0,.int .i64 0]))) 6 (.row false 2 [[.int .i64 f.regs,.ref 5 f.tpaths.length 0 f.tpaths.length]]))⟩) (fun k=>k<=f.tpaths.length) (fun k=>f.tpaths.length-k) 0 (Sub.mk' (by repeat(first | exact ESub.new _ | refine ESub.put ?_ (by first | rfl | exact congrArg (fun(n:Nat)=>some (AV.int .i64 (n:Int))) (by simp[BFunc.tpaths])))) (by repeat(first | exact HSub.none _ | exact AH _ | exact AF (by decide) | refine HSub.put ?_ (by rfl) | refine AG ?_ (by decide) | refine Br ?_ (by decide)))) (Nat.zero_le _) (fun _=>Ah (Ah (Ah (Ah (Ah (fun b hb=>A9 hb) rfl) rfl) rfl) rfl) rfl) ?_
 intro k hk;refine wk 5 ?_;refine asp 70 (fun hb4=>?_) fun hb4=>?_
 .
  refine act ?_;have hkl:k<f.tpaths.length:=by simpa using hb4
  obtain⟨p,hp⟩:=Ae hkl;have hpm:=List.mem_of_getElem? hp;have hpin:=IH hle _ (Nat.le_refl _) p hpm;have hplen:0<p.length:=List.length_pos_iff.2 hpin.1;have hlast:=hpin.2 _ (IU hpin.1);have hbx:=Be hlast;have hnb:(f.tpaths.map f.newBlock)[k]?=some (f.newBlock p):=by simp[hp]
  refine wk 6 ?_;refine aq 72 (Au Ag rfl rfl rfl rfl rfl rfl (Int.natCast_nonneg _) (AO (by assumption)) rfl) ?_;refine wk 11 ?_;refine dq 79 (A2 (r:=.int .i64 ((p.length-1:Nat):Int)) rfl rfl rfl (by rw[List.length_map];exact OE hplen (by have:=Fz _ p hpm;omega))) ?_;refine dq 80 (Au Ag rfl rfl rfl rfl rfl rfl (Int.natCast_nonneg _) (cs:=[.int .i64 (AI p)]) (by show(List.map (fun b=>[AV.int .i64 b]) p)[_]?=_;rw[Int.toNat_natCast,List.getElem?_map,Uk hpin.1];rfl) rfl) ?_;refine wk 1 ?_;refine dq 82 (Au Ag rfl rfl rfl rfl rfl rfl hlast.1 (IV (Be hlast)) rfl) ?_;refine wk 1 ?_;refine dx 15 (EU Ag 7) ?_;refine wk 6 ?_;refine ax 86 (DX Tryz.func151 (Zt f p hf.ins hpin (by have:=Fz _ p hpm;omega))) ?_;refine wk 10 ?_;refine EY 91 (fun hb5=>?_) fun hb5=>?_
  .
   refine AOps.k 92 rfl rfl rfl ?_;refine AOps.k 93 rfl rfl rfl ?_;refine AOps.k 94 rfl rfl rfl ?_;refine wk 3 ?_;have hto:=IQ hle hbx (by simp_all);refine wk 4 ?_;refine aq 99 (Ab Ag rfl rfl rfl rfl rfl rfl rfl Yk rfl hto.1 (by omega)) ?_;refine aq 100 (At Ag rfl rfl rfl (.ptr _ _ _ _ _ _ _ _ rfl Yk (OP (by rw[show f.nums.length=f.blocks.length from BX f _];exact hto))) rfl) ?_;refine wk 10 ?_;refine asp 104 (fun hb6=>?_) fun hb6=>?_
   .
    exact jL
   refine wk 7 ?_;exact q9
  refine wk 5 ?_;refine asp 95 (fun hb7=>?_) fun hb7=>?_
  .
   refine act ?_;have hto:=IQ hle hbx (by simp_all);refine wk 4 ?_;refine aq 99 (Ab Ag rfl rfl rfl rfl rfl rfl rfl Yk rfl hto.1 (by omega)) ?_;refine aq 100 (At Ag rfl rfl rfl (.ptr _ _ _ _ _ _ _ _ rfl Yk (OP (by rw[show f.nums.length=f.blocks.length from BX f _];exact hto))) rfl) ?_;refine wk 10 ?_;refine asp 104 (fun hb8=>?_) fun hb8=>?_
   .
    exact jL
   refine wk 7 ?_;exact q9
  refine wk 9 ?_;refine asp 104 (fun hb9=>?_) fun hb9=>?_
  .
   exact jL
  refine wk 7 ?_;exact q9
 refine acf ?_;have hge:f.tpaths.length<=k:=by simpa using hb4
 refine wk 2 ?_;refine AGo.ghost (.freezeCell 6 0 1 5 rfl rfl rfl rfl (AE (by simp:(f.tpaths.map f.newBlock).length=f.tpaths.length) hk) (by decide)) ?_;refine wk 7 ?_;refine⟨[_,_],⟨⟨_,_,_,_,rfl,rfl,.ptr _ _ _ _ _ _ _ _ rfl rfl rfl,rfl⟩,rfl,trivial⟩,?_,rfl⟩;have e1:=CT (f:=Block.cells) (z:=[.nil,.int .i64 0,.int .i64 0,.int .i64 0,.int .i64 0]) (by simp:(f.tpaths.map f.newBlock).length=f.tpaths.length) hge;show AV.tup [.agg [_,.lst false _],_]=_;rw[e1];rfl
theorem Ri(op a b:Int)(hb:0<=b):APure Tryz.prog 103 [.int .i64 op,.int .u32 a,.int .u32 b] (fun r=>r=W1 (Fi op a b)):=by
 refine APure.of_body (n:=18) Ag Tryz.func103 rfl rfl ?_;refine wk 11 ?_;refine asp 9 (fun hb1=>?_) fun hb1=>?_
 .
  refine wk 7 ?_;refine⟨[_,_],⟨rfl,rfl,trivial⟩,?_,rfl⟩;show AV.tup _=AV.tup _;simp[Fi, *]
 refine acf ?_;have hb0: ¬b=0:=by simpa using hb1
 refine wk 7 ?_;refine asp 11 (fun hb2=>?_) fun hb2=>?_
 .
  refine wk 5 ?_;refine aq 14 (A2 (r:=.int .u32 (IntKind.u32.wrap (a.tdiv b))) rfl rfl rfl (by simp[AM,Bw,isShift,hb0])) ?_;refine wk 4 ?_;refine⟨[_,_],⟨rfl,rfl,trivial⟩,?_,rfl⟩;show AV.tup _=AV.tup _;simp[Fi, *]
 refine wk 6 ?_;refine aq 17 (A2 (r:=.int .u32 (a.tmod b)) rfl rfl rfl (by simp[AM,Bw,isShift,hb0])) ?_;refine wk 4 ?_;refine⟨[_,_],⟨rfl,rfl,trivial⟩,?_,rfl⟩;show AV.tup _=AV.tup _;simp[Fi, *]
theorem Tx(op a b:Int)(hb:0<=b):APure Tryz.prog 104 [.int .i64 op,.int .u32 a,.int .u32 b] (fun r=>r= .int .u32 (FI op a b)):=by
 refine APure.of_body (n:=19) Ag Tryz.func104 rfl rfl ?_;refine wk 12 ?_;refine asp 7 (fun hb1=>?_) fun hb1=>?_
 .
  refine wk 5 ?_;exact jD
 refine wk 7 ?_;refine asp 10 (fun hb2=>?_) fun hb2=>?_
 .
  refine wk 5 ?_;refine aq 15 (A2 (r:=.int .u32 (IntKind.u32.wrap (a*2^(min b.toNat IntKind.u32.bits)))) rfl rfl rfl (by simp only[AM,Bw,isShift,cond_true,if_neg (show ¬b<0 by omega)])) ?_;refine wk 2 ?_;exact jD
 refine wk 6 ?_;refine aq 18 (A2 (r:=.int .u32 (a.fdiv (2^(min b.toNat IntKind.u32.bits)))) rfl rfl rfl (by simp only[AM,Bw,isShift,cond_true,if_neg (show ¬b<0 by omega)])) ?_;refine wk 2 ?_;exact jD
theorem Pi(op a b:Int)(hb:0<=b):APure Tryz.prog 105 [.int .i64 op,.int .u32 a,.int .u32 b] (fun r=>r= .int .u32 (Hi op a b)):=by
 refine APure.of_body (n:=23) Ag Tryz.func105 rfl rfl ?_;refine wk 16 ?_;refine EY 10 (fun hb1=>?_) fun hb1=>?_
 .
  refine wk 6 ?_;refine asp 7 (fun hb2=>?_) fun hb2=>?_
  .
   refine wk 7 ?_;exact Vs
  refine wk 7 ?_;refine EY 18 (fun hb3=>?_) fun hb3=>?_
  .
   refine wk 6 ?_;refine asp 15 (fun hb4=>?_) fun hb4=>?_
   .
    refine wk 7 ?_;exact Vs
   refine wk 7 ?_;exact Vs
  refine wk 13 ?_;exact Vs
 refine wk 13 ?_;refine EY 18 (fun hb5=>?_) fun hb5=>?_
 .
  refine wk 6 ?_;refine asp 15 (fun hb6=>?_) fun hb6=>?_
  .
   refine wk 7 ?_;exact Vs
  refine wk 7 ?_;exact Vs
 refine wk 13 ?_;exact Vs
theorem fg(op a b:Int)(hb:0<=b):APure Tryz.prog 96 [.int .i64 op,.int .u32 a,.int .u32 b] (fun r=>r=W1 (B5 op a b)):=by
 refine APure.of_body (n:=62) Ag Tryz.func96 rfl rfl ?_;refine wk 16 ?_;refine asp 9 (fun hb1=>?_) fun hb1=>?_
 .
  refine wk 10 ?_;exact Ks
 refine wk 6 ?_;refine asp 14 (fun hb2=>?_) fun hb2=>?_
 .
  refine wk 10 ?_;exact Ks
 refine wk 6 ?_;refine asp 19 (fun hb3=>?_) fun hb3=>?_
 .
  refine wk 10 ?_;exact Ks
 refine wk 7 ?_;refine asp 24 (fun hb4=>?_) fun hb4=>?_
 .
  refine wk 8 ?_;refine ax 30 (DX Tryz.func103 (Ri _ _ _ hb)) ?_;refine wk 6 ?_;exact Ks
 refine wk 5 ?_;refine asp 24 (fun hb5=>?_) fun hb5=>?_
 .
  refine wk 6 ?_;refine ax 30 (DX Tryz.func103 (Ri _ _ _ hb)) ?_;refine wk 6 ?_;exact Ks
 refine wk 6 ?_;refine asp 33 (fun hb6=>?_) fun hb6=>?_
 .
  refine wk 10 ?_;exact Ks
 refine wk 6 ?_;refine asp 38 (fun hb7=>?_) fun hb7=>?_
 .
  refine wk 10 ?_;exact Ks
 refine wk 6 ?_;refine asp 43 (fun hb8=>?_) fun hb8=>?_
 .
  refine wk 10 ?_;exact Ks
 refine wk 7 ?_;refine asp 48 (fun hb9=>?_) fun hb9=>?_
 .
  refine wk 8 ?_;refine ax 54 (DX Tryz.func104 (Tx _ _ _ hb)) ?_;refine wk 4 ?_;exact Ks
 refine wk 5 ?_;refine asp 48 (fun hb10=>?_) fun hb10=>?_
 .
  refine wk 6 ?_;refine ax 54 (DX Tryz.func104 (Tx _ _ _ hb)) ?_;refine wk 4 ?_;exact Ks
 refine wk 7 ?_;refine asp 55 (fun hb11=>?_) fun hb11=>?_
 .
  refine wk 8 ?_;refine ax 61 (DX Tryz.func105 (Pi _ _ _ hb)) ?_;refine wk 4 ?_;exact Ks
 refine wk 5 ?_;refine asp 55 (fun hb12=>?_) fun hb12=>?_
 .
  refine wk 6 ?_;refine ax 61 (DX Tryz.func105 (Pi _ _ _ hb)) ?_;refine wk 4 ?_;exact Ks
 refine wk 8 ?_;exact Ks
theorem ZB(t:Tac)(K:CH)(hK:Lk K):ACall Tryz.prog 76 [.agg t.cells,.map 0] (hput hNew 0 (.map (kvs .i64 (nm K)))) (fun r h'=>r= .tup [.int .u32 (DL t K).1,.bool (DL t K).2]/\HSub (hput hNone 0 (.map (kvs .i64 (nm K)))) h'):=by
 refine ACall.of_body (n:=60) Ag Tryz.func76 rfl rfl ?_;refine Nk ?_;refine ax 2 (GW 8 1) ?_;refine wk 15 ?_;refine asp 16 (fun hb1=>?_) fun hb1=>?_
 .
  refine wk 6 ?_;refine aq 22 (LG Ag rfl rfl rfl rfl rfl rfl rfl rfl (by kernel_rfl)) ?_;refine wk 14 ?_;exact aL
 refine wk 6 ?_;refine asp 27 (fun hb2=>?_) fun hb2=>?_
 .
  refine wk 6 ?_;refine aq 33 (LG Ag rfl rfl rfl rfl rfl rfl rfl rfl (by kernel_rfl)) ?_;refine wk 11 ?_;refine aq 40 (LG Ag rfl rfl rfl rfl rfl rfl rfl rfl (by kernel_rfl)) ?_;refine wk 12 ?_;refine EY 45 (fun hb3=>?_) fun hb3=>?_
  .
   refine AOps.k 46 rfl rfl rfl ?_;refine AOps.k 47 rfl rfl rfl ?_;refine wk 9 ?_;exact aL
  refine wk 4 ?_;refine asp 48 (fun hb4=>?_) fun hb4=>?_
  .
   refine wk 7 ?_;exact aL
  refine wk 8 ?_;refine ax 54 (DX Tryz.func96 (fg _ _ _ (Se hK _).1)) ?_;refine wk 15 ?_;exact aL
 refine wk 8 ?_;exact aL
theorem ZE(l:List Tac)(hl:In l)(hn:l.length<=100000):APure Tryz.prog 56 [Eh l] (fun r=>r=Eh (C2 [] l)):=by
 refine APure.of_body (n:=51) Ag Tryz.func56 rfl rfl ?_;refine wk 6 ?_;refine ax 10 (Jy .i64 0 rfl rfl) ?_;refine wk 6 ?_;refine ax 13 (AB Ag (n:=l.length) (m:=l.length) 1 true rfl rfl rfl (by simp) (by simp) rfl rfl rfl rfl rfl (Nat.zero_lt_succ _) rfl (Nat.le_refl _) (by show 64*l.length<=_;omega) (by simp only[maxLen];omega)) ?_;refine wk 10 ?_;refine Bi (γ:=Nat) 2 (fun k=>⟨51,(Aa (Aa (Aa (Aa (Aa Ba 3 (.map 0)) 4 (.ref 1 l.length 0 l.length)) 14 (Eh l)) 15 (.int .i64 (l.length:Int))) 16 (.int .i64 (k:Int))),(hput (hput (BM 2) 0 (.map (kvs .i64 (nm (fknow l k))))) 1 (.row true 8 (((C2 [] l).take (k)).map Tac.cells++List.replicate (l.length-(k)) [.int .i64 0,.int .i64 0,.int .i64 0,.int .i64 0,.int .i64 0,.int .i64 0,.int .i64 0,.int .u32 0])))⟩) (fun k=>k<=l.length) (fun k=>l.length-k) 0 (Sub.mk' Ez (by repeat(first | exact HSub.none _ | exact AH _ | exact AF (by decide) | refine HSub.put ?_ (by first | rfl |(simp;rfl)) | refine AG ?_ (by decide)))) (Nat.zero_le _) (fun _=>Ah (Ah (fun b hb=>A9 hb) rfl) rfl) ?_
 intro k hk;refine wk 5 ?_;refine asp 17 (fun hb1=>?_) fun hb1=>?_
 .
  refine act ?_;have hkl:k<l.length:=by simpa using hb1
  obtain⟨x,hx⟩:=Ae hkl;refine wk 6 ?_;refine aq 19 (Au Ag rfl rfl rfl rfl rfl rfl (Int.natCast_nonneg _) (AO (by assumption)) rfl) ?_;refine wk 1 ?_;refine ax 6 (EU Ag 2) ?_;refine wk 8 ?_;refine ax 24 (Wj (ZB x (fknow l k) (XX hl k)) [0] [] rfl Tryz.func76 (by kernel_rfl) rfl rfl rfl ⟨⟨_,rfl,rfl⟩,trivial⟩ rfl (AJ rfl (BF _)) ⟨⟨_,rfl,rfl,rfl⟩,trivial⟩ rfl) ?_;refine wk 6 ?_;refine AGo.join (γ:=Tac) (fun u=>⟨51,(Aa (Aa (Aa (Aa (Aa (Aa (Aa Ba 3 (.map 0)) 4 (.ref 1 l.length 0 l.length)) 14 (Eh l)) 15 (.int .i64 (l.length:Int))) 16 (.int .i64 (k:Int))) 5 (.int .i64 (k:Int))) 6 (.ptr 2 1 0 0)),(hput (hput (hput (BM 3) 0 (.map (kvs .i64 (nm (fknow l k))))) 1 (.row true 8 (((C2 [] l).take (k)).map Tac.cells++List.replicate (l.length-(k)) [.int .i64 0,.int .i64 0,.int .i64 0,.int .i64 0,.int .i64 0,.int .i64 0,.int .i64 0,.int .u32 0]))) 2 (.row false 8 [u.cells]))⟩) (fun u=>u=CZ (fknow l k) x) ?_ ?_
  .
   refine wk 4 ?_;refine asp 27 (fun hb2=>?_) fun hb2=>?_
   .
    refine wk 8 ?_;exact⟨(KY x.d (DL x (fknow l k)).1),Sub.mk' Ci Ru,(by simp[CZ, *])⟩
   refine wk 2 ?_;exact⟨x,Sub.mk' Ci Ru,(by simp[CZ, *])⟩
  intro u hu;refine wk 5 ?_;refine aq 35 (Ab Ag rfl rfl rfl rfl rfl rfl rfl (AE (BQ l []) (Nat.le_of_lt hkl)) rfl (Int.natCast_nonneg _) (by omega)) ?_;refine AOps.w rfl rfl (o_store Ag rfl rfl rfl rfl rfl rfl (AE (BQ l []) (Nat.le_of_lt hkl)) (fill_get (BQ l []) hkl) rfl (by decide) rfl DG) ?_;refine wk 4 ?_;refine ax 37 (DX Tryz.func77 (Li _)) ?_;refine wk 8 ?_;refine asp 39 (fun hb3=>?_) fun hb3=>?_
  .
   refine wk 3 ?_;exact jN
  refine wk 8 ?_;refine asp 42 (fun hb4=>?_) fun hb4=>?_
  .
   refine wk 6 ?_;refine AOps.w rfl rfl (Sh Ag rfl rfl rfl rfl rfl rfl rfl rfl rfl rfl) ?_;refine wk 2 ?_;exact jN
  refine wk 4 ?_;refine AOps.w rfl rfl (o_deleteW Ag rfl rfl rfl rfl rfl rfl rfl rfl rfl) ?_;refine wk 2 ?_;exact jN
 refine acf ?_;have hge:l.length<=k:=by simpa using hb1
 refine wk 6 ?_;refine AGo.ghost (.freeze 2 1 rfl rfl (AE (BQ l []) hk)) ?_;refine GN ⟨[_],⟨rfl,trivial⟩,?_,rfl⟩;show AV.lst false _=AV.lst false _;rw[CT (BQ l []) hge]
theorem ZG(f:BFunc)(hf:f.mild):APure Tryz.prog 41 [.agg f.cells] (fun r=>r= .tup [.agg f.fold.cells,.agg f.all.cells]):=by
 refine APure.of_body (n:=59) Ag Tryz.func41 rfl rfl ?_;refine Nk ?_;refine ax 1 (GW 2 0) ?_;refine ax 2 (EU Ag 1) ?_;refine ax 3 (EU Ag 2) ?_;refine wk 8 ?_;refine dx 15 (AB Ag (n:=f.blocks.length) (m:=f.blocks.length) 3 true rfl rfl rfl (by simp) (by simp) rfl rfl rfl rfl rfl (Nat.zero_lt_succ _) rfl (Nat.le_refl _) (by show 56*f.blocks.length<=_;have:=hf.2.2.1;omega) (by simp only[maxLen];have:=hf.2.2.1;omega)) ?_;refine wk 1 ?_;refine dx 4 (EU Ag 4) ?_;refine wk 7 ?_;refine ax 20 (AB Ag (n:=f.blocks.length) (m:=f.blocks.length) 5 true rfl rfl rfl (by simp) (by simp) rfl rfl rfl rfl rfl (Nat.zero_lt_succ _) rfl (Nat.le_refl _) (by show 24*f.blocks.length<=_;have:=hf.2.2.1;omega) (by simp only[maxLen];have:=hf.2.2.1;omega)) ?_;refine wk 1 ?_;refine ax 5 (EU Ag 6) ?_;refine wk 11 ?_;refine Bi (γ:=Nat) 7 (fun k=>⟨59,(Aa (Aa (Aa (Aa (Aa (Aa (Aa (Aa Ba 1 (.ptr 0 1 0 0)) 2 (.ptr 1 1 0 0)) 3 (.ptr 2 1 0 0)) 4 (.ptr 4 1 0 0)) 5 (.ptr 6 1 0 0)) 23 (B8 f.blocks)) 24 (.int .i64 (f.blocks.length:Int))) 25 (.int .i64 (k:Int))),(hput (hput (hput (hput (hput (hput (hput (BM 7) 0 (.row false 2 [f.cells])) 1 (.row false 2 [[.int .i64 0,.nil]])) 2 (.row false 1 [[.nil]])) 4 (.row false 2 [[.int .i64 f.regs,.ref 3 f.blocks.length 0 f.blocks.length]])) 6 (.row false 1 [[.ref 5 f.blocks.length 0 f.blocks.length]])) 3 (.row true 5 ((((f.blocks.map Block.fold).take (k)).map Block.cells)++List.replicate (f.blocks.length-(k)) [.nil,.int .i64 0,.int .i64 0,.int .i64 0,.int .i64 0]))) 5 (.row true 1 ((((List.replicate f.blocks.length (List.replicate f.regs.toNat true)).take (k)).map C0)++List.replicate (f.blocks.length-(k)) [.nil])))⟩) (fun k=>k<=f.blocks.length) (fun k=>f.blocks.length-k) 0 (Sub.mk' Ez Ru) (Nat.zero_le _) (fun _=>Ah (Ah (Ah (Ah (Ah (Ah (Ah (fun b hb=>A9 hb) rfl) rfl) rfl) rfl) rfl) rfl) rfl) ?_
 intro k hk;refine wk 5 ?_;refine asp 26 (fun hb1=>?_) fun hb1=>?_
 .
  refine act ?_;have hkl:k<f.blocks.length:=by simpa using hb1
  obtain⟨x,hx⟩:=Ae hkl;refine wk 6 ?_;refine aq 28 (Au Ag rfl rfl rfl rfl rfl rfl (Int.natCast_nonneg _) (AO (by assumption)) rfl) ?_;refine wk 1 ?_;refine ax 7 (EU Ag 7) ?_;refine wk 7 ?_;refine ax 32 (DX Tryz.func56 (ZE _ (hf.2.2.2 x (List.mem_of_getElem? hx)).2 (hf.2.2.2 x (List.mem_of_getElem? hx)).1)) ?_;refine wk 9 ?_;refine aq 38 (Ab Ag rfl rfl rfl rfl rfl rfl rfl (AE (by simp:(f.blocks.map Block.fold).length=f.blocks.length) (Nat.le_of_lt hkl)) rfl (Int.natCast_nonneg _) (by omega)) ?_;refine AOps.w rfl rfl (o_store Ag rfl rfl rfl rfl rfl rfl (AE (by simp:(f.blocks.map Block.fold).length=f.blocks.length) (Nat.le_of_lt hkl)) (fill_get (by simp:(f.blocks.map Block.fold).length=f.blocks.length) hkl) rfl (by decide) rfl DG) ?_;refine wk 5 ?_;refine ax 41 (AB Ag (n:=f.regs.toNat) (m:=f.regs.toNat) 8 true rfl rfl rfl (by have:=hf.1;omega) (by have:=hf.1;omega) rfl rfl rfl rfl rfl (Nat.zero_lt_succ _) rfl (Nat.le_refl _) (by show 1*f.regs.toNat<=_;have:=hf.2.1;omega) (by simp only[maxLen];have:=hf.2.1;omega)) ?_
  refine wk 10 ?_;refine Bi (γ:=Nat) 9 (fun j=>⟨59,(Aa (Aa (Aa (Aa (Aa (Aa (Aa (Aa (Aa (Aa (Aa (Aa Ba 1 (.ptr 0 1 0 0)) 2 (.ptr 1 1 0 0)) 3 (.ptr 2 1 0 0)) 4 (.ptr 4 1 0 0)) 5 (.ptr 6 1 0 0)) 23 (B8 f.blocks)) 24 (.int .i64 (f.blocks.length:Int))) 25 (.int .i64 (k:Int))) 6 (.int .i64 (k:Int))) 8 (.ref 8 f.regs.toNat 0 f.regs.toNat)) 43 (.int .i64 (f.regs.toNat:Int))) 44 (.int .i64 (j:Int))),(hput (hput (hput (hput (hput (hput (hput (hput (BM 9) 0 (.row false 2 [f.cells])) 1 (.row false 2 [[.int .i64 0,.nil]])) 2 (.row false 1 [[.nil]])) 4 (.row false 2 [[.int .i64 f.regs,.ref 3 f.blocks.length 0 f.blocks.length]])) 6 (.row false 1 [[.ref 5 f.blocks.length 0 f.blocks.length]])) 3 (.row true 5 (((f.blocks.map Block.fold).take (k+1)).map Block.cells++List.replicate (f.blocks.length-(k+1)) [.nil,.int .i64 0,.int .i64 0,.int .i64 0,.int .i64 0]))) 5 (.row true 1 ((((List.replicate f.blocks.length (List.replicate f.regs.toNat true)).take (k)).map C0)++List.replicate (f.blocks.length-(k)) [.nil]))) 8 (.row true 1 ((((List.replicate f.regs.toNat true).take (j)).map A5)++List.replicate (f.regs.toNat-(j)) [.bool false])))⟩) (fun j=>j<=f.regs.toNat) (fun j=>f.regs.toNat-j) 0 (Sub.mk' Ci (by repeat(first | exact HSub.none _ | exact AH _ | exact AF (by decide) | refine HSub.put ?_ (by first | rfl | exact congrArg (fun es=>some (AObj.row true 5 es)) (BU (f:=Block.cells) (x:=x.fold) (by simp:(f.blocks.map Block.fold).length=f.blocks.length) (by simp[hx]))) | refine AG ?_ (by decide)))) (Nat.zero_le _) (fun _=>Ah (Ah (Ah (Ah (Ah (Ah (Ah (Ah (fun b hb=>A9 hb) rfl) rfl) rfl) rfl) rfl) rfl) rfl) rfl) ?_
  intro j hj;refine wk 5 ?_;refine asp 45 (fun hb2=>?_) fun hb2=>?_
  .
   refine act ?_;have hjl:j<f.regs.toNat:=by have h:=hb2;simp at h;omega
   refine wk 11 ?_;refine aq 49 (Ab Ag rfl rfl rfl rfl rfl rfl rfl (AE (by simp:(List.replicate f.regs.toNat true).length=f.regs.toNat) (Nat.le_of_lt hjl)) rfl (Int.natCast_nonneg _) (by omega)) ?_;refine AOps.w rfl rfl (o_store Ag rfl rfl rfl rfl rfl rfl (AE (by simp:(List.replicate f.regs.toNat true).length=f.regs.toNat) (Nat.le_of_lt hjl)) (fill_get (by simp:(List.replicate f.regs.toNat true).length=f.regs.toNat) hjl) rfl (by decide) rfl DG) ?_;refine wk 2 ?_;refine aq 50 (Bk rfl rfl hjl (by simp only[maxLen];have:=hf.2.1;omega)) ?_;refine wk 2 ?_;exact mn
  refine acf ?_;have hge2:f.regs.toNat<=j:=by have h:=hb2;simp at h;omega
  refine wk 1 ?_;refine AGo.ghost (.freeze 8 8 rfl rfl (AE (by simp:(List.replicate f.regs.toNat true).length=f.regs.toNat) hj)) ?_;refine wk 5 ?_;refine aq 55 (Ab Ag rfl rfl rfl rfl rfl rfl rfl (AE (by simp:(List.replicate f.blocks.length (List.replicate f.regs.toNat true)).length=f.blocks.length) (Nat.le_of_lt hkl)) rfl (Int.natCast_nonneg _) (by omega)) ?_;refine AOps.w rfl rfl (o_store Ag rfl rfl rfl rfl rfl rfl (AE (by simp:(List.replicate f.blocks.length (List.replicate f.regs.toNat true)).length=f.blocks.length) (Nat.le_of_lt hkl)) (fill_get (by simp:(List.replicate f.blocks.length (List.replicate f.regs.toNat true)).length=f.blocks.length) hkl) rfl (by decide) rfl DG) ?_;refine wk 2 ?_;refine aq 56 (Bk rfl rfl hkl (by simp only[maxLen];have:=hf.2.2.1;omega)) ?_;refine wk 2 ?_;exact⟨k+1,Drop.mk' Rs (by repeat(first | exact HDrop.none _ _ | exact HDrop.tail _ _ | refine HDrop.put ?_ (by first | rfl | exact congrArg (fun es=>some (AObj.row true 5 es)) (BU (f:=Block.cells) (x:=x.fold) (by simp:(f.blocks.map Block.fold).length=f.blocks.length) (by simp[hx])) | exact congrArg (fun es=>some (AObj.row true 1 es)) (by rw[<-BU (f:=C0) (x:=List.replicate f.regs.toNat true) (by simp:(List.replicate f.blocks.length (List.replicate f.regs.toNat true)).length=f.blocks.length) (by simp[hkl])];exact congrArg (fun b=>List.set _ _ [AV.lst false b]) (CT (f:=A5) (by simp:(List.replicate f.regs.toNat true).length=f.regs.toNat) hge2))) rfl rfl)),hkl,by omega⟩
 refine acf ?_;have hge:f.blocks.length<=k:=by simpa using hb1
 refine wk 2 ?_;refine AGo.ghost (.freezeCell 4 0 1 3 rfl rfl rfl rfl (AE (by simp:(f.blocks.map Block.fold).length=f.blocks.length) hk) (by decide)) ?_;refine AGo.ghost (.freezeCell 6 0 0 5 rfl rfl rfl rfl (AE (by simp:(List.replicate f.blocks.length (List.replicate f.regs.toNat true)).length=f.blocks.length) hk) (by decide)) ?_;refine wk 7 ?_;refine⟨[_,_],⟨⟨_,_,_,_,rfl,rfl,.ptr _ _ _ _ _ _ _ _ rfl rfl rfl,rfl⟩,⟨_,_,_,_,rfl,rfl,.ptr _ _ _ _ _ _ _ _ rfl rfl rfl,rfl⟩,trivial⟩,?_,rfl⟩;have e1:=CT (f:=Block.cells) (z:=[.nil,.int .i64 0,.int .i64 0,.int .i64 0,.int .i64 0]) (by simp:(f.blocks.map Block.fold).length=f.blocks.length) hge;exact l0
theorem cF(b:Blocks)(ks:List Int)(G:BFunc->Int->OPass)(I:BFunc->Prop)(hL:b.Lim)(hks:ks.length<=20)(hv: ∀k∈ks,kind35 k=true)(hI0: ∀f∈b.funcs,I f)(hS: ∀f,I f->∀k∈ks,I (G f k).f/\APure Tryz.prog 21 [.agg f.cells,.int .i64 k] (fun r=>r= .tup [.agg (G f k).f.cells,.agg (G f k).cells,.int .i64 0])):APure Tryz.prog 15 [.agg b.cells,AZ ks] (fun r=>r= .tup [.agg (⟨b.words,b.funcs.map (Lo G ks)⟩:Blocks).cells,Wo (b.funcs.map (FN G ks)),.int .i64 0]):=by
 refine APure.of_body (n:=90) Ag Tryz.func15 rfl rfl ?_;refine Nk ?_;refine ax 2 (GW 2 0) ?_;refine ax 4 (EU Ag 1) ?_;refine wk 10 ?_;refine asp 19 (fun hb1=>?_) fun hb1=>?_
 .
  refine wk 9 ?_;exfalso;simp_all;omega
 refine wk 10 ?_;refine Bi (γ:=Nat) 2 (fun k=>⟨90,(Aa (Aa (Aa (Aa (Aa (Aa (Aa (Aa Ba 1 (AZ ks)) 2 (.ptr 0 1 0 0)) 4 (.ptr 1 1 0 0)) 5 .nil) 6 (.int .i64 0)) 21 (AZ ks)) 22 (.int .i64 (ks.length:Int))) 23 (.int .i64 (k:Int))),(hput (hput (BM 2) 0 (.row false 2 [b.cells])) 1 (.row false 2 [[.int .i64 0,.nil]]))⟩) (fun k=>True) (fun k=>ks.length-k) 0 (Sub.mk' Ez FF) trivial (fun _=>Ah (Ah (fun b hb=>A9 hb) rfl) rfl) ?_;intro k _;refine wk 5 ?_;refine asp 24 (fun hb2=>?_) fun hb2=>?_
 .
  refine act ?_;have hkl:k<ks.length:=by have h:=hb2;simp at h;omega
  obtain⟨q,hq⟩:=Ae hkl;refine wk 5 ?_;refine aq 25 (MT Ag (AO hq)) ?_;refine wk 6 ?_;refine ax 29 (DX Tryz.func31 (XY _)) ?_;refine wk 11 ?_;refine asp 33 (fun hb3=>?_) fun hb3=>?_
  .
   refine wk 9 ?_;exfalso;have h:=hv q (List.mem_of_getElem? hq);simp_all
  refine wk 3 ?_;refine aq 35 (Bk rfl rfl hkl (by simp only[maxLen];omega)) ?_;refine wk 2 ?_;exact⟨k+1,Drop.mk' Td Rw,trivial,by omega⟩
 refine acf ?_
 skip
 refine wk 8 ?_;refine dx 41 (AB Ag (n:=b.funcs.length) (m:=b.funcs.length) 2 true rfl rfl rfl (by simp) (by simp) rfl rfl rfl rfl rfl (Nat.zero_lt_succ _) rfl (Nat.le_refl _) (by show 32*b.funcs.length<=_;have:=hL.n;omega) (by simp only[maxLen];have:=hL.n;omega)) ?_;refine wk 1 ?_;refine dx 11 (EU Ag 3) ?_;refine wk 7 ?_;refine ax 46 (AB Ag (n:=b.funcs.length) (m:=b.funcs.length) 4 false rfl rfl rfl (by simp) (by simp) rfl rfl rfl rfl rfl (Nat.zero_lt_succ _) rfl (Nat.le_refl _) (by show 24*b.funcs.length<=_;have:=hL.n;omega) (by simp only[maxLen];have:=hL.n;omega)) ?_;refine wk 11 ?_;refine Bi (γ:=Nat) 5 (fun k=>⟨90,(Aa (Aa (Aa (Aa (Aa (Aa (Aa (Aa Ba 1 (AZ ks)) 2 (.ptr 0 1 0 0)) 4 (.ptr 1 1 0 0)) 11 (.ptr 3 1 0 0)) 12 (.ref 4 b.funcs.length 0 b.funcs.length)) 48 (F7 b.funcs)) 49 (.int .i64 (b.funcs.length:Int))) 50 (.int .i64 (k:Int))),(hput (hput (hput (hput (hput (BM 5) 0 (.row false 2 [b.cells])) 1 (.row false 2 [[.int .i64 0,.nil]])) 2 (.row true 2 ((((b.funcs.map (Lo G ks)).take (k)).map BFunc.cells)++List.replicate (b.funcs.length-(k)) [AV.int .i64 0,AV.nil]))) 3 (.row false 2 [[.int .i64 b.words,.ref 2 b.funcs.length 0 b.funcs.length]])) 4 (.row false 1 ((((b.funcs.map (FN G ks)).take (k)).map (fun x=>[C8 x]))++List.replicate (b.funcs.length-(k)) [AV.nil])))⟩) (fun k=>k<=b.funcs.length) (fun k=>b.funcs.length-k) 0 (Sub.mk' Ez FF) (Nat.zero_le _) (fun _=>Ah (Ah (Ah (Ah (Ah (fun b hb=>A9 hb) rfl) rfl) rfl) rfl) rfl) ?_
 intro k hk;refine wk 5 ?_;refine asp 51 (fun hb4=>?_) fun hb4=>?_
 .
  refine act ?_;have hkl:k<b.funcs.length:=by have h:=hb4;simp at h;omega
  obtain⟨f,hf⟩:=Ae hkl;have hfI:=hI0 f (List.mem_of_getElem? hf);refine wk 6 ?_;refine aq 53 (MT Ag (AO hf)) ?_;refine wk 1 ?_;refine ax 14 (EU Ag 5) ?_;refine wk 9 ?_;refine ax 59 (AB Ag (n:=ks.length) (m:=ks.length) 6 true rfl rfl rfl (by simp) (by simp) rfl rfl rfl rfl rfl (Nat.zero_lt_succ _) rfl (Nat.le_refl _) (by show 88*ks.length<=_;omega) (by simp only[maxLen];omega)) ?_;refine aq 60 (Ab Ag rfl rfl rfl rfl rfl rfl rfl (AE (by simp:(b.funcs.map (FN G ks)).length=b.funcs.length) (Nat.le_of_lt hkl)) rfl (Int.natCast_nonneg _) (by omega)) ?_;refine AOps.w rfl rfl (o_store Ag rfl rfl rfl rfl rfl rfl (AE (by simp:(b.funcs.map (FN G ks)).length=b.funcs.length) (Nat.le_of_lt hkl)) (fill_get (by simp:(b.funcs.map (FN G ks)).length=b.funcs.length) hkl) rfl (by decide) rfl DG) ?_;refine wk 9 ?_;refine Bi (γ:=Nat) 7 (fun j=>⟨90,(Aa (Aa (Aa (Aa (Aa (Aa (Aa (Aa (Aa (Aa (Aa (Aa (Aa Ba 1 (AZ ks)) 2 (.ptr 0 1 0 0)) 4 (.ptr 1 1 0 0)) 11 (.ptr 3 1 0 0)) 12 (.ref 4 b.funcs.length 0 b.funcs.length)) 48 (F7 b.funcs)) 49 (.int .i64 (b.funcs.length:Int))) 50 (.int .i64 (k:Int))) 13 (.int .i64 (k:Int))) 14 (.ptr 5 1 0 0)) 61 (AZ ks)) 62 (.int .i64 (ks.length:Int))) 63 (.int .i64 (j:Int))),(hput (hput (hput (hput (hput (hput (hput (BM 7) 0 (.row false 2 [b.cells])) 1 (.row false 2 [[.int .i64 0,.nil]])) 2 (.row true 2 ((((b.funcs.map (Lo G ks)).take (k)).map BFunc.cells)++List.replicate (b.funcs.length-(k)) [AV.int .i64 0,AV.nil]))) 3 (.row false 2 [[.int .i64 b.words,.ref 2 b.funcs.length 0 b.funcs.length]])) 4 (.row false 1 (((((b.funcs.map (FN G ks)).take (k)).map (fun x=>[C8 x]))++List.replicate (b.funcs.length-(k)) [AV.nil]).set (0+((k:Nat):Int).toNat) [AV.ref 6 ks.length 0 ks.length]))) 5 (.row false 2 [(Lo G (ks.take j) f).cells])) 6 (.row true 5 ((((FN G ks f).take j).map OPass.cells)++List.replicate (ks.length-j) [AV.int .i64 0,AV.nil,AV.nil,AV.int .i64 0,AV.nil])))⟩) (fun j=>j<=ks.length/\I (Lo G (ks.take j) f)) (fun j=>ks.length-j) 0 (Sub.mk' Ez FF) ⟨Nat.zero_le _,hfI⟩ (fun _=>Ah (Ah (Ah (Ah (Ah (Ah (Ah (fun b hb=>A9 hb) rfl) rfl) rfl) rfl) rfl) rfl) rfl) ?_
  intro j hJ;refine wk 5 ?_;refine asp 64 (fun hb5=>?_) fun hb5=>?_
  .
   refine act ?_;have hjl:j<ks.length:=by have h:=hb5;simp at h;omega
   obtain⟨q,hq⟩:=Ae hjl;have hqs:=hS _ hJ.2 q (List.mem_of_getElem? hq);refine wk 6 ?_;refine aq 66 (MT Ag (AO hq)) ?_;refine wk 7 ?_;refine dq 71 (Ab Ag rfl rfl rfl rfl rfl rfl rfl (K6 (by simp:(b.funcs.map (FN G ks)).length=b.funcs.length) (Nat.le_of_lt hkl)) rfl (Int.natCast_nonneg _) (by omega)) ?_;refine dq 72 (At Ag rfl rfl rfl (.ptr _ _ _ _ _ _ _ _ rfl (K6 (by simp:(b.funcs.map (FN G ks)).length=b.funcs.length) (Nat.le_of_lt hkl)) (K7 (by simp:(b.funcs.map (FN G ks)).length=b.funcs.length) hkl)) rfl) ?_;refine wk 3 ?_;refine dx 76 (DX Tryz.func21 ((hS _ hJ.2 q (List.mem_of_getElem? hq)).2)) ?_;refine wk 5 ?_;refine dq 80 (Ab Ag rfl rfl rfl rfl rfl rfl rfl (AE (Gt G ks f) (Nat.le_of_lt hjl)) rfl (Int.natCast_nonneg _) (by omega)) ?_;refine DOps.w rfl rfl (o_store Ag rfl rfl rfl rfl rfl rfl (AE (Gt G ks f) (Nat.le_of_lt hjl)) (fill_get (Gt G ks f) hjl) rfl (by decide) rfl DG) ?_
   refine wk 2 ?_;refine aq 81 (Bk rfl rfl hjl (by simp only[maxLen];omega)) ?_;refine wk 2 ?_;exact⟨j+1,Drop.mk' Td (by repeat(first | exact HDrop.none _ _ | exact HDrop.tail _ _ | refine HDrop.put ?_ (by first | rfl | exact congrArg (fun x=>some (AObj.row false 2 [BFunc.cells x])) (O4 hq).symm | exact congrArg (fun es=>some (AObj.row true 5 es)) (BU (f:=OPass.cells) (x:=G (Lo G (ks.take j) f) q) (Gt G ks f) (TZ hq))) rfl (by first | rfl | exact Ka | exact Mu rfl))),⟨hjl,by rw[O4 hq];exact hqs.1⟩,by omega⟩
  refine acf ?_;have hge2:ks.length<=j:=by have h:=hb5;simp at h;omega
  refine wk 1 ?_;refine AGo.ghost (.freezeCell 4 (0+((k:Nat):Int).toNat) 0 6 rfl (K7 (by simp:(b.funcs.map (FN G ks)).length=b.funcs.length) hkl) rfl rfl (AE (Gt G ks f) hJ.1) (by decide)) ?_;have hrow:(((((b.funcs.map (FN G ks)).take (k)).map (fun x=>[C8 x]))++List.replicate (b.funcs.length-(k)) [AV.nil]).set (0+((k:Nat):Int).toNat) [AV.ref 6 ks.length 0 ks.length]).set (0+((k:Nat):Int).toNat) ([AV.ref 6 ks.length 0 ks.length].set 0 (.lst false ((((((FN G ks f).take j).map OPass.cells)++List.replicate (ks.length-j) [AV.int .i64 0,AV.nil,AV.nil,AV.int .i64 0,AV.nil]).drop 0).take ks.length)))=((((b.funcs.map (FN G ks)).take (k+1)).map (fun x=>[C8 x]))++List.replicate (b.funcs.length-(k+1)) [AV.nil]):=by
   rw[VX,CT (Gt G ks f) hge2];exact BU (f:=fun x=>[C8 x]) (x:=FN G ks f) (by simp:(b.funcs.map (FN G ks)).length=b.funcs.length) (by rw[List.getElem?_map,hf];rfl)
  rw[hrow,List.take_of_length_le hge2];refine wk 5 ?_;refine aq 86 (Ab Ag rfl rfl rfl rfl rfl rfl rfl (AE (by simp:(b.funcs.map (Lo G ks)).length=b.funcs.length) (Nat.le_of_lt hkl)) rfl (Int.natCast_nonneg _) (by omega)) ?_;refine AOps.w rfl rfl (o_store Ag rfl rfl rfl rfl rfl rfl (AE (by simp:(b.funcs.map (Lo G ks)).length=b.funcs.length) (Nat.le_of_lt hkl)) (fill_get (by simp:(b.funcs.map (Lo G ks)).length=b.funcs.length) hkl) rfl (by decide) rfl DG) ?_;refine wk 2 ?_;refine aq 87 (Bk rfl rfl hkl (by simp only[maxLen];have:=hL.n;omega)) ?_;refine wk 2 ?_;exact⟨k+1,Drop.mk' Td (by repeat(first | exact HDrop.none _ _ | exact HDrop.tail _ _ | refine HDrop.put ?_ (by first | rfl | exact congrArg (fun es=>some (AObj.row true 2 es)) (BU (f:=BFunc.cells) (x:=Lo G ks f) (by simp:(b.funcs.map (Lo G ks)).length=b.funcs.length) (by rw[List.getElem?_map,hf];rfl)) | exact congrArg (fun es=>some (AObj.row false 1 es)) hrow) rfl (by first | rfl | exact Ka | exact Mu rfl))),hkl,by omega⟩
 refine acf ?_;have hge:b.funcs.length<=k:=by have h:=hb4;simp at h;omega
 refine wk 2 ?_;refine AGo.ghost (.freezeCell 3 0 1 2 rfl rfl rfl rfl (AE (by simp:(b.funcs.map (Lo G ks)).length=b.funcs.length) hk) (by decide)) ?_;rw[CT (by simp:(b.funcs.map (Lo G ks)).length=b.funcs.length) hge];have hr4:((((b.funcs.map (FN G ks)).take (k)).map (fun x=>[C8 x]))++List.replicate (b.funcs.length-(k)) [AV.nil])=(b.funcs.map (FN G ks)).map (fun x=>[C8 x]):=by have h:=CT (f:=fun x=>[C8 x]) (z:=[AV.nil]) (by simp:(b.funcs.map (FN G ks)).length=b.funcs.length) hge;rwa[List.drop_zero,List.take_of_length_le (by have:=AE (f:=fun x=>[C8 x]) (z:=[AV.nil]) (by simp:(b.funcs.map (FN G ks)).length=b.funcs.length) hk;omega)]at h
 rw[hr4];refine AGo.ghost (.plain 4 rfl (Sf _)) ?_;refine AGo.ghost (.freezeA 12 4 rfl rfl (by simp)) ?_;refine wk 8 ?_;refine⟨[_,_,_],⟨⟨_,_,_,_,rfl,rfl,.ptr _ _ _ _ _ _ _ _ rfl rfl rfl,rfl⟩,rfl,rfl,trivial⟩,?_,rfl⟩;rfl
set_option maxRecDepth 100000
theorem PS35.passes{n w:Int}{f:BFunc}(h:PS35 n w f):SX f (Dg f):=by
 obtain⟨h1,h2,h3,h4⟩:=CD h.one;have hl:=h.len;obtain⟨R,hR⟩: ∃R:Nat,f.regs=(R:Int):=⟨f.regs.toNat,by omega⟩
 have hR':f.regs.toNat=R:=by omega
 have hs:=one_sane h.one;have hr:=h.r;refine⟨ZG f h.mild,forwardOf_ok f ⟨h1,h2,by omega,fun x hx=>by have:=hl.2 x hx;omega,fun x hx t ht=>?_,fun x hx e=>?_⟩,ZX f hs (List.length_pos_iff.2 h3) (by omega) (by omega) (fun x hx=>by have:=hl.2 x hx;omega),YK f h.tame,rfl,rfl,rfl,rfl⟩
 . rw[hR'];have:=(h4 x hx).2 t ht;rw[hR]at this;exact fits_tacR this
 . have:=hs.fin x hx e;omega
theorem la(b:Blocks)(hb:All35 b)(ks:List Int)(hks:ks.length<=20)(hv: ∀k∈ks,kind35 k=true):APure Tryz.prog 15 [.agg b.cells,AZ ks] (fun r=>r= .tup [.agg (Hs b ks).cells,Wo (b.funcs.map (FN Dg ks)),.int .i64 0]):=
 cF b ks Dg (fun f=>∃n w,PS35 n w f) hb.lim hks hv (fun f hf=>by obtain⟨i,hi⟩:=List.getElem?_of_mem hf;exact⟨_,_,hb.e i f hi⟩) (fun f ⟨n,w,hf⟩ k hk=>⟨⟨n,w,hf.step k⟩,cA f (Dg f) hf.passes k (hv k hk)⟩)
theorem cI(k:Int):APure Tryz.prog 22 [.int .i64 k] (fun r=>r= .bool (kind35 k)):=by
 refine APure.of_body (n:=9) Ag Tryz.func22 rfl rfl ?_;refine wk 40 ?_;refine EY 5 (fun hb1=>?_) fun hb1=>?_
 . refine wk 40 ?_;refine⟨[_],⟨rfl,trivial⟩,?_,rfl⟩;refine bc ?_;simp at hb1;simp[kind35,hb1]
 . refine wk 40 ?_;refine⟨[_],⟨rfl,trivial⟩,?_,rfl⟩;refine bc ?_;simp at hb1;unfold kind35;exact(decide_eq_false (by omega)).symm
theorem Wg(ks:List Int)(hl:ks.length<=1048576):APure Tryz.prog 16 [AZ ks] (fun r=>r= .bool (ks.all kind35&&decide (ks.length<=20))):=by
 refine APure.of_body (n:=19) Ag Tryz.func16 rfl rfl ?_;refine wk 40 ?_;refine AGo.loopI (γ:=Nat) (fun i=>⟨19,Aa (Aa Ba 0 (AZ ks)) 3 (.int .i64 (i:Int)),hNone⟩) (fun i=>i<=ks.length/\(ks.take i).all kind35=true) (fun i=>ks.length-i) 0 (Sub.mk' Ci (HSub.none _)) ⟨Nat.zero_le _,rfl⟩ ?_
 rintro i ⟨hi,hF⟩
 refine wk 40 ?_;refine asp 7 (fun hb1=>?_) fun hb1=>?_
 .
  have hil:i<ks.length:=by have:=hb1;simp at this;exact this
  obtain⟨k,hk⟩:=Ae hil;refine wk 40 ?_;refine aq 12 (MT Ag (AO hk)) ?_;refine wk 1 ?_;refine ax 14 (DX Tryz.func22 (cI k)) ?_;refine wk 40 ?_;refine asp 15 (fun hb2=>?_) fun hb2=>?_
  . have hno:kind35 k=false:=by simpa using hb2
    refine wk 40 ?_;refine⟨[_],⟨rfl,trivial⟩,?_,rfl⟩;refine bc ?_;rw[show ks.all kind35=false from by rw[Bool.eq_false_iff];intro e;rw[List.all_eq_true.1 e k (List.mem_of_getElem? hk)]at hno;cases hno];rfl
  . have hyes:kind35 k=true:=by simpa using hb2
    refine wk 40 ?_;exact⟨i+1,Sub.mk' (by repeat(first | exact ESub.new _ | refine ESub.put ?_ (by first | rfl | exact congrArg (fun x=>some (AV.int .i64 x)) (Jg hil (by simp only[maxLen];omega))))) (HSub.none _),⟨hil,by rw[BR hk,List.all_append,hF];simp[hyes]⟩,by omega⟩
 have hie:i=ks.length:=by have:=hb1;simp at this;omega
 refine wk 40 ?_;refine⟨[_],⟨rfl,trivial⟩,?_,rfl⟩;refine bc ?_;rw[hie,List.take_length]at hF;rw[hF,List.length_map]
 simp
 omega
end Go.Proofs.YtbbfelelocccmaaGreat.Sv
namespace Go.Proofs.YtbbfelelocccmaaGreat.Sv
open Go
section
variable {call call' : Int -> Mach -> Mach} {s : ByteArray} {fuel : Int}
theorem mins_fwd{n w:Int}{R:Nat}: ∀(l:List Tac) (fr regs:List Int) (m:Mach),Mh R fr->aG R fr regs->(∀t∈l,t.fits n R w=true)->
 A8 call s fuel (Db fr l).1 regs m=A8 call s fuel l regs m/\((A8 call s fuel l regs m).1=true->aG R (Db fr l).2 (A8 call s fuel l regs m).2.1)
 | [],_,_,_,_,h,_=>⟨rfl,fun _=>h⟩
 | t::r,fr,regs,m,hr,h,hl=>by
  have ht:=hl t (by simp);have hsub:=RI hr ht;have h1:=Ud (call:=call) (s:=s) h (fits_tacR ht) (Ax fuel m).2;show A8 call s fuel (subT fr t::(Db (Dt fr (subT fr t)) r).1) regs m=_/\(_->aG R (Db (Dt fr (subT fr t)) r).2 _);rw[Hy,Hy,h1]
  cases hs:(Ax fuel m).1 with
  | false=>exact⟨rfl,fun e=>by cases e⟩
  | true=>
   simp only[cond_true]
   cases hf:(mone call s t regs (Ax fuel m).2).2.fin==0 with
   | false=>exact⟨rfl,fun e=>by cases e⟩
   | true=>
    have hn:=UK (call:=call) (s:=s) h hr (fits_tacR hsub) (m:=(Ax fuel m).2) (by rw[h1];simpa using hf);rw[h1]at hn;exact mins_fwd r _ _ _ (LD hr hsub) hn fun u hu=>hl u (by simp[hu])
theorem Uh{n w:Int}{f:BFunc}{R:Nat}(hR:f.regs=(R:Int))(hf: ∀x∈f.blocks,(x.fin=2->0<=x.v/\x.v<R)/\∀t∈x.ins,t.fits n R w=true): ∀(g:Nat) (i:Int) (regs:List Int) (m:Mach),regs.length=R->mblk call s fuel f.forward g i regs m=mblk call s fuel f g i regs m
 | 0,_,_,_,_=>rfl
 | g+1,i,regs,m,hr=>by
  have e:f.forward.blocks[i.toNat]?=(f.blocks[i.toNat]?).map (Block.forward R):=by
   show(f.blocks.map _)[i.toNat]?=_
   grind
  unfold mblk;rw[e]
  cases hk:f.blocks[i.toNat]? with
  | none=>rfl
  | some k=>
   obtain⟨hv,hi⟩:=hf k (List.mem_of_getElem? hk);obtain⟨hm,ha⟩:=mins_fwd (call:=call) (s:=s) (fuel:=fuel) k.ins (Kr R) regs m (R6 R) (dS hr) hi;have hm':A8 call s fuel (k.forward R).ins regs m=A8 call s fuel k.ins regs m:=hm;simp only[Option.map_some];rw[hm']
   cases hc:(A8 call s fuel k.ins regs m).1 with
   | false=>rfl
   | true=>
    have ha':=ha hc;have hnx:(k.forward R).next (A8 call s fuel k.ins regs m).2.1=k.next (A8 call s fuel k.ins regs m).2.1:=by
     exact mh
    rw[hnx,Uh hR hf g _ _ _ (by rw[Ov];exact hr)];rfl
theorem PS35.ms{n w:Int}{f:BFunc}(h:PS35 n w f)(k:Int)(hc:BD call call (fun j=>0<=j/\j<n))(hc':BD call call' (fun j=>0<=j/\j<n))(hcs: ∀i m,m.steps<=(call i m).steps)(hcs': ∀i m,m.steps<=(call' i m).steps){g:Nat}{m m':Mach}(h0:m.fin=0)(hm:m.Le m')(hg:0<g)(hgas:Cw fuel g m)(hgas':Cw fuel g m'):
 (mblk call s fuel f g 0 (List.replicate f.regs.toNat 0) m).Sim (mblk call' s fuel (Dg f k).f g 0 (List.replicate (Dg f k).f.regs.toNat 0) m'):=by
 obtain⟨h1,h2,h3,h4⟩:=CD h.one;have hfi:=T6 h.one;have self:=mblk_sim (s:=s) (fuel:=fuel) hc' (f:=f) (fun x hx t ht ho=>(hfi.ins x hx t ht).1 ho) hcs hcs' g g 0 (List.replicate f.regs.toNat 0) m m' h0 hm hg hg hgas hgas';unfold Dg
 cases k==1 with
 | true=>
  show(mblk call s fuel f g 0 _ m).Sim (mblk call' s fuel f.fold g 0 (List.replicate f.regs.toNat 0) m');rw[QF (fun x hx t ht e=>by
   have:=(OV ((h4 x hx).2 t ht)).1 e;omega) g 0 _ m' (by simp)]
  exact self
 | false=>
 cases k==2 with
 | true=>
  obtain⟨R,hR⟩: ∃R:Nat,f.regs=(R:Int):=⟨f.regs.toNat,by omega⟩
  show(mblk call s fuel f g 0 _ m).Sim (mblk call' s fuel f.forward g 0 (List.replicate f.regs.toNat 0) m');rw[Uh (n:=n) (w:=w) hR (fun x hx=>⟨fun e=>by
   have:=(one_sane h.one).fin x hx e;omega,fun t ht=>by rw[<-hR];exact(h4 x hx).2 t ht⟩) g 0 _ m' (by rw[hR];simp)]
  exact self
 | false=>
 cases k==3 with
 | true=>
  grind[mblk,Vp,Lb,GE,Zo,BD,Cw,Dg]
 | false=>
  have hH:=J6 (EI h.one) h3;have hp0:(0:Int)<f.tpaths.length:=by have:=hH.ne;omega
  have:=Tn (s:=s) (fuel:=fuel) hH (fun x hx=>O7 (h4 x hx).1) hc' hcs hcs' (fun x hx t ht ho=>(hfi.ins x hx t ht).1 ho) g g (Nat.le_refl _) g 0 (List.replicate f.regs.toNat 0) m m' h0 hm hg hg hgas hgas' ⟨Int.le_refl _,hp0⟩;rw[hH.head]at this;exact this
end
noncomputable def stepP(b:Blocks)(k:Int):Blocks:=⟨b.words,b.funcs.map fun f=>(Dg f k).f⟩
theorem Qm(b:Blocks)(k:Int)(r:List Int):Hs b (k::r)=Hs (stepP b k) r:=by
 unfold Hs stepP;simp only[List.map_map];rfl
theorem All35.step{b:Blocks}(h:All35 b)(k:Int):All35 (stepP b k):=by
 have:=h.opt [k];rwa[Qm,show Hs (stepP b k) []=stepP b k by unfold Hs;simp only[show Lo Dg []=id from rfl,List.map_id]]at this
theorem mfun_stepP{b:Blocks}(hb:All35 b)(k:Int){s:ByteArray}{fuel:Int}: ∀(n:Nat) (i:Int) (m m':Mach),0<=i->i<b.funcs.length->m.fin=0->m.Le m'->(F5 b s fuel n i m).Sim (F5 (stepP b k) s fuel n i m')
 | 0,_,_,_,_,_,_,h=>.inr h
 | n+1,i,m,m',h1,h2,h0,h=>by
  unfold F5;have e:(stepP b k).funcs[i.toNat]?=(b.funcs[i.toNat]?).map fun f=>(Dg f k).f:=List.getElem?_map
  rw[e]
  cases hf:b.funcs[i.toNat]? with
  | none=>exact .inr h
  | some f=>
   have hP:=hb.e i.toNat f hf;simp only[Option.map_some];refine hP.ms k (fun j m m' hj hz hl=>Ug hb.r n j m m' hj.1 (by omega) hz hl) (fun j m m' hj hz hl=>mfun_stepP hb k n j m m' hj.1 (by omega) hz hl) (fun j m=>E8 n j m) (fun j m=>E8 n j m) h0 h (Nat.succ_pos _) ?_ ?_
   . unfold Cw;omega
   . unfold Cw;omega
theorem YQ{b:Blocks}(hb:All35 b)(k:Int)(s:ByteArray)(fuel:Int):
 (Ha b s fuel).fin=5\/(Ha b s fuel).fin=(Ha (stepP b k) s fuel).fin/\(Ha b s fuel).out=(Ha (stepP b k) s fuel).out/\(Ha (stepP b k) s fuel).steps<=(Ha b s fuel).steps:=by
 have hr:=E4 hb.r;have hne:0<b.funcs.length:=List.length_pos_iff.2 hr.2.2.1;have key:=mfun_stepP hb k (s:=s) (fuel:=FB fuel) b.funcs.length ((b.funcs.length:Int)-1) (m0 b) (m0 b) (by omega) (by omega) rfl (Mach.Le.refl _);have em:m0 (stepP b k)=m0 b:=rfl;have el:(stepP b k).funcs.length=b.funcs.length:=List.length_map _;unfold Ha;rw[el,em];dsimp only;generalize F5 b s (FB fuel) b.funcs.length ((b.funcs.length:Int)-1) (m0 b)=X at key |-;generalize F5 (stepP b k) s (FB fuel) b.funcs.length ((b.funcs.length:Int)-1) (m0 b)=Y at key |-;rcases key with h | h
 . grind
 . rw[h.fin]
   cases X.fin==0 with
   | true=>exact .inr ⟨rfl,h.out.symm,h.steps⟩
   | false=>exact .inr ⟨h.fin.symm,h.out.symm,h.steps⟩
theorem Xq(s:ByteArray)(fuel:Int): ∀(ks:List Int) (b:Blocks),All35 b->
 (Ha b s fuel).fin=5\/(Ha b s fuel).fin=(Ha (Hs b ks) s fuel).fin/\(Ha b s fuel).out=(Ha (Hs b ks) s fuel).out/\(Ha (Hs b ks) s fuel).steps<=(Ha b s fuel).steps
 | [],b,hb=>.inr (by rw[show Hs b []=b by unfold Hs;simp only[show Lo Dg []=id from rfl,List.map_id]];exact⟨rfl,rfl,Nat.le_refl _⟩)
 | k::r,b,hb=>by
  rcases YQ hb k s fuel with h |⟨h1,h2,h3⟩
  . exact .inl h
  . rw[Qm];rcases Xq s fuel r (stepP b k) (hb.step k)with h |⟨g1,g2,g3⟩
    . exact .inl (by rw[h1];exact h)
    . exact .inr ⟨h1.trans g1,h2.trans g2,Nat.le_trans g3 h3⟩
theorem PS35.less{n w:Int}{f:BFunc}(h:PS35 n w f)(k:Int):(Dg f k).f.count<=f.count:=by
 unfold Dg
 cases k==1 with
 | true=>exact Nat.le_of_eq (OR f)
 | false=>
 cases k==2 with
 | true=>exact Nat.le_of_eq (JY f)
 | false=>
 cases k==3 with
 | true=>exact Rh f
 | false=>exact Nz (EI h.one)
theorem UT{n w:Int}: ∀(ks:List Int) (f:BFunc),PS35 n w f->(Lo Dg ks f).count<=f.count
 | [],f,h=>Nat.le_refl _
 | k::r,f,h=>Nat.le_trans (UT r _ (h.step k)) (h.less k)
theorem All35.less{b:Blocks}(h:All35 b)(ks:List Int):(Hs b ks).count<=b.count:=by
 have key: ∀(l:List BFunc),(∀f∈l,∃n w,PS35 n w f)->((l.map (Lo Dg ks)).map BFunc.count).sum<=(l.map BFunc.count).sum:=by
  intro l
  induction l with
  | nil=>intro _;exact Nat.le_refl _
  | cons f l ih=>
   intro hl;obtain⟨n,w,hf⟩:=hl f (by simp);have h1:=ih fun g hg=>hl g (by simp[hg])
   have h2:=UT ks f hf;simp only[List.map_cons,List.sum_cons];omega
 exact key b.funcs fun f hf=>by obtain⟨i,hi⟩:=List.getElem?_of_mem hf;exact⟨_,_,h.e i f hi⟩
theorem eZ(a:Nat)(ha:a<4294967296):ACall Tryz.prog 101 [.int .u32 (a:Int)] (hput hNew 0 .free) (fun r h'=>r= .ref 0 32 0 32/\HSub (hput hNone 0 (.row true 1 (natCells (Ep a 32)))) h'):=by
 refine ACall.of_body (n:=18) Ag Tryz.func101 rfl rfl ?_;refine wk 10 ?_;refine AGo.ghost (.dry 3 0 1 true rfl rfl rfl (by decide)) ?_;refine wk 4 ?_;refine AGo.loopI (γ:=Nat) (fun k=>⟨18,(Aa (Aa (Aa Ba 0 (.int .u32 ((a/2^k:Nat):Int))) 3 (.ref 0 k 0 k)) 4 (.int .i64 (k:Int))),(hput hNone 0 (.row true 1 (natCells (Ep a k))))⟩) (fun k=>k<=32) (fun k=>32-k) 0 (Sub.mk' (by repeat(first | exact ESub.new _ | refine ESub.put ?_ (by first | rfl | exact congrArg (fun(n:Nat)=>some (AV.int .u32 (n:Int))) (by simp)))) FF) (Nat.zero_le _) ?_;exact mY
theorem eY(a:Nat)(ha:a<4294967296):ACall Tryz.prog 101 [.int .u32 (a:Int)] (hput hNew 1 .free) (fun r h'=>r= .ref 1 32 0 32/\HSub (hput hNone 1 (.row true 1 (natCells (Ep a 32)))) h'):=by
 refine ACall.of_body (n:=18) Ag Tryz.func101 rfl rfl ?_;refine wk 10 ?_;refine AGo.ghost (.dry 3 1 1 true rfl rfl rfl (by decide)) ?_;refine wk 4 ?_;refine AGo.loopI (γ:=Nat) (fun k=>⟨18,(Aa (Aa (Aa Ba 0 (.int .u32 ((a/2^k:Nat):Int))) 3 (.ref 1 k 0 k)) 4 (.int .i64 (k:Int))),(hput hNone 1 (.row true 1 (natCells (Ep a k))))⟩) (fun k=>k<=32) (fun k=>32-k) 0 (Sub.mk' (by repeat(first | exact ESub.new _ | refine ESub.put ?_ (by first | rfl | exact congrArg (fun(n:Nat)=>some (AV.int .u32 (n:Int))) (by simp)))) FF) (Nat.zero_le _) ?_;exact mY
theorem ai(l:List Nat)(hl:l.length=32)(hb: ∀b∈l,b<2):APure Tryz.prog 102 [.lst false (natCells l)] (fun r=>r= .int .u32 (valB l:Int)):=by
 refine APure.of_body (n:=23) Ag Tryz.func102 rfl rfl ?_;refine wk 13 ?_;refine aq 7 (A2 (r:=.int .i64 (31:Int)) rfl rfl rfl (by rw[BG,hl];rfl)) ?_;refine wk 3 ?_;refine AGo.loopI (γ:=Nat) (fun k=>⟨23,(Aa (Aa (Aa Ba 0 (.lst false (natCells l))) 3 (.int .u64 ((valB (l.drop k):Nat):Int))) 4 (.int .i64 ((k:Int)-1))),hNone⟩) (fun k=>k<=32) (fun k=>k) 32 (Sub.mk' (by repeat(first | exact ESub.new _ | refine ESub.put ?_ (by first | rfl | exact congrArg (fun(n:Nat)=>some (AV.int .u64 (n:Int))) (by rw[List.drop_eq_nil_of_le (by omega)];rfl)))) FF) (Nat.le_refl _) ?_;intro k hk;refine wk 6 ?_;refine asp 9 (fun hb1=>?_) fun hb1=>?_
 .
  refine act ?_;obtain⟨m,rfl⟩: ∃m,k=m+1:=⟨k-1,by have h:=hb1;simp at h;omega⟩
  obtain⟨b,hx⟩:=Ae (l:=l) (k:=m) (by omega);have hb2:=hb b (List.mem_of_getElem? hx);have hv:=Kx hl hb (m+1);have hv2:=YC hx;refine wk 5 ?_;refine aq 13 (A2 (r:=.int .u64 ((2*valB (l.drop (m+1)):Nat):Int)) rfl rfl rfl (O9 (a:=2) (b:=valB (l.drop (m+1))) (Ck (by omega)))) ?_;refine wk 2 ?_;refine aq 16 (Au Ag rfl rfl rfl rfl rfl rfl (by omega) (cs:=[.int .i64 (b:Int)]) (by rw[show(((m+1:Nat):Int)-1).toNat=m by omega];show(natCells l)[m]?=_;rw[natCells,List.getElem?_map,hx];rfl) rfl) ?_;refine wk 1 ?_;refine aq 18 (Co Ag rfl rfl rfl rfl rfl (Ck (by omega))) ?_;refine aq 19 (A2 (r:=.int .u64 ((2*valB (l.drop (m+1))+b:Nat):Int)) rfl rfl rfl (HB (Ck (by omega)))) ?_;refine wk 4 ?_;refine aq 11 (A2 (r:=.int .i64 ((m:Int)-1)) rfl rfl rfl (by simp only[AM,Bw,isShift,cond_false,if_true];rw[BJ (by omega) (by omega)];congr 2;omega)) ?_;refine wk 2 ?_;exact⟨m,Sub.mk' (by repeat(first | exact ESub.new _ | refine ESub.put ?_ (by first | rfl | exact congrArg (fun(n:Nat)=>some (AV.int .u64 (n:Int))) (by omega)))) FF,(by omega),by omega⟩
 refine acf ?_;obtain rfl:k=0:=by have h:=hb1;simp at h;omega
 refine wk 4 ?_;refine aq 21 (A2 (r:=.int .u64 ((valB (l.drop 0)%4294967296:Nat):Int)) rfl rfl rfl (FC (a:=valB (l.drop 0)) (b:=4294967296) (by decide))) ?_;refine aq 22 (Co Ag rfl rfl rfl rfl rfl (Dx (Nat.mod_lt _ (by decide)))) ?_;refine wk 2 ?_;refine GN ⟨[_],⟨rfl,trivial⟩,?_,rfl⟩;show AV.int .u32 _=_;rw[Nat.mod_eq_of_lt (Kx hl hb 0),List.drop_zero]
theorem iK(op:Int)(a b:Nat)(ha:a<4294967296)(hb:b<4294967296):APure Tryz.prog 93 [.int .i64 op,.int .u32 (a:Int),.int .u32 (b:Int)] (fun r=>r= .int .u32 (valB (EP op a b):Int)):=by
 refine APure.of_body (n:=50) Ag Tryz.func93 rfl rfl ?_;refine wk 7 ?_;refine ax 12 (Wj (eZ a ha) [0] [(0,(.row true 1 (natCells (Ep a 32))))] rfl Tryz.func101 (by kernel_rfl) rfl rfl rfl ⟨⟨_,rfl,rfl⟩,trivial⟩ rfl (AJ rfl (BF _)) ⟨⟨_,rfl,rfl,rfl⟩,trivial⟩ rfl) ?_;refine wk 1 ?_;refine ax 14 (Wj (eY b hb) [1] [(1,(.row true 1 (natCells (Ep b 32))))] rfl Tryz.func101 (by kernel_rfl) rfl rfl rfl ⟨⟨_,rfl,rfl⟩,trivial⟩ rfl (AJ rfl (BF _)) ⟨⟨_,rfl,rfl,rfl⟩,trivial⟩ rfl) ?_;refine wk 9 ?_;refine AGo.loopI (γ:=Nat) (fun k=>⟨50,(Aa (Aa (Aa (Aa Ba 0 (.int .i64 op)) 7 (.ref 0 32 0 32)) 8 (.ref 1 32 0 32)) 9 (.int .i64 (k:Int))),(hput (hput hNone 0 (.row true 1 (natCells (IM op a b k)))) 1 (.row true 1 (natCells (Ep b 32))))⟩) (fun k=>k<=32) (fun k=>32-k) 0 (Sub.mk' Ci (by repeat(first | exact HSub.refl _ | exact HSub.none _ | exact AH _ | exact AF GO | refine HSub.put ?_ (by first | rfl | exact congrArg (fun l=>some (AObj.row true 1 (natCells l))) (Zn op a b).symm) | refine AG ?_ GO | refine Br ?_ (by decide)))) (Nat.zero_le _) ?_
 intro k hk;refine wk 6 ?_;refine asp 16 (fun hb1=>?_) fun hb1=>?_
 .
  refine act ?_;have hkl:k<32:=by have h:=hb1;simp at h;omega
  refine wk 7 ?_;refine dq 21 (Ab Ag rfl rfl rfl rfl rfl rfl rfl (by simp[BG,DZ (Nat.le_of_lt hkl),Ch]) rfl (Int.natCast_nonneg _) (by omega)) ?_;refine dq 22 (At Ag rfl rfl rfl (.ptr _ _ _ _ _ _ _ _ rfl (by simp[BG,DZ (Nat.le_of_lt hkl)]) (F2 (Ou hkl))) rfl) ?_;refine wk 2 ?_;refine dq 25 (Ab Ag rfl rfl rfl rfl rfl rfl rfl (by simp[BG,DZ (Nat.le_of_lt hkl),Ch]) rfl (Int.natCast_nonneg _) (by omega)) ?_;refine dq 26 (At Ag rfl rfl rfl (.ptr _ _ _ _ _ _ _ _ rfl (by simp[BG,Ch]) (F2 (Me hkl))) rfl) ?_;refine dq 27 (A2 (r:=.int .i64 ((a/2^k%2+b/2^k%2:Nat):Int)) rfl rfl rfl (HB (Jh (by omega)))) ?_;refine wk 6 ?_;refine aq 30 (Ab Ag rfl rfl rfl rfl rfl rfl rfl (by simp[BG,DZ (Nat.le_of_lt hkl),Ch]) rfl (Int.natCast_nonneg _) (by omega)) ?_;refine AOps.w rfl rfl (o_store Ag rfl rfl rfl rfl rfl rfl (by simp[BG,DZ (Nat.le_of_lt hkl)]) (F2 (Ou hkl)) rfl (by decide) rfl DG) ?_;refine wk 6 ?_;refine EY 33 (fun hb2=>?_) fun hb2=>?_
  .
   refine wk 4 ?_;refine EY 37 (fun hb3=>?_) fun hb3=>?_
   .
    refine wk 12 ?_;exact jK
   refine wk 3 ?_;refine EY 40 (fun hb4=>?_) fun hb4=>?_
   .
    refine wk 5 ?_;refine asp 44 (fun hb5=>?_) fun hb5=>?_
    .
     refine wk 4 ?_;exact jK
    refine wk 4 ?_;exact mR
   refine wk 9 ?_;exact mR
  refine wk 7 ?_;refine EY 40 (fun hb6=>?_) fun hb6=>?_
  .
   refine wk 5 ?_;refine asp 44 (fun hb7=>?_) fun hb7=>?_
   .
    refine wk 4 ?_;exact jK
   refine wk 4 ?_;exact mR
  refine wk 9 ?_;exact mR
 refine acf ?_;have hge: ¬k<32:=by have h:=hb1;simp at h;omega
 obtain rfl:k=32:=by omega
 rw[dg];refine wk 2 ?_;refine AGo.ghost (.freezeAll 7 0 rfl rfl (by simp[BG,Ec])) ?_;refine wk 2 ?_;refine ax 49 (DX Tryz.func102 (ai _ (Ec _ _ _) (eW _ _ _))) ?_;refine wk 2 ?_;refine GN ⟨[_],⟨rfl,trivial⟩,?_,rfl⟩;rfl
theorem YS(op:Int)(a b:Nat)(ha:a<4294967296)(hb:b<4294967296)(ho:op=12\/op=13):APure Tryz.prog 94 [.int .i64 op,.int .u32 (a:Int),.int .u32 (b:Int)] (fun r=>r= .int .u32 (FI op a b)):=by
 refine APure.of_body (n:=27) Ag Tryz.func94 rfl rfl ?_;refine wk 10 ?_;refine asp 10 (fun hb1=>?_) fun hb1=>?_
 .
  refine act ?_;have hb32:32<=b:=by have h:=hb1;simp at h;omega
  refine wk 4 ?_;refine GN ⟨[_],⟨rfl,trivial⟩,?_,rfl⟩;show AV.int .u32 _=_;rw[Vx op hb32]
 refine acf ?_;have hb32:b<32:=by have h:=hb1;simp at h;omega
 refine wk 4 ?_;refine aq 12 (Co Ag rfl rfl rfl rfl rfl (Ck (by omega))) ?_;refine wk 8 ?_;refine AGo.loopI (γ:=Nat) (fun k=>⟨27,(Aa (Aa (Aa (Aa Ba 0 (.int .i64 op)) 2 (.int .u32 (b:Int))) 7 (.int .u64 ((shN op a k:Nat):Int))) 8 (.int .u32 (k:Int))),hNone⟩) (fun k=>k<=b) (fun k=>b-k) 0 (Sub.mk' Ci FF) (Nat.zero_le _) ?_;intro k hk;refine wk 7 ?_;refine asp 15 (fun hb2=>?_) fun hb2=>?_
 .
  refine act ?_;have hkl:k<b:=by have h:=hb2;simp at h;omega
  have hlt:=RV (op:=op) ha k;refine wk 8 ?_;refine asp 19 (fun hb3=>?_) fun hb3=>?_
  .
   refine wk 3 ?_;refine aq 21 (A2 (r:=.int .u64 ((2*shN op a k:Nat):Int)) rfl rfl rfl (O9 (a:=2) (b:=shN op a k) (Ck (by omega)))) ?_;refine aq 22 (A2 (r:=.int .u64 ((2*shN op a k%4294967296:Nat):Int)) rfl rfl rfl (FC (a:=2*shN op a k) (b:=4294967296) (by decide))) ?_;exact mH
  refine wk 3 ?_;refine aq 24 (A2 (r:=.int .u64 ((shN op a k/2:Nat):Int)) rfl rfl rfl (La (a:=shN op a k) (b:=2) (by decide) (Ck (by omega)))) ?_;exact mH
 refine acf ?_;obtain rfl:k=b:=by have h:=hb2;simp at h;omega
 refine wk 4 ?_;refine aq 26 (Co Ag rfl rfl rfl rfl rfl (Dx (RV ha _))) ?_;refine wk 2 ?_;refine GN ⟨[_],⟨rfl,trivial⟩,?_,rfl⟩;show AV.int .u32 _=_;rw[Rx ha hb32 ho]
theorem XW(ok:Bool):APure Tryz.prog 95 [.bool ok] (fun r=>r= .int .u32 (bif ok then 1 else 0)):=by
 refine APure.of_body (n:=4) Ag Tryz.func95 rfl rfl ?_;refine wk 9 ?_;refine asp 3 (fun hb1=>?_) fun hb1=>?_
 .
  refine wk 5 ?_;refine GN ⟨[_],⟨rfl,trivial⟩,?_,rfl⟩;show AV.int .u32 _=_;simp[*]
 refine wk 6 ?_;refine GN ⟨[_],⟨rfl,trivial⟩,?_,rfl⟩;show AV.int .u32 _=_;simp[*]
theorem V1(op:Int)(a b:Nat)(ha:a<4294967296)(hb:b<4294967296):APure Tryz.prog 72 [.int .i64 op,.int .u32 (a:Int),.int .u32 (b:Int)] (fun r=>r=W1 (B5 op a b)):=by
 refine APure.of_body (n:=80) Ag Tryz.func72 rfl rfl ?_;refine wk 8 ?_;refine aq 11 (Co Ag rfl rfl rfl rfl rfl (Ck (by omega))) ?_;refine wk 1 ?_;refine aq 13 (Co Ag rfl rfl rfl rfl rfl (Ck (by omega))) ?_;refine wk 14 ?_;refine asp 15 (fun hb1=>?_) fun hb1=>?_
 .
  refine act ?_;obtain rfl:op=4:=by simpa using hb1
  refine wk 4 ?_;refine aq 19 (A2 (r:=.int .u64 ((a+b:Nat):Int)) rfl rfl rfl (HB (Ck (by omega)))) ?_;refine aq 20 (A2 (r:=.int .u64 (((a+b)%4294967296:Nat):Int)) rfl rfl rfl (FC (a:=a+b) (b:=4294967296) (by decide))) ?_;refine aq 21 (Co Ag rfl rfl rfl rfl rfl (Dx (Nat.mod_lt _ (by decide)))) ?_;refine wk 4 ?_;refine⟨[_,_],⟨rfl,rfl,trivial⟩,?_,rfl⟩;show AV.tup _=_;rw[bg];rfl
 refine wk 6 ?_;refine asp 22 (fun hb2=>?_) fun hb2=>?_
 .
  refine act ?_;obtain rfl:op=5:=by simpa using hb2
  refine wk 3 ?_;refine aq 25 (A2 (r:=.int .u64 ((a+4294967296:Nat):Int)) rfl rfl rfl (HB (b:=4294967296) (Ck (by omega)))) ?_;refine wk 1 ?_;refine aq 27 (A2 (r:=.int .u64 ((a+4294967296-b:Nat):Int)) rfl rfl rfl (ebin_sub (by omega) (Ck (by omega)))) ?_;refine aq 28 (A2 (r:=.int .u64 (((a+4294967296-b)%4294967296:Nat):Int)) rfl rfl rfl (FC (a:=a+4294967296-b) (b:=4294967296) (by decide))) ?_;refine aq 29 (Co Ag rfl rfl rfl rfl rfl (Dx (Nat.mod_lt _ (by decide)))) ?_;refine wk 4 ?_;refine⟨[_,_],⟨rfl,rfl,trivial⟩,?_,rfl⟩;show AV.tup _=_;rw[aY hb];rfl
 refine wk 6 ?_;refine asp 30 (fun hb3=>?_) fun hb3=>?_
 .
  refine act ?_;obtain rfl:op=6:=by simpa using hb3
  have hab:a*b<18446744073709551616:=by have:=Nat.mul_lt_mul'' ha hb;omega
  refine wk 4 ?_;refine aq 34 (A2 (r:=.int .u64 ((a*b:Nat):Int)) rfl rfl rfl (O9 (Ck hab))) ?_;refine aq 35 (A2 (r:=.int .u64 ((a*b%4294967296:Nat):Int)) rfl rfl rfl (FC (a:=a*b) (b:=4294967296) (by decide))) ?_;refine aq 36 (Co Ag rfl rfl rfl rfl rfl (Dx (Nat.mod_lt _ (by decide)))) ?_;refine wk 4 ?_;refine⟨[_,_],⟨rfl,rfl,trivial⟩,?_,rfl⟩;show AV.tup _=_;rw[aZ];rfl
 refine wk 6 ?_;refine asp 37 (fun hb4=>?_) fun hb4=>?_
 .
  refine act ?_;obtain rfl:op=7:=by simpa using hb4
  refine wk 6 ?_;refine asp 40 (fun hb5=>?_) fun hb5=>?_
  .
   refine act ?_;obtain rfl:b=0:=by have h:=hb5;simp at h;omega
   refine wk 6 ?_;refine⟨[_,_],⟨rfl,rfl,trivial⟩,?_,rfl⟩;show AV.tup _=_;rw[show(((0:Nat):Int))=0 from rfl,PZ _ _ (by simp)];rfl
  refine acf ?_;have hb0: ¬b=0:=by have h:=hb5;simp at h;omega
  have hda:=Nat.div_le_self a b;refine wk 5 ?_;refine aq 43 (A2 (r:=.int .u64 ((a/b:Nat):Int)) rfl rfl rfl (La (Nat.pos_of_ne_zero hb0) (Ck (by omega)))) ?_;refine aq 44 (Co Ag rfl rfl rfl rfl rfl (Dx (by omega))) ?_;refine wk 4 ?_;refine⟨[_,_],⟨rfl,rfl,trivial⟩,?_,rfl⟩;show AV.tup _=_;rw[bf ha hb0];rfl
 refine wk 6 ?_;refine asp 45 (fun hb6=>?_) fun hb6=>?_
 .
  refine act ?_;obtain rfl:op=8:=by simpa using hb6
  refine wk 6 ?_;refine asp 48 (fun hb7=>?_) fun hb7=>?_
  .
   refine act ?_;obtain rfl:b=0:=by have h:=hb7;simp at h;omega
   refine wk 6 ?_;refine⟨[_,_],⟨rfl,rfl,trivial⟩,?_,rfl⟩;show AV.tup _=_;rw[show(((0:Nat):Int))=0 from rfl,PZ _ _ (by simp)];rfl
  refine acf ?_;have hb0: ¬b=0:=by have h:=hb7;simp at h;omega
  have hma:=Nat.mod_lt a (Nat.pos_of_ne_zero hb0);refine wk 5 ?_;refine aq 51 (A2 (r:=.int .u64 ((a%b:Nat):Int)) rfl rfl rfl (FC (Nat.pos_of_ne_zero hb0))) ?_;refine aq 52 (Co Ag rfl rfl rfl rfl rfl (Dx (by omega))) ?_;refine wk 4 ?_;refine⟨[_,_],⟨rfl,rfl,trivial⟩,?_,rfl⟩;show AV.tup _=_;rw[bb hb0];rfl
 refine wk 7 ?_;refine asp 53 (fun hb8=>?_) fun hb8=>?_
 .
  refine wk 5 ?_;exact jJ
 refine wk 6 ?_;refine asp 53 (fun hb9=>?_) fun hb9=>?_
 .
  refine wk 5 ?_;exact jJ
 refine wk 5 ?_;refine asp 53 (fun hb10=>?_) fun hb10=>?_
 .
  refine wk 3 ?_;exact jJ
 refine wk 7 ?_;refine asp 61 (fun hb11=>?_) fun hb11=>?_
 .
  refine wk 5 ?_;exact l7
 refine wk 5 ?_;refine asp 61 (fun hb12=>?_) fun hb12=>?_
 .
  refine wk 3 ?_;exact l7
 refine wk 6 ?_;refine asp 68 (fun hb13=>?_) fun hb13=>?_
 .
  refine act ?_;obtain rfl:op=14:=by simpa using hb13
  refine wk 5 ?_;refine ax 73 (DX Tryz.func95 (XW _)) ?_;refine wk 4 ?_;refine⟨[_,_],⟨rfl,rfl,trivial⟩,?_,rfl⟩;show AV.tup _=_;rw[fW];rfl
 refine wk 6 ?_;refine asp 74 (fun hb14=>?_) fun hb14=>?_
 .
  refine act ?_;obtain rfl:op=15:=by simpa using hb14
  refine wk 5 ?_;refine ax 79 (DX Tryz.func95 (XW _)) ?_;refine wk 4 ?_;refine⟨[_,_],⟨rfl,rfl,trivial⟩,?_,rfl⟩;show AV.tup _=_;rw[fX];rfl
 refine wk 8 ?_;exact Ks
theorem Y4(op a b:Int)(ha:EW a)(hb:EW b):APure Tryz.prog 72 [.int .i64 op,.int .u32 a,.int .u32 b] (fun r=>r=W1 (B5 op a b)):=by
 obtain⟨n,rfl⟩:=Int.eq_ofNat_of_zero_le ha.1;obtain⟨m,rfl⟩:=Int.eq_ofNat_of_zero_le hb.1;exact V1 op n m (by have:=ha.2;omega) (by have:=hb.2;omega)
theorem Xe(b:Blocks)(s:ByteArray)(fuel:Int)(m:Mach)(hfu:fuel<=9223372036854775807):ACall Tryz.prog 52 [.ptr 0 1 0 0] (Ig hNew b s fuel m) (fun r h'=>r= .bool (Ax fuel m).1/\HSub (Ig hNone b s fuel (Ax fuel m).2) h'):=by
 refine ACall.of_body (n:=22) Ag Tryz.func52 rfl rfl ?_;refine wk 17 ?_;refine asp 11 (fun hb1=>?_) fun hb1=>?_
 .
  refine wk 13 ?_;rw[c9 hb1];exact⟨[_],⟨rfl,trivial⟩,rfl,HSub.put (HSub.put (HSub.put (HSub.none _) rfl) rfl) rfl⟩
 refine wk 8 ?_;refine aq 19 (Bk rfl rfl (show m.steps<fuel.toNat by have h:=hb1;simp at h;omega) (by simp only[maxLen];omega)) ?_;refine wk 9 ?_;rw[Qv hb1];exact⟨[_],⟨rfl,trivial⟩,rfl,HSub.put (HSub.put (HSub.put (HSub.none _) rfl) rfl) rfl⟩
theorem gJ(b:Blocks)(s:ByteArray)(fuel:Int)(call:Int->Mach->Mach)(t:Tac)(regs:List Int)(m:Mach)(n R:Nat)(ht:jm t n R b.words.toNat)(hr:JP regs)(hlen:regs.length=R)(hm:m.good b.words.toNat)(h0:m.fin=0)(hbw:b.words<=1048576)(hs:s.size<=9223372036854775807)(hwn:EW t.n)
 (hcall: ∀(i:Int),0<=i->i<n->ACall Tryz.prog 39 [.ptr 0 1 0 0,.int .i64 i] (Ig hNew b s fuel m) (fun r h'=>r= .tup []/\HSub (Ig hNone b s fuel (call i m)) h')):ACall Tryz.prog 53 [.ptr 0 1 0 0,.agg t.cells,.ref 4 R 0 R] (hput (Ig hNew b s fuel m) 4 (.row true 1 (Bn regs))) (fun r h'=>r= .tup []/\HSub (hput (Ig hNone b s fuel (mone call s t regs m).2) 4 (.row true 1 (Bn (mone call s t regs m).1))) h'):=by
 refine ACall.of_body (n:=211) Ag Tryz.func53 rfl rfl ?_;refine Nk ?_;refine ax 4 (GW 8 5) ?_;refine wk 12 ?_;refine asp 10 (fun hb1=>?_) fun hb1=>?_
 .
  refine act ?_;have ho:t.op=1:=by simpa using hb1
  have hd:=ht.d (by simp[setsOp,ho]);refine wk 6 ?_;refine aq 17 (Ab Ag rfl rfl rfl rfl rfl rfl rfl (by rw[Ap,hlen]) rfl hd.1 (by have:=hd.2;omega)) ?_;refine AOps.w rfl rfl (o_store Ag rfl rfl rfl rfl rfl rfl (by rw[Ap,hlen]) (Eg (by have:=hd;omega)) rfl (by decide) rfl DG) ?_;refine an ?_;refine⟨[],trivial,rfl,?_⟩;rw[db ho];exact Vw
 refine wk 6 ?_;refine asp 18 (fun hb2=>?_) fun hb2=>?_
 .
  refine act ?_;have ho:t.op=2:=by simpa using hb2
  have hd:=ht.d (by simp[setsOp,ho]);have ha:=ht.a (by simp[use1,use2,ho]);refine wk 7 ?_;refine dq 26 (Ab Ag rfl rfl rfl rfl rfl rfl rfl (by rw[Ap,hlen]) rfl ha.1 (by have:=ha.2;omega)) ?_;refine dq 27 (At Ag rfl rfl rfl (.ptr _ _ _ _ _ _ _ _ rfl (by rw[Ap,hlen]) (Eg (by have:=ha;omega))) rfl) ?_;refine dq 28 (Ab Ag rfl rfl rfl rfl rfl rfl rfl (by rw[Ap,hlen]) rfl hd.1 (by have:=hd.2;omega)) ?_;refine DOps.w rfl rfl (o_store Ag rfl rfl rfl rfl rfl rfl (by rw[Ap,hlen]) (Eg (by have:=hd;omega)) rfl (by decide) rfl DG) ?_;refine wk 1 ?_;refine⟨[],trivial,rfl,?_⟩;rw[je ho];exact Vw
 refine wk 6 ?_;refine asp 29 (fun hb3=>?_) fun hb3=>?_
 .
  refine act ?_;have ho:t.op=3:=by simpa using hb3
  have hd:=ht.d (by simp[setsOp,ho]);have ha:=ht.a (by simp[use1,use2,ho]);have hb:=ht.b (by simp[use2,ho]);refine wk 7 ?_;refine dq 37 (Ab Ag rfl rfl rfl rfl rfl rfl rfl (by rw[Ap,hlen]) rfl ha.1 (by have:=ha.2;omega)) ?_;refine dq 38 (At Ag rfl rfl rfl (.ptr _ _ _ _ _ _ _ _ rfl (by rw[Ap,hlen]) (Eg (by have:=ha;omega))) rfl) ?_;refine wk 3 ?_;refine dq 42 (Ab Ag rfl rfl rfl rfl rfl rfl rfl (by rw[Ap,hlen]) rfl hb.1 (by have:=hb.2;omega)) ?_;refine dq 43 (At Ag rfl rfl rfl (.ptr _ _ _ _ _ _ _ _ rfl (by rw[Ap,hlen]) (Eg (by have:=hb;omega))) rfl) ?_;refine dx 44 (DX Tryz.func72 (Y4 t.k (rget regs t.a) (rget regs t.b) (HM hr _) (HM hr _))) ?_;refine wk 12 ?_;refine asp 48 (fun hb4=>?_) fun hb4=>?_
  .
   refine wk 9 ?_;refine⟨[],trivial,rfl,?_⟩;rw[lj ho hb4];exact aI
  refine wk 7 ?_;refine aq 56 (Ab Ag rfl rfl rfl rfl rfl rfl rfl (by rw[Ap,hlen]) rfl hd.1 (by have:=hd.2;omega)) ?_;refine AOps.w rfl rfl (o_store Ag rfl rfl rfl rfl rfl rfl (by rw[Ap,hlen]) (Eg (by have:=hd;omega)) rfl (by decide) rfl DG) ?_;refine an ?_;refine⟨[],trivial,rfl,?_⟩;rw[jd ho hb4];exact Vw
 refine wk 6 ?_;refine asp 57 (fun hb5=>?_) fun hb5=>?_
 .
  refine act ?_;have ho:t.op=4:=by simpa using hb5
  have hd:=ht.d (by simp[setsOp,ho]);have hbs:=ht.base (by simp[ho]);refine wk 10 ?_;refine dq 68 (Ab Ag rfl rfl rfl rfl rfl rfl rfl (by rw[Ap,hm.len]) rfl hbs.1 (by have:=hbs.2;omega)) ?_;refine dq 69 (At Ag rfl rfl rfl (.ptr _ _ _ _ _ _ _ _ rfl (by rw[Ap,hm.len]) (Eg (by have:=hbs;have:=hm.len;omega))) rfl) ?_;refine dq 70 (Ab Ag rfl rfl rfl rfl rfl rfl rfl (by rw[Ap,hlen]) rfl hd.1 (by have:=hd.2;omega)) ?_;refine DOps.w rfl rfl (o_store Ag rfl rfl rfl rfl rfl rfl (by rw[Ap,hlen]) (Eg (by have:=hd;omega)) rfl (by decide) rfl DG) ?_;refine wk 1 ?_;refine⟨[],trivial,rfl,?_⟩;rw[qD ho];exact Vw
 refine wk 6 ?_;refine asp 71 (fun hb6=>?_) fun hb6=>?_
 .
  refine act ?_;have ho:t.op=5:=by simpa using hb6
  have ha:=ht.a (by simp[use1,use2,ho]);have hbs:=ht.base (by simp[ho]);refine wk 10 ?_;refine dq 82 (Ab Ag rfl rfl rfl rfl rfl rfl rfl (by rw[Ap,hlen]) rfl ha.1 (by have:=ha.2;omega)) ?_;refine dq 83 (At Ag rfl rfl rfl (.ptr _ _ _ _ _ _ _ _ rfl (by rw[Ap,hlen]) (Eg (by have:=ha;omega))) rfl) ?_;refine dq 84 (Ab Ag rfl rfl rfl rfl rfl rfl rfl (by rw[Ap,hm.len]) rfl hbs.1 (by have:=hbs.2;omega)) ?_;refine DOps.w rfl rfl (o_store Ag rfl rfl rfl rfl rfl rfl (by rw[Ap,hm.len]) (Eg (by have:=hbs;have:=hm.len;omega)) rfl (by decide) rfl DG) ?_;refine wk 1 ?_;refine⟨[],trivial,rfl,?_⟩;rw[qC ho];exact HSub.put (HSub.put (HSub.put (HSub.put (HSub.none _) rfl) jT) rfl) rfl
 refine wk 7 ?_;refine asp 85 (fun hb7=>?_) fun hb7=>?_
 .
  refine wk 6 ?_;have ho:t.op=6\/t.op=7:=by simp_all
  have har:=ht.arr ho;have ha:=ht.a (by rcases ho with ho | ho<;>simp[use1,use2,ho]);have hwa:=HM hr t.a;have hwa1:=hwa.1;have hwa2:=hwa.2;refine wk 3 ?_;refine dq 91 (Ab Ag rfl rfl rfl rfl rfl rfl rfl (by rw[Ap,hlen]) rfl ha.1 (by have:=ha.2;omega)) ?_;refine dq 92 (At Ag rfl rfl rfl (.ptr _ _ _ _ _ _ _ _ rfl (by rw[Ap,hlen]) (Eg (by have:=ha;omega))) rfl) ?_;refine dq 93 (Fy Ag rfl rfl rfl rfl rfl (r:=rget regs t.a) (by rw[IntKind.wrap_u64];omega)) ?_;refine wk 2 ?_;refine dq 96 (Fy Ag rfl rfl rfl rfl rfl (r:=t.size) (by rw[IntKind.wrap_u64];omega)) ?_;refine wk 2 ?_;refine asp 97 (fun hb8=>?_) fun hb8=>?_
  .
   refine act ?_;have hsz:=hb8;refine wk 8 ?_;refine⟨[],trivial,rfl,?_⟩;rw[XG ho hsz];exact aI
  refine acf ?_;have hsz:=hb8;have hsz2:rget regs t.a<t.size:=by simpa using hb8
  have hidx:0<=t.base+rget regs t.a/\t.base+rget regs t.a<b.words.toNat:=by omega
  refine wk 7 ?_;refine asp 103 (fun hb9=>?_) fun hb9=>?_
  .
   refine act ?_;have ho6:t.op=6:=by simpa using hb9
   exact mP
  refine acf ?_;have ho7:t.op=7:=by have h:=hb9;simp at h;omega
  exact mV
 refine wk 5 ?_;refine asp 85 (fun hb10=>?_) fun hb10=>?_
 .
  refine wk 4 ?_;have ho:t.op=6\/t.op=7:=by simp_all
  have har:=ht.arr ho;have ha:=ht.a (by rcases ho with ho | ho<;>simp[use1,use2,ho]);have hwa:=HM hr t.a;have hwa1:=hwa.1;have hwa2:=hwa.2;refine wk 3 ?_;refine dq 91 (Ab Ag rfl rfl rfl rfl rfl rfl rfl (by rw[Ap,hlen]) rfl ha.1 (by have:=ha.2;omega)) ?_;refine dq 92 (At Ag rfl rfl rfl (.ptr _ _ _ _ _ _ _ _ rfl (by rw[Ap,hlen]) (Eg (by have:=ha;omega))) rfl) ?_;refine dq 93 (Fy Ag rfl rfl rfl rfl rfl (r:=rget regs t.a) (by rw[IntKind.wrap_u64];omega)) ?_;refine wk 2 ?_;refine dq 96 (Fy Ag rfl rfl rfl rfl rfl (r:=t.size) (by rw[IntKind.wrap_u64];omega)) ?_;refine wk 2 ?_;refine asp 97 (fun hb11=>?_) fun hb11=>?_
  .
   refine act ?_;have hsz:=hb11;refine wk 8 ?_;refine⟨[],trivial,rfl,?_⟩;rw[XG ho hsz];exact aI
  refine acf ?_;have hsz:=hb11;have hsz2:rget regs t.a<t.size:=by simpa using hb11
  have hidx:0<=t.base+rget regs t.a/\t.base+rget regs t.a<b.words.toNat:=by omega
  refine wk 7 ?_;refine asp 103 (fun hb12=>?_) fun hb12=>?_
  .
   refine act ?_;have ho6:t.op=6:=by simpa using hb12
   exact mP
  refine acf ?_;have ho7:t.op=7:=by have h:=hb12;simp at h;omega
  exact mV
 refine wk 6 ?_;refine asp 142 (fun hb13=>?_) fun hb13=>?_
 .
  refine act ?_;have ho:t.op=8:=by simpa using hb13
  have hd:=ht.d (by simp[setsOp,ho]);refine wk 5 ?_;refine aq 147 (Ab Ag rfl rfl rfl rfl rfl rfl rfl (by rw[Ap,hlen]) rfl hd.1 (by have:=hd.2;omega)) ?_;refine AOps.w rfl rfl (o_store Ag rfl rfl rfl rfl rfl rfl (by rw[Ap,hlen]) (Eg (by have:=hd;omega)) rfl (by decide) rfl DG) ?_;refine wk 14 ?_;refine asp 157 (fun hb14=>?_) fun hb14=>?_
  .
   refine act ?_;have hrd:m.read<s.size:=by have h:=hb14;simp at h;omega
   refine wk 13 ?_;refine dq 169 (TN (c:=inAt s m.read) Ag rfl rfl rfl rfl rfl (Int.natCast_nonneg _) (dC hrd)) ?_;refine dq 170 (Fy Ag rfl rfl rfl rfl rfl (r:=((inAt s m.read).toNat:Int)) (by rw[IntKind.wrap_u32];have:=(eT (inAt s m.read)).2;omega)) ?_;refine dq 171 (Ab Ag rfl rfl rfl rfl rfl rfl rfl (by rw[List.length_set,Ap,hlen]) rfl hd.1 (by have:=hd.2;omega)) ?_;refine DOps.w rfl rfl (o_store Ag rfl rfl rfl rfl rfl rfl (by rw[List.length_set,Ap,hlen]) (K2 (Eg (by have:=hd;omega))) rfl (by decide) rfl DG) ?_;refine wk 6 ?_;refine aq 176 (Bk rfl rfl hrd (by simp only[maxLen];omega)) ?_;refine wk 4 ?_;refine⟨[],trivial,rfl,?_⟩;rw[qz ho hrd];exact Vw
  refine acf ?_;have hrd: ¬m.read<s.size:=by have h:=hb14;simp at h;omega
  refine fH ?_;refine⟨[],trivial,rfl,?_⟩;rw[li ho hrd];exact Vw
 refine wk 6 ?_;refine asp 179 (fun hb15=>?_) fun hb15=>?_
 .
  refine act ?_;have ho:t.op=9:=by simpa using hb15
  have ha:=ht.a (by simp[use1,use2,ho]);have hwa:=HM hr t.a;have hwa1:=hwa.1;have hwa2:=hwa.2;refine wk 10 ?_;refine asp 186 (fun hb16=>?_) fun hb16=>?_
  .
   refine act ?_;have hou:m.out.length>=65536:=by have h:=hb16;simp[AR]at h;omega
   refine wk 8 ?_;refine⟨[],trivial,rfl,?_⟩;rw[lh ho hou];exact aI
  refine acf ?_;have hou: ¬m.out.length>=65536:=by have h:=hb16;simp[AR]at h;omega
  refine wk 10 ?_;refine dq 198 (Ab Ag rfl rfl rfl rfl rfl rfl rfl (by rw[Ap,hlen]) rfl ha.1 (by have:=ha.2;omega)) ?_;refine dq 199 (At Ag rfl rfl rfl (.ptr _ _ _ _ _ _ _ _ rfl (by rw[Ap,hlen]) (Eg (by have:=ha;omega))) rfl) ?_;refine dq 200 (Fy Ag rfl rfl rfl rfl rfl (Yp hwa)) ?_;refine dx 201 (Cp Ag rfl rfl rfl rfl rfl rfl (by decide) rfl rfl rfl rfl rfl rfl) ?_;refine dx 202 (o_append Ag (n:=m.out.length) (m:=1) rfl rfl rfl rfl rfl rfl rfl rfl rfl (by simp[AR]) rfl rfl (Nat.zero_lt_succ _) (.lst _ _) (by intro cs h;simp[partVals]at h;subst h;rfl) (fun _ cs h=>by simp[partVals]at h;subst h;rfl) rfl (by simp[AR,partVals];have:=hm.out;omega) (by simp[AR,partVals];simp only[maxLen];have:=hm.out;omega)) ?_;refine wk 4 ?_;refine⟨[],trivial,rfl,?_⟩;rw[qy ho hou];exact HSub.put (HSub.put (HSub.put (HSub.put (HSub.none _) (by first | rfl | exact congrArg (fun n=>some (AObj.row false 9 [[.int .i64 b.words,F7 b.funcs,.str s,.int .i64 fuel,.ref 1 b.words.toNat 0 b.words.toNat,.ref 2 n 0 n,.int .i64 (m.read:Int),.int .i64 (m.steps:Int),.int .i64 m.fin]])) (by simp))) rfl) (by first | rfl | exact congrArg (fun es=>some (AObj.row true 1 es)) (by simp[AR,partVals];rfl))) rfl
 refine wk 6 ?_;refine asp 205 (fun hb17=>?_) fun hb17=>?_
 .
  refine act ?_;have ho:t.op=10:=by simpa using hb17
  have hcl:=ht.call ho;refine wk 4 ?_;refine ax 210 (Wj (hcall t.base hcl.1 hcl.2) [2,1,0] [(0,(.row false 9 [El b s fuel (call t.base m)])),(1,(.row true 1 (Bn ((call t.base m)).words))),(2,(.row true 1 (AR ((call t.base m)).out)))] rfl Tryz.func39 (by kernel_rfl) rfl rfl rfl ⟨⟨_,rfl,rfl⟩,⟨_,rfl,rfl⟩,⟨_,rfl,rfl⟩,trivial⟩ rfl (AJ rfl (AJ rfl (AJ rfl (BF _)))) ⟨⟨_,rfl,rfl,rfl⟩,⟨_,rfl,rfl,rfl⟩,⟨_,rfl,rfl,rfl⟩,trivial⟩ rfl) ?_;refine an ?_;refine⟨[],trivial,rfl,?_⟩;rw[lk ho];exact aI
 refine wk 2 ?_;exact absurd ht.op (by simp_all;omega)
theorem dU(b:Blocks)(s:ByteArray)(fuel:Int)(call:Int->Mach->Mach)(i:Int)(f:BFunc)(m:Mach)(hfu:fuel<=9223372036854775807)(hs:s.size<=9223372036854775807)(hbw:b.words<=1048576)(hf:b.funcs[i.toNat]?=some f)(hi:0<=i)(hone:f.one i b.words=true)
 (hfw: ∀x∈f.blocks,In x.ins) (hfl: ∀x∈f.blocks,x.ins.length<=maxLen)
 (hcall: ∀(j:Int) (m:Mach),0<=j->j<i->m.fin=0->m.good b.words.toNat->ACall Tryz.prog 39 [.ptr 0 1 0 0,.int .i64 j] (Ig hNew b s fuel m) (fun r h'=>r= .tup []/\HSub (Ig hNone b s fuel (call j m)) h'))
 (hcg: ∀i m,m.good b.words.toNat->(call i m).good b.words.toNat) (hcs: ∀i m,m.steps<=(call i m).steps) (hm:m.good b.words.toNat) (h0:m.fin=0):ACall Tryz.prog 39 [.ptr 0 1 0 0,.int .i64 i] (Ig hNew b s fuel m) (fun r h'=>r= .tup []/\HSub (Ig hNone b s fuel (mblk call s fuel f (fuel.toNat+1) 0 (List.replicate f.regs.toNat 0) m)) h'):=by
 have hsp:=CD hone;refine ACall.of_body (n:=76) Ag Tryz.func39 rfl rfl ?_;refine wk 8 ?_;refine aq 15 (Au Ag rfl rfl rfl rfl rfl rfl hi (UD hf) rfl) ?_;refine wk 1 ?_;refine ax 4 (EU Ag 3) ?_;refine wk 6 ?_;refine ax 19 (AB Ag (n:=f.regs.toNat) (m:=f.regs.toNat) 4 true rfl rfl rfl (by have:=hsp.1;omega) (by have:=hsp.1;omega) rfl rfl rfl rfl rfl (Nat.zero_lt_succ _) rfl (Nat.le_refl _) (by show 4*f.regs.toNat<=_;have:=hsp.2.1;omega) (by simp only[maxLen];have:=hsp.2.1;omega)) ?_;refine wk 7 ?_;refine Bi (γ:=FG) 5 (fun q=>⟨76,(Aa (Aa (Aa (Aa Ba 0 (.ptr 0 1 0 0)) 4 (.ptr 3 1 0 0)) 5 (.ref 4 f.regs.toNat 0 f.regs.toNat)) 6 (.int .i64 q.i)),(hput (hput (hput (hput (hput (BM 5) 0 (.row false 9 [El b s fuel q.m])) 1 (.row true 1 (Bn (q.m).words))) 2 (.row true 1 (AR (q.m).out))) 3 (.row false 2 [f.cells])) 4 (.row true 1 (Bn q.regs)))⟩) (fun q=>FInv call s fuel f b.words.toNat f.regs.toNat (mblk call s fuel f (fuel.toNat+1) 0 (List.replicate f.regs.toNat 0) m) q) (fun q=>q.g) ⟨0,List.replicate f.regs.toNat 0,m,fuel.toNat+1⟩ (Sub.mk' Ci tB) (FInv.first hm h0 hsp.2.2.1) (fun _=>Ah (Ah (Ah (Ah (Ah (fun b hb=>A9 hb) rfl) rfl) rfl) rfl) rfl) ?_
 intro q hF;refine wk 9 ?_;refine asp 24 (fun hb1=>?_) fun hb1=>?_
 .
  refine act ?_;obtain⟨k,hk⟩:=Ae (l:=f.blocks) (k:=q.i.toNat) (by have:=hF.i;omega);have hkm:=List.mem_of_getElem? hk;have hks:=hsp.2.2.2 k hkm;refine wk 7 ?_;refine aq 28 (Au Ag rfl rfl rfl rfl rfl rfl hF.i.1 (UD hk) rfl) ?_;refine wk 1 ?_;refine ax 7 (EU Ag 5) ?_;refine wk 8 ?_;refine Bi (γ:=IG) 6 (fun r=>⟨76,(Aa (Aa (Aa (Aa (Aa (Aa Ba 0 (.ptr 0 1 0 0)) 4 (.ptr 3 1 0 0)) 5 (.ref 4 f.regs.toNat 0 f.regs.toNat)) 6 (.int .i64 q.i)) 7 (.ptr 5 1 0 0)) 8 (.int .i64 (r.j:Int))),(hput (hput (hput (hput (hput (hput (BM 6) 0 (.row false 9 [El b s fuel r.m])) 1 (.row true 1 (Bn (r.m).words))) 2 (.row true 1 (AR (r.m).out))) 3 (.row false 2 [f.cells])) 4 (.row true 1 (Bn r.regs))) 5 (.row false 5 [k.cells]))⟩) (fun r=>IInv call s fuel k q b.words.toNat f.regs.toNat r) (fun r=>k.ins.length-r.j) ⟨0,q.regs,q.m⟩ (Sub.mk' Ci FF) hF.start (fun _=>Ah (Ah (Ah (Ah (Ah (Ah (fun b hb=>A9 hb) rfl) rfl) rfl) rfl) rfl) rfl) ?_
  intro r hI;refine wk 9 ?_;refine asp 34 (fun hb2=>?_) fun hb2=>?_
  .
   refine act ?_;have hjl:r.j<k.ins.length:=F9 hb2;obtain⟨u,hu⟩:=Ae hjl;have hum:=List.mem_of_getElem? hu;have hut:=KB (hks.2 u hum);have huw:=hfw k hkm u hum;refine wk 7 ?_;refine ax 38 (Wj (Xe b s fuel r.m hfu) [2,1,0] [(0,(.row false 9 [El b s fuel (Ax fuel r.m).2])),(1,(.row true 1 (Bn ((Ax fuel r.m).2).words))),(2,(.row true 1 (AR ((Ax fuel r.m).2).out)))] rfl Tryz.func52 (by kernel_rfl) rfl rfl rfl ⟨⟨_,rfl,rfl⟩,⟨_,rfl,rfl⟩,⟨_,rfl,rfl⟩,trivial⟩ rfl (AJ rfl (AJ rfl (AJ rfl (BF _)))) ⟨⟨_,rfl,rfl,rfl⟩,⟨_,rfl,rfl,rfl⟩,⟨_,rfl,rfl,rfl⟩,trivial⟩ rfl) ?_;refine wk 2 ?_;refine asp 39 (fun hb3=>?_) fun hb3=>?_
   .
    refine act ?_;have hst:(Ax fuel r.m).1=false:=by simpa using hb3
    refine GN ?_;refine⟨[],trivial,rfl,?_⟩;rw[show(mblk call s fuel f (fuel.toNat+1) 0 (List.replicate f.regs.toNat 0) m)=_ from qK hF hk hI hu hst];exact HSub.put (HSub.put (HSub.put (HSub.none _) rfl) rfl) rfl
   refine acf ?_;have hst:(Ax fuel r.m).1=true:=by simpa using hb3
   have hsf:(Ax fuel r.m).2.fin=0:=by rw[(Cd hst).2];exact hI.fin
   refine wk 7 ?_;refine aq 44 (Au Ag rfl rfl rfl rfl rfl rfl (Int.natCast_nonneg _) (AO (by assumption)) rfl) ?_;refine wk 2 ?_;refine ax 47 (Wj (gJ b s fuel call u r.regs (Ax fuel r.m).2 i.toNat f.regs.toNat hut hI.regs hI.len (E7 hI.good) hsf hbw hs huw (fun j h1 h2=>hcall j _ h1 (by omega) hsf (E7 hI.good))) [4,2,1,0] [(0,(.row false 9 [El b s fuel (mone call s u r.regs (Ax fuel r.m).2).2])),(1,(.row true 1 (Bn ((mone call s u r.regs (Ax fuel r.m).2).2).words))),(2,(.row true 1 (AR ((mone call s u r.regs (Ax fuel r.m).2).2).out))),(4,(.row true 1 (Bn (mone call s u r.regs (Ax fuel r.m).2).1)))] rfl Tryz.func53 (by kernel_rfl) rfl rfl rfl ⟨⟨_,rfl,rfl⟩,⟨_,rfl,rfl⟩,⟨_,rfl,rfl⟩,⟨_,rfl,rfl⟩,trivial⟩ rfl (AJ rfl (AJ rfl (AJ rfl (AJ rfl (BF _))))) ⟨⟨_,rfl,rfl,rfl⟩,⟨_,rfl,rfl,rfl⟩,⟨_,rfl,rfl,rfl⟩,⟨_,rfl,rfl,rfl⟩,trivial⟩ rfl) ?_;refine wk 9 ?_;refine asp 52 (fun hb4=>?_) fun hb4=>?_
   .
    refine act ?_;have hnz:=hb4;refine GN ?_;refine⟨[],trivial,rfl,?_⟩;rw[show(mblk call s fuel f (fuel.toNat+1) 0 (List.replicate f.regs.toNat 0) m)=_ from qJ hF hk hI hu hst hnz];exact HSub.put (HSub.put (HSub.put (HSub.none _) rfl) rfl) rfl
   refine acf ?_;have hnz:=hb4;refine wk 3 ?_;refine aq 36 (Bk rfl rfl hjl (hfl k hkm)) ?_;refine wk 2 ?_;exact⟨⟨r.j+1,(mone call s u r.regs (Ax fuel r.m).2).1,(mone call s u r.regs (Ax fuel r.m).2).2⟩,Drop.mk' Td Rw,(hI.next hcg hcs hu huw hst hnz),(by show k.ins.length-(r.j+1)<k.ins.length-r.j;omega)⟩
  refine acf ?_;have hge:=Gc hb2;refine wk 5 ?_;refine ax 54 (Wj (Xe b s fuel r.m hfu) [2,1,0] [(0,(.row false 9 [El b s fuel (Ax fuel r.m).2])),(1,(.row true 1 (Bn ((Ax fuel r.m).2).words))),(2,(.row true 1 (AR ((Ax fuel r.m).2).out)))] rfl Tryz.func52 (by kernel_rfl) rfl rfl rfl ⟨⟨_,rfl,rfl⟩,⟨_,rfl,rfl⟩,⟨_,rfl,rfl⟩,trivial⟩ rfl (AJ rfl (AJ rfl (AJ rfl (BF _)))) ⟨⟨_,rfl,rfl,rfl⟩,⟨_,rfl,rfl,rfl⟩,⟨_,rfl,rfl,rfl⟩,trivial⟩ rfl) ?_;refine wk 2 ?_;refine EY 56 (fun hb5=>?_) fun hb5=>?_
  .
   refine wk 7 ?_;exact mg
  have hst:(Ax fuel r.m).1=true:=by simpa using hb5
  refine wk 5 ?_;refine asp 60 (fun hb6=>?_) fun hb6=>?_
  .
   refine wk 2 ?_;exact mg
  refine wk 14 ?_;refine EY 66 (fun hb7=>?_) fun hb7=>?_
  .
   have hv:=lC hks.1 hb7;refine wk 3 ?_;refine aq 70 (Ab Ag rfl rfl rfl rfl rfl rfl rfl (by rw[Ap,hI.len]) rfl hv.1 (by have:=hv.2;omega)) ?_;refine aq 71 (At Ag rfl rfl rfl (.ptr _ _ _ _ _ _ _ _ rfl (by rw[Ap,hI.len]) (Eg (by have:=hv;have:=hI.len;omega))) rfl) ?_;refine wk 3 ?_;refine asp 73 (fun hb8=>?_) fun hb8=>?_
   .
    refine wk 6 ?_;exact jO
   refine wk 2 ?_;exact jO
  refine wk 10 ?_;exact jO
 refine acf ?_;have hbad:=hb1;refine wk 1 ?_;exact absurd hF.fin (by simpa using hbad)
theorem dV(b:Blocks)(s:ByteArray)(fuel:Int)(hfu:fuel<=9223372036854775807)(hs:s.size<=9223372036854775807)(hb:b.right=true)(hbw:b.insW)(hbl: ∀f∈b.funcs,∀x∈f.blocks,x.ins.length<=maxLen):
 ∀(n:Nat) (i:Int) (m:Mach),0<=i->i<n->i<b.funcs.length->m.fin=0->m.good b.words.toNat->ACall Tryz.prog 39 [.ptr 0 1 0 0,.int .i64 i] (Ig hNew b s fuel m) (fun r h'=>r= .tup []/\HSub (Ig hNone b s fuel (F5 b s fuel n i m)) h')
 | 0,i,m,h1,h2,_,_,_=>absurd h2 (by omega)
 | n+1,i,m,h1,h2,h3,h4,h5=>by
  obtain⟨f,hf⟩:=Ae (l:=b.funcs) (k:=i.toNat) (by omega);have hr:=E4 hb;have hfm:=List.mem_of_getElem? hf;have hone:f.one i b.words=true:=by
   have:=hr.2.2.2 i.toNat f hf;rwa[Int.toNat_of_nonneg h1]at this
  have key:=dU b s fuel (F5 b s fuel n) i f m hfu hs hr.2.1 hf h1 hone (hbw f hfm) (hbl f hfm)
   (fun j m' j1 j2 j3 j4=>dV b s fuel hfu hs hb hbw hbl n j m' j1 (by omega) (by omega) j3 j4) (fun j m' hg=>QC hbw n j m' hg) (fun j m'=>E8 n j m') h5 h4
  have e:F5 b s fuel (n+1) i m=mblk (F5 b s fuel n) s fuel f (fuel.toNat+1) 0 (List.replicate f.regs.toNat 0) m:=by
   rw[F5,hf]
  rw[e];exact key
theorem bG(b:Blocks)(s:ByteArray)(fuel:Int)(hfu:fuel<=9223372036854775807)(hs:s.size<=9223372036854775807)(hb:b.right=true)(hbw:b.insW)(hbl: ∀f∈b.funcs,∀x∈f.blocks,x.ins.length<=maxLen):APure Tryz.prog 26 [.agg b.cells,.str s,.int .i64 fuel] (fun r=>r= .agg (bM (Ha b s fuel))):=by
 have hr:=E4 hb;have hne:0<b.funcs.length:=List.length_pos_iff.2 hr.2.2.1;refine APure.of_body (n:=51) Ag Tryz.func26 rfl rfl ?_;refine asq ?_;refine Je 0 rfl (fun H ι v=>NV) (fun hfit=>?_);refine Ya ?_;refine ax 3 (GW 2 3) ?_;refine ax 6 (EU Ag 4) ?_;refine wk 9 ?_;refine asp 11 (fun hb1=>?_) fun hb1=>?_
 .
  refine wk 7 ?_;exact absurd hne (by have h:=hb1;simp[F7]at h;simp[h])
 refine wk 3 ?_;refine AGo.join (γ:=Unit) (fun _u=>⟨51,(Aa (Aa (Aa (Aa (Aa Ba 0 (.agg b.cells)) 1 (.str s)) 3 (.ptr 3 1 0 0)) 6 (.ptr 4 1 0 0)) 2 (.int .i64 (FB fuel))),(hput (hput (hput (hput (hput (BM 5) 3 (.row false 2 [b.cells])) 4 (.row false 3 [[.int .i64 0,.str .empty,.int .i64 0]])) 0 .free) 1 .free) 2 .free)⟩) (fun _u=>True) ?_ ?_
 .
  refine wk 5 ?_;refine asp 14 (fun hb2=>?_) fun hb2=>?_
  .
   refine wk 4 ?_;exact my
  refine wk 2 ?_;exact my
 intro _u _;refine asq ?_;have hfu0:FB fuel<=9223372036854775807:=by unfold FB;cases decide (fuel<0)<;>simp<;>omega
 have m0_good:(m0 b).good b.words.toNat:=⟨by simp[m0],Pq _,by simp[m0]⟩;refine wk 6 ?_;refine dx 20 (AB Ag (n:=b.words.toNat) (m:=b.words.toNat) 1 true rfl rfl rfl (by have:=hr.1;omega) (by have:=hr.1;omega) rfl rfl rfl rfl rfl (Nat.zero_lt_succ _) rfl (Nat.le_refl _) (by show 4*b.words.toNat<=_;have:=hr.2.1;omega) (by simp only[maxLen];have:=hr.2.1;omega)) ?_;refine wk 1 ?_;refine dx 22 (GW 9 0) ?_;refine wk 3 ?_;refine AGo.ghost (.dryCell 0 0 5 2 1 true rfl rfl rfl rfl rfl (by decide)) ?_;refine AGo.sub (s':=⟨51,(Aa (Aa (Aa (Aa (Aa Ba 0 (.agg b.cells)) 1 (.str s)) 3 (.ptr 3 1 0 0)) 6 (.ptr 4 1 0 0)) 7 (.ptr 0 1 0 0)),(hput (hput (hput (hput (hput hNone 0 (.row false 9 [El b s (FB fuel) (m0 b)])) 1 (.row true 1 (Bn ((m0 b)).words))) 2 (.row true 1 (AR ((m0 b)).out))) 3 (.row false 2 [b.cells])) 4 (.row false 3 [[.int .i64 0,.str .empty,.int .i64 0]]))⟩) (Sub.mk' Ci tB) ?_;refine Ya ?_
 have hmx:=hfit.1;refine wk 4 ?_;refine aq 27 (A2 (r:=.int .i64 ((b.funcs.length:Int)-1)) rfl rfl rfl (by simp only[AM,Bw,isShift,cond_false,if_true];rw[List.length_map,BJ (by omega) (by simp only[maxLen]at hmx;omega)])) ?_;refine ax 28 (Wj (dV b s (FB fuel) hfu0 hs hb hbw hbl b.funcs.length ((b.funcs.length:Int)-1) (m0 b) (by omega) (by omega) (by omega) rfl m0_good) [2,1,0] [(0,(.row false 9 [El b s (FB fuel) (F5 b s (FB fuel) b.funcs.length ((b.funcs.length:Int)-1) (m0 b))])),(1,(.row true 1 (Bn ((F5 b s (FB fuel) b.funcs.length ((b.funcs.length:Int)-1) (m0 b))).words))),(2,(.row true 1 (AR ((F5 b s (FB fuel) b.funcs.length ((b.funcs.length:Int)-1) (m0 b))).out)))] rfl Tryz.func39 (by kernel_rfl) rfl rfl rfl ⟨⟨_,rfl,rfl⟩,⟨_,rfl,rfl⟩,⟨_,rfl,rfl⟩,trivial⟩ rfl (AJ rfl (AJ rfl (AJ rfl (BF _)))) ⟨⟨_,rfl,rfl,rfl⟩,⟨_,rfl,rfl,rfl⟩,⟨_,rfl,rfl,rfl⟩,trivial⟩ rfl) ?_
 refine wk 2 ?_;refine AGo.join (γ:=Mach) (fun m=>⟨51,(Aa (Aa (Aa (Aa (Aa Ba 0 (.agg b.cells)) 1 (.str s)) 3 (.ptr 3 1 0 0)) 6 (.ptr 4 1 0 0)) 7 (.ptr 0 1 0 0)),(hput (hput (hput (hput (hput hNone 0 (.row false 9 [El b s (FB fuel) m])) 1 (.row true 1 (Bn (m).words))) 2 (.row true 1 (AR (m).out))) 3 (.row false 2 [b.cells])) 4 (.row false 3 [[.int .i64 0,.str .empty,.int .i64 0]]))⟩) (fun m=>m=Ha b s fuel) ?_ ?_
 .
  refine wk 8 ?_;refine asp 33 (fun hb3=>?_) fun hb3=>?_
  .
   refine wk 7 ?_;exact⟨{(F5 b s (FB fuel) b.funcs.length ((b.funcs.length:Int)-1) (m0 b))with fin:=1},Sub.mk' Ci FF,(by simp[Ha, *])⟩
  refine wk 2 ?_;exact⟨(F5 b s (FB fuel) b.funcs.length ((b.funcs.length:Int)-1) (m0 b)),Sub.mk' Ci FF,(by simp[Ha, *])⟩
 intro m hm;refine asq ?_;refine AGo.ghost (.freezeCell 0 0 5 2 rfl rfl rfl rfl (by simp[AR]) (by decide)) ?_;refine wk 9 ?_;refine dq 45 (V7 (l:=m.out) Ag rfl (by show some (AV.lst false _)=_;rw[List.drop_zero,List.take_of_length_le (by simp[AR])]) rfl rfl rfl rfl rfl rfl) ?_;refine wk 8 ?_;refine⟨[_],⟨⟨_,_,_,_,rfl,rfl,.ptr _ _ _ _ _ _ _ _ rfl rfl rfl,rfl⟩,trivial⟩,?_,rfl⟩;subst hm;rfl
theorem f9:APure Tryz.prog 30 [] (fun r=>r= .agg (Xc tinyA).cells):=
 DE (ct:=gT) (fz:=Zz) (lg:=[]) Ag Qu (by kernel_rfl) 1000 (by kernel_rfl) (Fa _)
theorem RH:FV Tryz.prog Iu:=Fb f9 (Fa _)
theorem ff(ho:APure Tryz.prog 15 VG (fun r=>r=Xb))(hv:FV Tryz.prog ko):APure Tryz.prog 14 [] (fun r=>r= .bool true):=
 DE (ct:=t8) (fz:=Zz) (lg:=Iu++(ko++(Iu++(Iu++((15,VG,Xb)::Iu))))) Ag Qu (by kernel_rfl) 1000 (by kernel_rfl)
  (JC RH (JC hv (JC RH (JC RH (Fb ho RH)))))
theorem VF:APure Tryz.prog 97 [.agg tinyBl.cells,.int .i64 3] (fun r=>r=RD):=by
 have hT: ∀t∈tinyBl.ins,t.inR (3:Int):=fun t ht=>by
  simp only[tinyBl,List.mem_cons,List.not_mem_nil,or_false]at ht;rcases ht with rfl | rfl<;>exact⟨by decide,by decide⟩
 have h:=Tk tinyBl 3 (by decide) (by decide) hT (fun h=>absurd h (by decide));have e:AV.tup [.lst false (Bt 3 (JV tinyBl)),.lst false (Bt 3 (fun v=>CO v tinyBl.ins))]=RD:=by rfl
 rw[e]at h;exact PU rfl h
theorem ga:APure Tryz.prog 15 VG (fun r=>r=Xb):=
 DE (ct:=tr) (fz:=Zz) (lg:=[(97,[.agg tinyBl.cells,.int .i64 3],RD)]) Ag Qu (by kernel_rfl) 1000 (by kernel_rfl) (Fb VF (Fa _))
theorem f0:FV Tryz.prog ko:=
 Fb (DE (ct:=gT) (fz:=Zz) (lg:=[]) Ag Qu (by kernel_rfl) 1000 (by kernel_rfl) (Fa _))<|
 Fb (DE (ct:=gT) (fz:=Zz) (lg:=[]) Ag Qu (by kernel_rfl) 1000 (by kernel_rfl) (Fa _))<|
 Fb (DE (ct:=gT) (fz:=Zz) (lg:=[]) Ag Qu (by kernel_rfl) 1000 (by kernel_rfl) (Fa _)) (Fa _)
set_option maxRecDepth 100000
theorem MU(b:Blocks)(ks:List Int)(fu:Int)(hL:b.Lim)(hW:b.insW)(hfu:0<=fu/\fu<=255):APure Tryz.prog 10 [.agg b.cells,AZ ks,.int .u8 fu] (fun r=>r= .bool true):=by
 have hawake:=ff ga f0;refine APure.of_body (n:=79) Ag Tryz.func10 rfl rfl ?_;refine wk 40 ?_;refine ax 3 (GW 2 0) ?_;refine wk 40 ?_;refine ax 13 (DX Tryz.func13 (VM b hL)) ?_;refine wk 2 ?_;refine EY 15 (fun hb1=>?_) fun hb1=>?_
 . refine wk 40 ?_;exact aN
 have hsm:GR b=true:=by simpa using hb1
 refine wk 5 ?_;refine EY 20 (fun hb2=>?_) fun hb2=>?_
 . refine wk 40 ?_;exact aN
 have hkl:ks.length<=6:=by have:=hb2;simp[AZ]at this;omega
 refine wk 1 ?_;refine ax 22 (DX Tryz.func16 (Wg ks (by omega))) ?_;refine wk 40 ?_;refine asp 24 (fun hb4=>?_) fun hb4=>?_
 . refine wk 40 ?_;exact aN
 have hps:ks.all kind35=true:=by have:=hb4;simp at this;exact List.all_eq_true.2 this.1
 have hall:=All35.of hsm hW;have hopt:=hall.opt ks;refine wk 40 ?_;refine ax 29 (DX Tryz.func15 (la b hall ks (by omega) (fun k hk=>List.all_eq_true.1 hps k hk))) ?_;refine wk 40 ?_;refine ax 7 (EU Ag 1) ?_;refine wk 40 ?_;rw[BJ (by omega) (by omega)];refine dx 36 (DX Tryz.func26 (bG b ⟨#[105,110,112,117,116]⟩ fu (by omega) (by decide) hall.r hW (fun f hf x hx=>by have:=Rm hf hx;have:=hall.count;simp only[maxLen];omega))) ?_;refine wk 40 ?_;rw[BJ (by omega) (by omega)];refine dx 40 (DX Tryz.func26 (bG (Hs b ks) ⟨#[105,110,112,117,116]⟩ fu (by omega) (by decide) hopt.r hopt.insW (fun f hf x hx=>by have:=Rm hf hx;have:=hopt.count;simp only[maxLen];omega))) ?_;refine dx 10 (EU Ag 2) ?_;refine dx 11 (EU Ag 3) ?_;refine wk 40 ?_;have hrun:=Xq ⟨#[105,110,112,117,116]⟩ fu ks b hall;generalize Ha b ⟨#[105,110,112,117,116]⟩ fu=X at hrun |-;generalize Ha (Hs b ks) ⟨#[105,110,112,117,116]⟩ fu=Y at hrun |-
 refine dx 41 (DX Tryz.func14 hawake) ?_;refine wk 40 ?_;have hless:=hall.less ks;refine dx 48 (DX Tryz.func27 (NP (Hs b ks) (Nat.le_trans hopt.count (by decide)))) ?_;refine wk 40 ?_;refine dx 50 (DX Tryz.func27 (NP b (Nat.le_trans hall.count (by decide)))) ?_;refine wk 3 ?_;refine DOps.split 53 rfl (fun hc1=>?_) (fun hc1=>absurd hc1 (by simp;omega));refine wk 4 ?_;refine DOps.split 57 rfl (fun hc2=>?_) (fun hc2=>?_)
 . refine wk 40 ?_;exact⟨[_],⟨rfl,trivial⟩,rfl,rfl⟩
 have h5:X.fin≠5:=by have:=hc2;simpa using this
 obtain⟨e1,e2,e3⟩:=hrun.resolve_left h5;refine wk 6 ?_;refine DOps.split 63 rfl (fun hc3=>?_) (fun hc3=>absurd hc3 (by simp[e1]));refine wk 7 ?_;refine DOps.split 70 rfl (fun hc4=>?_) (fun hc4=>absurd hc4 (by simp[e2]));refine wk 40 ?_;refine⟨[_],⟨rfl,trivial⟩,?_,rfl⟩;show AV.bool _=AV.bool true;congr 1
 simp
 omega
theorem LL(b:Blocks)(ks:List Int)(fu:Int)(hb:b.Lim/\b.insW)(hk:ks.length<=1048576)(hf:0<=fu/\fu<=255):APure Tryz.prog 10 [.agg b.cells,AZ ks,.int .u8 fu] (fun r=>r= .bool true):=MU b ks fu hb.1 hb.2 hf
end Go.Proofs.YtbbfelelocccmaaGreat.Sv
namespace Go.Proofs.YtbbfelelocccmaaGreat
open Go.ChangeShapes Go.WideShapes Go.ChangeAt Go.RowKit Sv
set_option linter.unusedVariables false

set_option maxRecDepth 100000 in
theorem optimizeLess_lifted(os:Os)(started:os.Started)(H:Type)(enc:TypeId×Value->H)(F:Stop.Interp):
 ReturnsInHanded {} Tryz.checked os 10 .any ((Rows.OpenSpec.upto Rows.optimizeLessSpec).pre6 enc Tryz.prog Tryz.f10 Rows.optimizeLessUptoRow.domain false) (((Rows.OpenSpec.upto Rows.optimizeLessSpec).at F).post enc Tryz.prog Tryz.f10 false true false false):=by
 refine returnsInHanded_of_cond_sized (C:=Tryz.checked) (s:=Rows.OpenSpec.upto Rows.optimizeLessSpec) (k:=Rows.uptoSmall) rfl own' started (by kernel_rfl) Tryz.func10
  (OpenSpec.witness (enc:=enc) (C:=Tryz.checked) (s:=Rows.OpenSpec.upto Rows.optimizeLessSpec) (k:=Rows.uptoSmall) rfl false ⟨#[],#[.agg #[.int .i64 0,.slice none 0 0],.slice none 0 0,.int .u8 0],[]⟩ 8 (by kernel_rfl) (by kernel_rfl) (by kernel_rfl) (x:=([.agg [.lit (.int .i64 0),.nil],.nil,.lit (.int .u8 0)],[],[])) (by kernel_rfl) rfl (by kernel_rfl)) ?_
 intro W base args ds gs before hval0 hW hcnd hk hwt0 hh;have hval: ∀(j:Nat) t v,Tryz.f10.params[j]?=some t->args[j]?=some v->Value.okWide Tryz.prog W .any base t v:=hval0
 have hW':=hW;obtain⟨p,q,hA0,hV,rfl,hfz,hnd⟩:=hW;have hA:DataW.TrodAll enc Tryz.prog W 0 (fun _=>true) true Tryz.f10.params.toList args.toList ds p:=hA0;have hwt:(DataW.weightsEach Tryz.prog (Tryz.f10.params.toList++(Rows.OpenSpec.upto Rows.optimizeLessSpec).bare.plain.varTypes Tryz.prog) (ds++gs)).all (· <=reachBytes)=true:=hwt0;rw[Tryz.params10]at hA hval hwt;obtain⟨v0,vs0,d0,ds0,p0,q0,hargs,rfl,rfl,h0,r0⟩:=trodAll_cons hA;obtain⟨v1,vs1,d1,ds1,p1,q1,rfl,rfl,rfl,h1,r1⟩:=trodAll_cons r0;obtain⟨v2,vs2,d2,ds2,p2,q2,rfl,rfl,rfl,h2,r2⟩:=trodAll_cons r1;obtain⟨rfl,rfl,rfl⟩:=trodAll_nil r2;obtain rfl:args= #[v0,v1,v2]:=by cases args;simp_all
 obtain⟨rfl,rfl⟩:=trodVars_none hV;obtain⟨x0,e0,g0⟩:=arg_oneR h0 (weightsEach_get hwt (i:=0) rfl rfl) decBlocksR;have u0:=upto_get hk (i:=0) rfl;obtain⟨x1,e1,g1⟩:=arg_oneR h1 (weightsEach_get hwt (i:=1) rfl rfl) decIntsR;have u1:=upto_get hk (i:=1) rfl;obtain⟨x2,rfl,rfl,rfl,w2⟩:=open_int Tryz.underlying5 (hval 2 5 v2 rfl rfl) h2;exact Zs laidOut' rfl (by kernel_rfl) rfl bool' rfl rfl rfl hW' (.cons (e0.val (Wi Ag rfl rfl (hval 0 24 v0 rfl rfl))) (.cons (e1.val1 (okWide_cell Ag rfl rfl (hval 1 _ v1 rfl rfl))) (.cons (.int _ _ _) .nil))) (LL x0 x1 x2 (blocksI_row g0 u0) (ints23_row g1 u1) (ng w2)) (fun g l h=>by cases h)

theorem optimizeLess_holds:Rows.OptimizeLessUptoSaid:=
 OpenClaim.holds_of_cond 10 Tryz.f10 rfl rfl rfl rfl rfl rfl rfl ⟨rfl,rfl,rfl,rfl,rfl⟩ rfl rfl rfl rfl rfl (by kernel_rfl) Tryz.func10 (by kernel_rfl)
  (of_decide_eq_true (by kernel_rfl)) (by unfold Func.isWrapper;first |(rw[if_pos (by decide+kernel)];kernel_rfl) |(rw[if_neg (by decide+kernel)];exact⟨rfl,rfl⟩))
  (fun os started H enc _ F=>optimizeLess_lifted os started H enc F)

end Go.Proofs.YtbbfelelocccmaaGreat
