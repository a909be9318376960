/-
  WHAT PACKAGE VARIABLES HOLD (only those of numbers and strings): own work, over no program.
-/
import Derived.Calls
import Derived.Orders
import Derived.Laws.Sem
import Derived.Laws.World
import Derived.Laws.Cells
import Derived.Laws.Rows
import Derived.Laws.AppendOwn
import Derived.Laws.MakeOwn
import Derived.Laws.Slices
import Derived.Laws.Small
import Derived.Laws.Strings
import Derived.Laws.StructEq
import Derived.WalkKit
set_option linter.unusedVariables false
set_option linter.unusedSimpArgs false
set_option maxRecDepth 100000
set_option maxHeartbeats 2000000
namespace Go.Proofs.YtijlphdockhgjaaGreatDoor.Sv
open Go
theorem DQ{p:Prop}(h:p:=by(try simp only[AA]);repeat(first|assumption|exact Au _ _ _|(refine(Au _ _ _).trans (congrArg (fun es=>some (rt 1 es)) ?_);first|exact Vp _ _ _|exact cw hwa)|(refine(Au _ _ _).trans (congrArg (fun n:Nat=>some (rf 6 [[x0,.ref 1 W 0 W,x2,.str s,.int .i64 (m.read:Int),.ref 3 n 0 n]])) ?_);simp;done)|refine BG (by first|rfl|assumption|exact AC (by omega)) ?_)):p:=h
theorem vI{p:Prop}(h:p:=by repeat(first|exact HSub.refl _|exact HSub.none _|exact Bb _|exact A5 (by first|decide|omega|(dsimp only;omega))|refine HSub.put ?_ (by first|rfl|(rw[Nv hge];rfl))|refine Ba ?_ (by first|decide|omega|(dsimp only;omega))|refine Bm ?_ (by decide))):p:=h
theorem ln{p:Prop}(h:p:=by repeat(first|exact EDropK.new _ _|refine EDropK.put ?_ (by first|rfl|exact congrArg (fun z=>some (AV.int .i64 z)) hz|exact congrArg (fun n:Nat=>some (AV.int .i64 (n:Int))) hst.symm|exact bI|exact congrArg (fun n=>some (AV.ref 7 r.es.length 0 n)) (by simp)) (by first|rfl))):p:=h
theorem FH{p:Prop}(h:p:=by repeat(first|exact HSub.refl _|exact HSub.none _|exact Bb _|exact A5 (by first|decide|omega|(dsimp only;omega))|refine HSub.put ?_ (by rfl)|refine Ba ?_ (by first|decide|omega|(dsimp only;omega))|refine Bm ?_ (by decide))):p:=h
theorem TA{p:Prop}(h:p:=by(try simp only[AA]);repeat(first|assumption|exact Au _ _ _|refine BG (by first|rfl|assumption|exact AC (by omega)) ?_|refine Iq (by omega) ?_|refine Hg (by omega) ?_|rfl)):p:=h
theorem ES{p:Prop}(h:p:=by(try simp only[AA]);repeat(first|assumption|exact Au _ _ _|refine BG (by first|rfl|exact AC (by omega)) ?_|refine Iq (by omega) ?_|refine Hg (by omega) ?_|rfl)):p:=h
theorem KQ{p:Prop}(h:p:=by repeat(first|exact HDrop.none _ _|exact HDrop.tail _ _|refine HDrop.put ?_ (by rfl) rfl (by first|rfl|exact NI _ _|exact Nz _|exact ND _ _ rfl rfl|exact Np _ _ _ rfl rfl rfl))):p:=h
theorem yx{p:Prop}(h:p:=by rw[<-XS];(try simp only[AA]);repeat(first|assumption|exact Au _ _ _|refine BG (by first|rfl|assumption|exact AC (by omega)) ?_)):p:=h
theorem yw{p:Prop}(h:p:=by rw[<-hts];(try simp only[AA]);repeat(first|assumption|exact Au _ _ _|refine BG (by first|rfl|assumption|exact AC (by omega)) ?_)):p:=h
theorem yv{p:Prop}(h:p:=by rw[htt];(try simp only[AA]);repeat(first|assumption|exact Au _ _ _|refine BG (by first|rfl|assumption|exact AC (by omega)) ?_)):p:=h
theorem AI{p:Prop}(h:p:=by(try simp only[AA]);repeat(first|assumption|exact Au _ _ _|refine BG (by first|rfl|assumption|exact AC (by omega)) ?_)):p:=h
theorem DP{p:Prop}(h:p:=by repeat(first|exact ESub.new _|refine ESub.put ?_ (by first|rfl|exact congrArg (fun(n:Nat)=>some (AV.int .i64 (n:Int))) (by simp)))):p:=h
theorem DO{p:Prop}(h:p:=by repeat(first|exact EDrop.new _ _|refine EDrop.put ?_ (by rfl) (by first|rfl|exact DV _ rfl|exact Hx _ rfl))):p:=h
theorem lz{p:Prop}(h:p:=by intro e w4 he;cases e<;>first|exact he|exact hpost _ _ _ he|(obtain⟨a3,w5,hp3⟩:=he;exact⟨a3,w5,hpost _ _ _ hp3⟩)):p:=h
theorem ly{p:Prop}(h:p:=by intro c q hc hc2 hq;obtain⟨q1,q2⟩:=QY hq;simp only[AA,Ax _ _ q1,Ax _ _ hc,Ax _ _ hc2,q2]):p:=h
theorem As{p:Prop}(h:p:=by first|rfl|exact NI _ _|exact Nz _|exact ND _ _ rfl rfl|exact Np _ _ _ rfl rfl rfl):p:=h
theorem bh{p:Prop}(h:p:=by(try simp only[AA]);repeat(first|exact Mo _ _ _|refine BG (by exact AC (by omega)) ?_)):p:=h
theorem lx{p:Prop}(h:p:=by intro i v hv hw;have:=h (i+1) v (by simpa using hv) hw;rwa[Nat.add_right_comm k 1 i,Nat.add_assoc k i 1]):p:=h
theorem IA{p:Prop}(h:p:=by intro c q h1 h2 h3 h4 hq;simp only[AA,Ax _ _ h1,Ax _ _ h2,Ax _ _ h3,Ax _ _ h4,hq]):p:=h
theorem bg{p:Prop}(h:p:=by repeat(first|exact NoMap.none|exact NoMap.new|refine NoMap.put ?_ _ rfl|refine aG ?_ _)):p:=h
theorem lw{p:Prop}(h:p:=by intro c q hc hq;obtain⟨q1,q2⟩:=QY hq;simp only[AA,Ax _ _ q1,Ax _ _ hc,q2]):p:=h
theorem lv{p:Prop}(h:p:=by intro i hi;have:=hL (i+1) (by simp;omega);rwa[Nat.add_right_comm k 1 i,Nat.add_assoc k i 1]):p:=h
theorem lu{p:Prop}(h:p:=by simp only[AM,Bf,isShift,cond_false,if_true];rw[B4 (by omega) (by omega)]):p:=h
theorem Iz{p:Prop}(h:p:=by exact AJ Am rfl rfl rfl rfl rfl rfl (Int.natCast_nonneg _) (AG (by assumption)) rfl):p:=h
theorem lq{p:Prop}(h:p:=by simp only[decide_eq_false_iff_not,decide_eq_true_eq,List.length_map]at*;omega):p:=h
theorem lp{p:Prop}(h:p:=by simp only[AM,Bf,isShift,cond_true,if_neg (show ¬b<0 by omega)]):p:=h
theorem CJ{p:Prop}(h:p:=by repeat(first|exact fun b hb=>SX hb|refine Ak ?_ rfl)):p:=h
theorem Xd{p:Prop}(h:p:=by intro x e;cases e;exact .tup _ _ _ rfl (fun j x v h=>by simp at h)):p:=h
theorem Iy{p:Prop}(h:p:=by exact jb Am rfl rfl rfl rfl rfl rfl (by decide) rfl rfl rfl rfl rfl rfl):p:=h
theorem bf{p:Prop}(h:p:=by show _=some (Fe (A8 (Bi w.vals t.d _)));rw[Xt];rfl):p:=h
theorem Fc{p:Prop}(h:p:=by repeat(first|exact ESub.new _|refine ESub.put ?_ (by rfl))):p:=h
theorem C6{p:Prop}(h:p:=by repeat(first|exact Zn _|refine V6 rfl ?_)):p:=h
theorem bd{p:Prop}(h:p:=by rcases ho with ho|ho<;>rw[ho]<;>simp[Op.operands]):p:=h
theorem RP{p:Prop}(h:p:=by exact Ku Am rfl rfl rfl rfl rfl rfl (by decide) rfl rfl):p:=h
theorem aZ{p:Prop}(h:p:=by rw[Nat.zero_add,Int.toNat_natCast];exact LC hj):p:=h
theorem g8{p:Prop}(h:p:=by rw[Array.toList_push,List.map_append];exact r6.snoc):p:=h
theorem gZ{p:Prop}(h:p:=by rw[h.len];exact(List.getElem?_eq_some_iff.1 hi).1):p:=h
theorem US{p:Prop}(h:p:=by first|exact fun _=>rfl|(intro h;cases h)):p:=h
theorem aY{p:Prop}(h:p:=by rw[List.length_map];simp only[maxLen];omega):p:=h
theorem UR{p:Prop}(h:p:=by have h1:=hxd.2.2.1;have h0:=hxd.1;omega):p:=h
theorem FJ{p:Prop}(h:p:=by first|decide|omega|(dsimp only;omega)):p:=h
theorem gY{p:Prop}(h:p:=by rw[List.length_map];show _*48<=_;omega):p:=h
theorem gX{p:Prop}(h:p:=by simp_all[Tac.rest,FE,Dd]<;>omega):p:=h
theorem Fv{p:Prop}(h:p:=by rw[ho];simp[Op.operands,Call.operands]):p:=h
theorem aX{p:Prop}(h:p:=by intro h2;rw[hb]at h2;cases h2):p:=h
theorem PM{p:Prop}(h:p:=by have:=ha;have:=hm.len;omega):p:=h
theorem UQ{p:Prop}(h:p:=by exact AC (by omega)):p:=h
theorem M4{p:Prop}(h:p:=by rw[beq_eq_false_iff_ne];omega):p:=h
theorem Xc{p:Prop}(h:p:=by rw[List.length_take];omega):p:=h
theorem aW{p:Prop}(h:p:=by rw[IntKind.wrap_u64];omega):p:=h
theorem Bg{p:Prop}(h:p:=by rw[ho];simp[Op.operands]):p:=h
theorem Xb{p:Prop}(h:p:=by rw[List.length_map];omega):p:=h
theorem UP{p:Prop}(h:p:=by rw[EG hf];exact hr):p:=h
theorem GM{p:Prop}(h:p:=by simp only[maxLen];omega):p:=h
theorem PL{p:Prop}(h:p:=by rw[C0,hm.len]):p:=h
theorem Xa{p:Prop}(h:p:=by intro j x v h;simp at h):p:=h
theorem W9{p:Prop}(h:p:=by exact iW Am rfl rfl rfl rfl):p:=h
theorem DN{p:Prop}(h:p:=by rw[C0,hlen]):p:=h
theorem RM{p:Prop}(h:p:=by rw[hcl.1];exact hlt):p:=h
theorem UO{p:Prop}(h:p:=by simp[use1,use2,ho]):p:=h
theorem W8{p:Prop}(h:p:=by intro x ex;cases ex):p:=h
theorem M3{p:Prop}(h:p:=by rw[List.length_map]):p:=h
theorem UN{p:Prop}(h:p:=by have:=hd.2;omega):p:=h
theorem PK{p:Prop}(h:p:=by have:=ha.2;omega):p:=h
theorem PJ{p:Prop}(h:p:=by rw[hd];exact hr):p:=h
theorem UM{p:Prop}(h:p:=by simp[setsOp,ho]):p:=h
theorem Fu{p:Prop}(h:p:=by intro h;cases h):p:=h
theorem JH{p:Prop}(h:p:=by intro e;cases e):p:=h
theorem ED{p:Prop}(h:p:=by intro h;cases h):p:=h
theorem UL{p:Prop}(h:p:=by rw[hl];decide):p:=h
theorem Lf{p:Prop}(h:p:=by simpa using h2):p:=h
theorem Ld{p:Prop}(h:p:=by simpa using h1):p:=h
theorem PI{p:Prop}(h:p:=by simpa using h):p:=h
theorem CH{p:Prop}(h:p:=by rw[ho];rfl):p:=h
theorem OA{p:Prop}(h:p:=by rw[e1];rfl):p:=h
theorem FI{p:Prop}(h:p:=by simp;omega):p:=h
theorem BD{p:Prop}(h:p:=by assumption):p:=h
theorem Ay{p:Prop}(h:p:=by kernel_rfl):p:=h
theorem Lc{p:Prop}(h:p:=by simp[hx]):p:=h
theorem A7{p:Prop}(h:p:=by decide):p:=h
theorem Ab{p:Prop}(h:p:=by omega):p:=h
theorem Az{p:Prop}(h:p:=by simp):p:=h
theorem ki{p:Prop}(h:p:=by
 first
 |(refine⟨[_],⟨rfl,trivial⟩,?_,?_⟩<;>rw[uB ho]<;>first|rfl|exact congrArg (AV.int .i64) h0.symm|exact BO DQ DQ DQ DQ IA)
 |(refine⟨[_],⟨rfl,trivial⟩,?_,?_⟩<;>rw[uA ho]<;>first|rfl|exact congrArg (AV.int .i64) h0.symm|exact BO DQ DQ DQ DQ IA)
 |(refine⟨[_],⟨rfl,trivial⟩,?_,?_⟩<;>rw[uz ho hz]<;>first|rfl|exact congrArg (AV.int .i64) h0.symm|exact BO DQ DQ DQ DQ IA)
 |(refine⟨[_],⟨rfl,trivial⟩,?_,?_⟩<;>rw[uy ho]<;>first|rfl|exact congrArg (AV.int .i64) h0.symm|exact BO DQ DQ DQ DQ IA)
 |(refine⟨[_],⟨rfl,trivial⟩,?_,?_⟩<;>rw[ux ho]<;>first|rfl|exact congrArg (AV.int .i64) h0.symm|exact BO DQ DQ DQ DQ IA)
 |(refine⟨[_],⟨rfl,trivial⟩,?_,?_⟩<;>rw[uw ho hsz]<;>first|rfl|exact congrArg (AV.int .i64) h0.symm|exact BO DQ DQ DQ DQ IA)
 |(refine⟨[_],⟨rfl,trivial⟩,?_,?_⟩<;>rw[uv ho hsz]<;>first|rfl|exact congrArg (AV.int .i64) h0.symm|exact BO DQ DQ DQ DQ IA)
 |(refine⟨[_],⟨rfl,trivial⟩,?_,?_⟩<;>rw[ut ho hou]<;>first|rfl|exact congrArg (AV.int .i64) h0.symm|exact BO DQ DQ DQ DQ IA)
 |(rcases hrc with hrd|hrd<;>first|(simp only[decide_eq_true hrd,cond_true];(refine⟨[_],⟨rfl,trivial⟩,?_,?_⟩<;>rw[uu ho hrd]<;>first|rfl|exact congrArg (AV.int .i64) h0.symm|exact BO DQ DQ DQ DQ IA))|(simp only[decide_eq_false hrd,cond_false];(refine⟨[_],⟨rfl,trivial⟩,?_,?_⟩<;>rw[ji ho hrd]<;>first|rfl|exact congrArg (AV.int .i64) h0.symm|exact BO DQ DQ DQ DQ IA)))
 |(exfalso;have:=ht.op;first|(simp_all;done)|(simp_all;omega))):p:=h
theorem Tz{p:Prop}(h:p:=by
 first
 |exact absurd (show(b.fin==2)=true from ‹_›) (by rw[show(b.fin==2)=false from ‹_›];decide)
 |(refine⟨[_],⟨rfl,trivial⟩,?_,rfl⟩;refine bc ?_;simp only[J1,K3,K4, *,cond_true,cond_false,Bool.not_true,Bool.not_false,Bool.true_and,Bool.false_and,Bool.and_true,Bool.and_false,Bool.true_or,Bool.or_true,Bool.false_or,Bool.or_false])):p:=h
theorem ey{p:Prop}(h:p:=by
 refine aq 165 (DX Am false rfl rfl rfl Ay rfl rfl rfl rfl rfl) ?_;refine wk 2 ?_;refine Cj ⟨[_],⟨rfl,trivial⟩,?_,rfl⟩;refine bc ?_;have hwr:1<=t.size->t.size<=4096->IntKind.i64.wrap (words-t.size)=words-t.size:=fun h1 h2=>B4 Ab Ab
 rw[Wi hb1 hb2 hd hall gX];subst hdd haa hbb;clear hd hj hall hwr hw hw2 hb1 hb2;first|(simp_all[Tac.same,Tac.want,FE,Dd,setsOp,use1,use2];done)|simp[Tac.same,Tac.want,FE,Dd, *]):p:=h
theorem vG{p:Prop}(h:p:=by
 refine AGo.ghost (.freezeCell 0 0 5 3 (es0:=[Jw (AT b.funcs) (.ref 2 b.funcs.length 0 b.funcs.length) b.words.toNat s mE]) (es:=AH mE.out) TA rfl rfl TA (by simp[AH]) A7) ?_;refine wk 6 ?_;refine aq 144 (Ss (l:=mE.out) Am rfl (by show some (AV.lst false _)=_;rw[List.drop_zero,List.take_of_length_le (by simp[AH])]) rfl rfl rfl rfl rfl rfl) ?_;refine wk 2 ?_;refine AOps.w rfl rfl (Be Am (es:=[[.int .i64 0,.str ⟨#[]⟩,.int .i64 0]]) (hb:=TA) (hm:=rfl) (hk:=rfl) (hp:=ED)) ?_;refine wk 2 ?_;refine⟨[_],⟨⟨_,_,_,_,rfl,rfl,.ptr _ _ _ _ _ _ [[_,_,_]] _ TA rfl rfl,rfl⟩,trivial⟩,?_,rfl⟩;first|(rw[VJ hend];rfl)|(rw[VL hend hI.fin];rfl)|(rw[YQ hend hz];exact congrArg (fun n:Nat=>AV.agg [.int .i64 (AB (fun _ m=>m) s t l {r.q.m with steps:=r.q.m.steps+1}).2.fin,.str ⟨(AB (fun _ m=>m) s t l {r.q.m with steps:=r.q.m.steps+1}).2.out.toArray⟩,.int .i64 (n:Int)]) hst.symm)):p:=h
theorem vF{p:Prop}(h:p:=by
 refine aq 49 RP ?_;refine ax 50 (JW (FR first K hf h4 hK 2 op a b) [9,4,3] [(3,(.map (BI .i64 (B5 first ((Ck first K [2,op,a,b]).2))))),(4,(rf 3 [[.int .i64 first,.map 3,CY 9 (((Ck first K [2,op,a,b]).2).map (Ao .i64))]])),(9,(Dv 4 (((Ck first K [2,op,a,b]).2).map (Ao .i64))))] rfl Tryz.func306 Ay rfl rfl rfl ⟨⟨_,rfl,As⟩,⟨_,rfl,As⟩,⟨_,rfl,As⟩,trivial⟩ rfl C6 ⟨⟨_,rfl,rfl,As⟩,⟨_,rfl,rfl,As⟩,⟨_,rfl,rfl,As⟩,trivial⟩ rfl) ?_;refine wk 3 ?_
 first
 |(refine⟨[_],⟨rfl,trivial⟩,?_,?_⟩<;>rw[Ny BD]<;>first|rfl|exact HSub.put (HSub.put (HSub.put (HSub.none _) rfl) rfl) rfl)
 |(refine⟨[_],⟨rfl,trivial⟩,?_,?_⟩<;>rw[Nx BD]<;>first|rfl|exact HSub.put (HSub.put (HSub.put (HSub.none _) rfl) rfl) rfl)
 |(refine⟨[_],⟨rfl,trivial⟩,?_,?_⟩<;>rw[Nw BD]<;>first|rfl|exact HSub.put (HSub.put (HSub.put (HSub.none _) rfl) rfl) rfl)):p:=h
theorem aR{p:Prop}(h:p:=by
 exact⟨(),Sub.mk' (by repeat(first|exact ESub.new _|refine ESub.put ?_ (by first|rfl|exact congrArg (fun c=>some (AV.bool c)) (by simp_all[Dd])))) FH,trivial⟩):p:=h
theorem yu{p:Prop}(h:p:=by
 rcases hp with hp|⟨hp1,a2,w2,hp2⟩
 . refine .inl ?_;have hp':=Oper.wp_mono (fun a2 w2=>ih a2 w2) hp;clear hp;unfold Oper.wp at hp'|-;generalize(execOp a1.eval o').run P w1=res at hp'|-
   cases res with
   |ok n w3=>
    cases n<;>simp only[Oper.upon]at hp'|- <;>first
     |exact hp'
     |exact Calls.mono hp' lz
   |halt x w3=>cases x<;>simp only[Oper.upon]at hp'|- <;>first|exact hpost _ _ _ hp'|exact hp'
 . exact .inr ⟨hp1,a2,w2,hpost _ _ _ hp2⟩):p:=h
theorem gQ{p:Prop}(h:p:=by
 refine wk 2 ?_;exact⟨t.d,Sub.mk' Fc FH,⟨by have h:= ‹(!AX t.d regs)=false›;simp at h;simp[h],by first|(simp[setsOp, *];done)|simp[IT ‹_›]⟩⟩):p:=h
theorem yt{p:Prop}(h:p:=by
 refine wk 4 ?_;refine aq 31 (Aw Am rfl rfl rfl (.ptr _ _ _ _ _ _ [[AT b.funcs,x1,.ref 2 nf 0 nf,x3,x4,x5]] _ AI rfl rfl) rfl) ?_;refine wk 1 ?_;refine aq 33 (An Am (es:=tab) (hb:=AI) (hm:=hnt) (hn:=hfn)) ?_;refine aq 34 (Aw Am rfl rfl rfl (.ptr _ _ _ _ _ _ tab [.lst false []] AI hnt hg2) rfl) ?_;refine AOps.w rfl rfl (QH Am rfl rfl rfl rfl) ?_;refine wk 7 ?_;refine aq 39 (Aw Am rfl rfl rfl (.ptr _ _ _ _ _ _ [[AT b.funcs,x1,.ref 2 nf 0 nf,x3,x4,x5]] _ AI rfl rfl) rfl) ?_;refine wk 1 ?_;refine aq 41 (An Am (es:=tab) (hb:=AI) (hm:=hnt) (hn:=hfn)) ?_;refine aq 42 (Aw Am rfl rfl rfl (.ptr _ _ _ _ _ _ tab [.lst false []] AI hnt hg2) rfl) ?_;refine wk 1 ?_;refine AOps.w rfl rfl (Be Am (es:=[[.int .i64 0,.int .i64 0,.int .i64 0,.nil]]) (hb:=AI) (hm:=rfl) (hk:=rfl) (hp:=ED)) ?_;refine wk 2 ?_;have hend:∀h'':Aa,h''=h'':=fun _=>rfl
 exact⟨[_],⟨⟨_,_,_,_,rfl,rfl,.ptr _ _ _ _ _ _ [[.int .i64 (f0:Int),.int .i64 0,.int .i64 0,.lst false []]] _ AI rfl rfl,rfl⟩,trivial⟩,rfl,Kj yv lw⟩):p:=h
theorem ew{p:Prop}(h:p:=by
 refine Cj ⟨[_],⟨rfl,trivial⟩,?_,rfl⟩;refine bc ?_;rcases Decidable.em (1<=t.size/\t.size<=4096)with hsz|hsz
 . try rw[B4 (x:=words-t.size) Ab Ab]
   first|(simp_all[Tac.rest2,Dd];done)|(simp_all[Tac.rest2,Dd];omega)
 . first|(simp_all[Tac.rest2,Dd];done)|(simp_all[Tac.rest2,Dd];omega)):p:=h
theorem lm{p:Prop}(h:p:=by
 have hbytes:l.length*P.bytesOf e<=reachBytes:=by
  refine Nat.le_trans (Nat.mul_le_mul_right _ ?_) w1;omega
 refine⟨l,.one ?_ rfl,hbytes,hQ⟩
 by_cases h0:len=0
 . have:l=[]:=List.length_eq_zero_iff.1 Ab;subst this;subst h0;exact .lst0 _ _ _ _ Fu hm Fu trivial
 . obtain⟨y0,cs0,k1,k2,k3⟩:=key 0 Ab;obtain⟨_,m1,m2⟩:=World.cells?_some k1;have hz:cs0[0]?=some cs0[0]:=List.getElem?_eq_getElem Ab;have hcell:=m2 0 hc;rw[hz]at hcell;have ha0:(a.add (0*P.cellsOf e)).add 0=a:=by simp[Addr.add]
   rw[ha0]at hcell;obtain⟨c,hH,hspot,_⟩:=Ej hcell;obtain⟨ab,ao,asp⟩:=a;simp only at hspot hH;subst hspot;have hsz:∀(i:Nat) (xs:List AV),(l.map f)[i]?=some xs->xs.length=P.cellsOf e/\∀(j:Nat) (x:AV),xs[j]?=some x->∃v,c[ao+i*P.cellsOf e+j]?=some v/\Rel (BR W) AE x v/\x.cell1=true:=fun i xs hi=>by
    rw[List.getElem?_map,Option.map_eq_some_iff]at hi;obtain⟨y,y1,rfl⟩:=hi;obtain⟨cs',c1,c2,c3⟩:=l2 i y y1;obtain⟨_,n1,n2⟩:=World.cells?_some c1;refine⟨by rw[c2.1,n1],fun j x hj=>?_⟩;have hjlt:j<cs'.length:=by rw[<-c2.1];exact(List.getElem?_eq_some_iff.1 hj).1
    have h3:=n2 j Ab;rw[List.getElem?_eq_getElem hjlt,Eb,Eb]at h3;obtain⟨c',e1,_,e3⟩:=Ej h3;simp only at e1 e3;rw[hH]at e1;cases e1;obtain⟨g1,g2⟩:=c2.2 j x _ hj (List.getElem?_eq_getElem hjlt);exact⟨_,e3,g1,g2⟩
   have:=Rel.lst (H:=BR W) AE false (l.map f) ab ao cap (P.cellsOf e) c (fun i j=>(c[ao+i*P.cellsOf e+j]?).getD undef) (fun hh=>by rw[List.map_eq_nil_iff]at hh;subst hh;simp at l1;omega) hH
    (fun i xs hi=>(hsz i xs hi).1) (fun i xs j x hi hj=>by obtain⟨v,v1,_⟩:=(hsz i xs hi).2 j x hj;rw[v1];rfl)
    (fun i xs j x hi hj=>by obtain⟨v,v1,v2,_⟩:=(hsz i xs hi).2 j x hj;rw[v1];exact v2) (fun i xs j x hi hj=>by obtain⟨v,v1,v2,v3⟩:=(hsz i xs hi).2 j x hj;exact v3) Fu (by simp[l1];exact hl) hm
   rw[List.length_map,l1]at this;exact this):p:=h
theorem gW{p:Prop}(h:p:=by
 exact⟨(),Sub.mk' Fc (by repeat(first|exact HSub.refl _|exact HSub.none _|exact Bb _|exact A5 FJ|refine HSub.put ?_ (by first|rfl|((have hr:vrisky first w t=true:=by(first|(simp[vrisky, *];done)|(simp_all[vrisky];done)));simp only[VW.div,hr,cond_true,cond_false,List.map_append];rfl)|((have hr:vrisky first w t=false:=by(first|(simp[vrisky, *];done)|(simp_all[vrisky];done)));simp only[VW.div,hr,cond_true,cond_false,List.map_append];rfl))|refine Ba ?_ FJ|refine Bm ?_ A7)),trivial⟩):p:=h
theorem HQ{p:Prop}(h:p:=by
 refine Cj ⟨[_],⟨rfl,trivial⟩,?_,rfl⟩;refine bc ?_;first|(simp_all[Tac.rest2,Dd];done)|(simp_all[Tac.rest2,Dd];omega)):p:=h
theorem PH{p:Prop}(h:p:=by
 refine Cj ⟨[_],⟨rfl,trivial⟩,?_,rfl⟩;refine bc ?_;have hwr:1<=t.size->t.size<=4096->IntKind.i64.wrap (words-t.size)=words-t.size:=fun h1 h2=>B4 Ab Ab
 exact(Od gX).symm):p:=h
theorem aV{p:Prop}(h:p:=by
 refine wk 2 ?_;refine aq 144 (Bw rfl rfl hkl (show row2.length<=maxLen by simp only[maxLen];omega)) ?_;refine wk 2 ?_;exact⟨k+1,Drop.mk' DO KQ,⟨hkl,PU hagr hmu (by first|exact fun _=>Gx hag|(exact fun h=>by rw[hag]at h;cases h))⟩,by omega⟩):p:=h
theorem WY{p:Prop}(h:p:=by
 refine DOps.w rfl rfl (Be Am (es:=Ap regs) rfl rfl rfl rfl rfl AI DN (Ep (by have:=hd;have:=hm.len;omega)) rfl A7 rfl US) ?_;refine wk 6 ?_;exact ki):p:=h
theorem WX{p:Prop}(h:p:=by
 refine⟨by simp[<-ha.1,hn],rfl,fun t x hx=>?_,hr⟩;have hlt:t<vs.size:=by
  rw[<-ha.1];rcases Nat.lt_or_ge t args.length with h|h
  . exact h
  . simp only[C9]at hx;rw[List.getElem?_eq_none h]at hx;cases hx
 obtain⟨v,hv⟩:=A4 hlt;exact⟨v,by simp only;rw[Array.getElem?_append_left hlt];exact hv,ha.2 t x v hx hv⟩):p:=h
theorem ll{p:Prop}(h:p:=by
 refine aq 38 (Bw rfl rfl hkl (show f.blocks.length<=maxLen by simp only[maxLen];omega)) ?_;refine wk 2 ?_;exact⟨k+1,Drop.mk' (by repeat(first|exact EDrop.new _ _|refine EDrop.put ?_ (by rfl) rfl)) (by repeat(first|exact HDrop.none _ _|exact HDrop.tail _ _|refine HDrop.put ?_ (by first|rfl|exact congrArg (fun es=>some (rt 1 es)) (My (f:=G6) (x:=[x.to]) (BU f) (by rw[hnx];simp[Block.nexts, *]))|exact congrArg (fun es=>some (rt 1 es)) (My (f:=G6) (x:=[x.to,x.els]) (BU f) (by rw[hnx];simp[Block.nexts, *]))|exact congrArg (fun es=>some (rt 1 es)) (Wk (f:=G6) (x:=[]) (BU f) (by rw[hnx];simp[Block.nexts, *]) rfl)) rfl rfl)),hkl,by omega⟩):p:=h
theorem Lb{p:Prop}(h:p:=by
 refine Cj ⟨[_],⟨rfl,trivial⟩,?_,rfl⟩;refine bc ?_;first|(simp_all[Block.ends,AX];done)|(simp_all[Block.ends,AX];omega)):p:=h
theorem aU{p:Prop}(h:p:=by
 refine wk 2 ?_;exact⟨(),Sub.mk' Fc FH,(by first|(simp_all;done)|(exfalso;have:=Vo t.op;simp_all))⟩):p:=h
theorem RL{p:Prop}(h:p:=by
 refine wk 5 ?_;refine Cj ⟨[_],⟨rfl,trivial⟩,?_,rfl⟩;refine bc ?_;exact(jL (by first|(simp[setsOp, *];done)|exact IT ‹_›) (by simpa using ‹(!AX t.d regs)=true›)).symm):p:=h
theorem JF{p:Prop}(h:p:=by
 refine⟨[_,_],⟨rfl,rfl,trivial⟩,?_,rfl⟩;show AV.tup _=AV.tup _;simp[B1, *]):p:=h
theorem lj{p:Prop}(h:p:=by
 have key:∀b o,hres s.h L b=some o->o.alive=true->b∈L/\s.h b=some o:=fun b o h1 h2=>by
  unfold hres at h1
  cases e:mem L b with
  |true=>rw[e]at h1;exact⟨mem_iff.1 e,h1⟩
  |false=>rw[e]at h1;cases h1;cases h2
 refine⟨hs.heap.know,fun b hb=>?_,fun b o h1 h2=>?_,fun b b' o o' r r' h1 h2 h3 h4 h5 h6=>?_,hs.heap.glob⟩
 . unfold hres at hb;unfold Dx
   cases e:mem L b with
   |true=>rw[e]at hb;exact hs.heap.free b hb
   |false=>rfl
 . obtain⟨k1,k2⟩:=key b o h1 h2;obtain⟨r,r1,r2,r3⟩:=hs.heap.obj b o k2 h2;obtain⟨q,q1,q2⟩:=hLs b k1;rw[k2]at q1;cases q1;exact⟨r,by rw[EG (mem_iff.2 k1)];exact r1,HI r2 q2,r3⟩
 . exact hs.heap.inj b b' o o' r r' (key b o h1 h2).2 h2 (key b' o' h3 h4).2 h4 (Bx h5) (Bx h6)):p:=h
theorem aT{p:Prop}(h:p:=by
 refine Cj ⟨[_],⟨rfl,trivial⟩,?_,rfl⟩;refine bc ?_
 first
 |exact(OC BD).symm
 |exact(OD BD).symm
 |exact(RV (EZ (b:=old.stands) BD)).symm
 |exact(RU (EZ (b:=new.stands) BD)).symm):p:=h
theorem li{p:Prop}(h:p:=by
 unfold Oper.wp;rw[hexec];refine hcalls.mono fun en w' hh=>?_
 obtain⟨v,r',h',H',ι',rfl,⟨rfl,hsub⟩,k1,k2,k3⟩:=hh;have hk':∀b∈L,∃q,h' b=some q/\AA s.h W b=some q/\q.avoid (mem L)=true:=fun b hb=>by
  obtain⟨q,q1,q2,q3⟩:=hk.get b hb;exact⟨q,hsub b q q1,by rw[QZ (g2 b hb)];exact q2,q3⟩
 obtain⟨u1,u2⟩:=Z2 hs.heap hLs (fun p hp=>mem_iff.1 (List.all_eq_true.1 hW p hp)) hk' k2 (hres2.symm▸k3);refine⟨v,H',_,rfl,fun x ex=>?_,u1,u2⟩
 cases ex
 refine(ER k1 hra).mono (KLe.refl _) fun b r e=>?_
 by_cases hb:b∈L
 . exact⟨r,by simp only[O9,mem_iff.2 hb,cond_true];exact Bx e,.inl rfl⟩
 . have:mem L b=false:=by cases e:mem L b with|false=>rfl|true=>exact absurd (mem_iff.1 e) hb
   simp only[Dx,this,cond_false]at e;cases e):p:=h
theorem aS{p:Prop}(h:p:=by
 have key:∀c,b=c->Ad e d (.bool c)=e:=fun c hc=>by
  subst hc;funext t
  by_cases ht:t=d
  . subst ht;rw[BX,he]
  . rw[C3 _ _ ht]
 cases b with
 |true=>have:=h1 rfl;rwa[key true rfl]at this
 |false=>have:=h2 rfl;rwa[key false rfl]at this):p:=h
theorem lh{p:Prop}(h:p:=by
 refine aq 52 (Bw rfl rfl hjl (by have:=hi x hxm;simp only[maxLen];omega)) ?_;refine wk 2 ?_;exact⟨j+1,Drop.mk' (by repeat(first|exact EDrop.new _ _|refine EDrop.put ?_ (by first|rfl|(rw[hnc];rfl)|(rw[hnc,List.length_append];rfl)|exact congrArg (fun n:Nat=>some (AV.ref 4 n 0 n)) (by rw[hnc];simp[AK])) (by first|rfl|exact DV _ rfl|exact Hx _ rfl))) (by repeat(first|exact HDrop.none _ _|exact HDrop.tail _ _|refine HDrop.put ?_ (by first|rfl|(rw[hnc];rfl)|(rw[hnc,List.map_append];rfl)) rfl As)),⟨hjl,BS ht hja (by first|exact hok|exact Tf h10 hb0 (FT hgood))⟩,by omega⟩):p:=h
theorem WW{p:Prop}(h:p:=by
 unfold wpList at hp|-
 by_cases hw:Region.wanted o' (yielded ops a1.tmps)=true
 . rw[if_pos hw]at hp|-;exact yu
 . rw[if_neg hw]at hp|-;exact ih _ _ hp):p:=h
theorem gV{p:Prop}(h:p:=by
 refine Cj ⟨[_],⟨rfl,trivial⟩,?_,rfl⟩;show AV.lst false _=_;simp[Tac.uses,use1,use2,Bt,AK,AV.cells, *]):p:=h
theorem UJ{p:Prop}(h:p:=by
 simp only[execOp,ho,resolve,invoke,builtin,Sem.run_bind,Sem.run_pure,Result.andThen_ok,List.map_toArray,List.map_cons,List.map_nil,hva,hvb,hrun]):p:=h
theorem M2{p:Prop}(h:p:=by
 refine Cj ⟨[_],⟨rfl,trivial⟩,?_,rfl⟩;refine bc ?_;simp_all[Block.ends]):p:=h
theorem RJ{p:Prop}(h:p:=by
 refine Cj ⟨[_],⟨rfl,trivial⟩,?_,rfl⟩;show AV.int .i64 _=AV.int .i64 _;congr 1;simp[C8,use1,use2, *]):p:=h
theorem RH{p:Prop}(h:p:=by
 refine Cj ⟨[_],⟨rfl,trivial⟩,?_,rfl⟩;show AV.int .i64 _=AV.int .i64 _;congr 1;simp[Tac.sets,setsOp, *]):p:=h
theorem RG{p:Prop}(h:p:=by
 refine Cj ⟨[_],⟨rfl,trivial⟩,?_,rfl⟩;show AV.bool false=_;rw[decide_eq_false (by rintro rfl;simp_all)]):p:=h
theorem lg{p:Prop}(h:p:=by
 refine dq 56 RP ?_;refine dx 57 Iy ?_;refine dx 58 (Ih Am (b:=jo) (es:=((w.effs).map (Ao .i64))) rfl rfl rfl rfl rfl rfl rfl rfl rfl rfl rfl (Nat.zero_lt_succ _) (Pw h.e6) (MR _) rfl rfl gY aY) ?_;refine wk 2 ?_;refine DOps.w rfl rfl (I8 Am rfl rfl rfl rfl rfl rfl rfl rfl rfl (JO _ _) A7 (JP _ _) ED) ?_;refine wk 1 ?_;exact gW):p:=h
theorem lc{p:Prop}(h:p:=by
 refine wk 2 ?_;refine aq 68 (Bw rfl rfl hkl (show R<=maxLen by simp only[maxLen];omega)) ?_;refine wk 2 ?_;exact⟨k+1,Drop.mk' DO (by repeat(first|exact HDrop.none _ _|exact HDrop.tail _ _|refine HDrop.put ?_ (by first|rfl|exact ZI hkl|exact ZH hkl (hat▸hbit)|exact Wl hkl (hat▸hbit)|exact dH _ _ _ _ hkl) rfl As)),hkl,by omega⟩):p:=h
theorem gU{p:Prop}(h:p:=by
 exact HSub.put (HSub.put (HSub.put (HSub.put (HSub.put (HSub.put (HSub.none _) rfl) rfl) rfl) (by show _=some (rf 4 [[.ptr 4 1 0 0,DR jv (A8 (Bi w.vals t.d _)),CY jo (w.effs.map (Ao .i64)),.int .i64 w.time]]);rw[II];rfl)) bf) rfl):p:=h
theorem la{p:Prop}(h:p:=by
 refine wk 2 ?_;refine aq 145 (Bw rfl rfl hjl (show next.length<=maxLen by simp only[maxLen];omega)) ?_;refine wk 2 ?_;exact⟨j+1,Drop.mk' DO KQ,⟨hjl,BS hnk hall (by rw[hat2];exact R6 hkge hagr)⟩,by omega⟩):p:=h
theorem RF{p:Prop}(h:p:=by
 refine Cj ⟨[_],⟨rfl,trivial⟩,?_,rfl⟩;show AV.int .u32 _=AV.int .u32 _;simp[IE, *]):p:=h
theorem RD{p:Prop}(h:p:=by
 exact HSub.put (HSub.put (HSub.put (HSub.put (HSub.put (HSub.put (HSub.none _) rfl) rfl) rfl) rfl) rfl) rfl):p:=h
theorem PG{p:Prop}(h:p:=by
 refine Cj ⟨[_],⟨rfl,trivial⟩,?_,rfl⟩;refine bc ?_;simp_all[Tac.ins2]):p:=h
theorem k9{p:Prop}(h:p:=by
 obtain⟨k,hk⟩:=List.getElem?_of_mem hq;have hlt:k<parts.toList.length:=by have:=(List.getElem?_eq_some_iff.1 hk).1;simpa using this
 have hltp:k<ps.length:=by omega
 have h3:=(l2 k ps[k] ((parts.toList[k]).1,a.eval (parts.toList[k]).2) (List.getElem?_eq_getElem hltp) (by rw[List.getElem?_map,List.getElem?_eq_getElem hlt];rfl)).2;rw[List.getElem?_map,List.getElem?_eq_getElem hlt]at hk
 cases hk
 rw[<-(Ea h3).1];exact DA hsz k _ (List.getElem?_eq_getElem hltp)):p:=h
theorem k8{p:Prop}(h:p:=by
 exact⟨(),Sub.mk' Fc (by repeat(first|exact HSub.refl _|exact HSub.none _|exact Bb _|exact A5 FJ|refine HSub.put ?_ (by first|rfl|exact Cf (bE hsp)|exact Cf (bF hsp)|exact Cf (XJ hsp)|exact Cf (XK hsp))|refine Ba ?_ FJ|refine Bm ?_ A7)),trivial⟩):p:=h
theorem k7{p:Prop}(h:p:=by
 refine wk 8 ?_;exact⟨(),Sub.mk' (by repeat(first|exact ESub.new _|refine ESub.put ?_ (by first|rfl|exact congrArg (fun c=>some (AV.bool c)) (by first|(simp_all[AX];done)|(simp_all[AX];omega))))) FH,trivial⟩):p:=h
theorem WV{p:Prop}(h:p:=by
 refine Cj ⟨[_],⟨rfl,trivial⟩,?_,rfl⟩;refine bc ?_;exact(Od gX).symm):p:=h
theorem k6{p:Prop}(h:p:=by
 by_cases hi:i<ts.length
 . rw[if_pos hi]at hs;rw[if_pos (by rw[h.len];exact hi)]at hk';exact(h.key i s k' hs hk').ext hp
 . rw[if_neg hi]at hs;rw[if_neg (by rw[h.len];exact hi),h.len]at hk';have h0:i-ts.length=0:=by
    have:=(List.getElem?_eq_some_iff.1 hs).1;simp at this;omega
   rw[h0]at hs hk';simp at hs hk';subst hs;subst hk';exact hk.ext hp):p:=h
theorem WU{p:Prop}(h:p:=by
 rw[Ei (e:=e) (fun x hx=>g1 x (by rw[ho];simp[Op.operands,Call.operands];exact .inr (by simpa using hx)))];exact hx):p:=h
theorem gT{p:Prop}(h:p:=by
 refine Cj ⟨[_],⟨rfl,trivial⟩,?_,rfl⟩;refine bc ?_;rw[FM h0.1 h0.2.1 h0.2.2,BJ (Bl hf) (by show f.one _ _=false;exact Ub lq)]):p:=h
theorem kZ{p:Prop}(h:p:=by
 refine wk 2 ?_;exact⟨0,Sub.mk' Fc FH,by have h3:=TG t.op;cases h1:use1 t.op<;>cases h2:use2 t.op<;>simp_all[Tac.uses]⟩):p:=h
theorem gS{p:Prop}(h:p:=by
 refine Cj ⟨[_],⟨rfl,trivial⟩,?_,rfl⟩;refine bc ?_
 first
 |exact(JI hx hy (bw BD)).symm
 |exact(JI hx hy (bv BD)).symm
 |exact(JI hx hy (bx BD)).symm):p:=h
theorem kY{p:Prop}(h:p:=by
 refine wk 5 ?_;exact⟨(),Sub.mk' (by repeat(first|exact ESub.new _|refine ESub.put ?_ (by first|rfl|exact congrArg (fun c=>some (AV.bool c)) (by simp_all)))) FH,trivial⟩):p:=h
theorem kX{p:Prop}(h:p:=by
 simp only[Bool.false_eq_true,if_false];obtain⟨hw0,hr00⟩:=ok4 hrun;refine ih _ H ι _ w hcls htodo ((G4 a o.dst undef).trans hD) ?_ ?_
 . rw[hE,hHp,hw0,<-DY];rcases hr00 with hr00|hr00
   . rw[hr00];exact hs.del ok2
   . rw[hr00];exact hs.put hs.heap (Step.refl _ _ _ _) Xd ok2
 . rw[hHp,hw0];exact hst):p:=h
theorem kW{p:Prop}(h:p:=by
 exact⟨(),Sub.mk' Fc (by repeat(first|exact HSub.refl _|exact HSub.none _|exact Bb _|exact A5 FJ|refine HSub.put ?_ (by first|rfl|exact Cf (ZN hfin hv2.1)|exact Cf (dL hfin))|refine Ba ?_ FJ|refine Bm ?_ A7)),trivial⟩):p:=h
theorem kV{p:Prop}(h:p:=by
 obtain⟨info',d',c1,c2,c3,c4,_⟩:=Af (hT _ _ hi');refine⟨(f.offset,i'.size)::l,?_,fun k off t h3=>?_⟩
 . rw[List.mapM_cons];simp only[Sem.run_bind,EE c1,Result.andThen_ok,Sem.run_pure,h1,c4]
 . cases k with
   |zero=>simp at h3;obtain⟨rfl,rfl⟩:=h3;exact⟨i',hi',rfl⟩
   |succ k=>simp only[List.map_cons,List.getElem?_cons_succ]at h3|-;exact h2 k off t h3):p:=h
theorem WT{p:Prop}(h:p:=by
 rw[GH (e:=e) (fun x hx=>g1 x (by rw[ho];simp only[Op.operands,List.mem_toArray];exact hx))];exact hx):p:=h
theorem kU{p:Prop}(h:p:=by
 refine wk 7 ?_;refine⟨[_],⟨rfl,trivial⟩,?_,?_⟩
 . first
   |(rw[Lj hn];rfl)
   |(rw[Li hi];exact(by rw[Lk,hi];rfl))
 . first
   |(rw[Lj hn];exact HSub.put (HSub.put (HSub.put (HSub.none _) (by dsimp only;rw[<-PQ hn];rfl)) (by dsimp only;rw[List.map_append];rfl)) (by dsimp only;rw[List.map_append];rfl))
   |(rw[Li hi];exact HSub.put (HSub.put (HSub.put (HSub.none _) rfl) rfl) rfl)):p:=h
theorem La{p:Prop}(h:p:=by
 refine Cj ⟨[_],⟨rfl,trivial⟩,?_,rfl⟩;rfl):p:=h
theorem kT{p:Prop}(h:p:=by
 refine wk 2 ?_;exact⟨k+1,Drop.mk' DO (by repeat(first|exact HDrop.none _ _|exact HDrop.tail _ _|refine HDrop.put ?_ (by first|rfl|(rw[RX ht];rfl)) rfl As)),hkl,by omega⟩):p:=h
theorem kS{p:Prop}(h:p:=by
 refine wk 2 ?_;exact⟨j+1,Drop.mk' DO KQ,BS hu hj (by simpa using hbw),by omega⟩):p:=h
theorem kR{p:Prop}(h:p:=by
 exact .inr ⟨k,by simp only[Option.map_some,Option.some.injEq];exact(Ai hs (by rw[g1 y Bg];exact hk)).int_inv⟩):p:=h
theorem RC{p:Prop}(h:p:=by
 refine Cj ⟨[_],⟨rfl,trivial⟩,?_,rfl⟩;refine bc ?_;simp[setsOp, *]):p:=h
theorem kQ{p:Prop}(h:p:=by
 obtain⟨oi,ci,q1,q2,rfl⟩:=hwrE hv;have hd1:o.dst=some x:=by simpa[Dj]using hx
 have hd2:oi.dst=some x:=by simpa[Dj]using hw
 have hd:L.getD i false=decide (i<j):=hord i oi ci Ab q1 q2 (fun hap=>(Oper.apart_spec hap.1).2.1 x hd2 hd1) (fun hap=>(Oper.apart_spec hap.1).2.1 x hd1 hd2);show L.getD i false=false;rw[hd];simp;omega):p:=h
theorem kP{p:Prop}(h:p:=by
 rcases this with hpath|hap
 . cases hL:L.getD i false with
   |false=>simp;omega
   |true=>
    have:=Gt (U:=fun i=>L.getD i false=true) (fun x ox hx hox e he hb=>hcl.2 x hx ox hox e he hb) 24 oi hpath (fun e he hb=>hcl.2 i hL oi h1 e he hb);rw[hLj]at this
    cases this
 . exact(hna' hap).elim):p:=h
theorem kO{p:Prop}(h:p:=by
 refine wk 2 ?_;exact⟨(),Sub.mk' Fc FH,(by simp_all)⟩):p:=h
theorem kN{p:Prop}(h:p:=by
 rw[c2];refine Et rfl fun i u hu hw=>?_
 obtain⟨oi,ci,q1,q2,rfl⟩:=hwrE hu;have hd:oi.dst=some t:=by simpa[Dj]using hw
 rw[Nat.zero_add]
 by_cases hij:i=j
 . subst hij;rw[hLj];simp
 . exact hord i oi ci hij q1 q2 (fun hap=>(Oper.apart_spec hap.1).1 t hd ht) (fun hap=>(Oper.apart_spec hap.1).2.2 t hd ht)):p:=h
theorem kM{p:Prop}(h:p:=by
 have hall:=fun i hi=>Ve (Nat.le_zero.1 hf) i (by rw[hcl.1];exact hi)
 refine⟨?_,hdone L H ι a w hcl hall hD hs hst⟩;rw[List.eq_nil_iff_forall_not_mem];intro i hi;obtain⟨k1,o,k2,_⟩:=mem_ready.1 hi;have hlt:i<ops.size:=(Array.getElem?_eq_some_iff.1 k2).1;rw[Cx RM,hall i hlt]at k1
 cases k1):p:=h
theorem kL{p:Prop}(h:p:=by
 have hjL:j<L.size:=by rw[hcl.1];exact hlt
 refine⟨by simp[hcl.1],fun i hi oi h1 e he hb=>?_⟩;rw[Ms hjL]at hi|-
 by_cases hij:i=j
 . subst hij;rw[k2]at h1;cases h1;rw[k3 e he hb];simp
 . have:L.getD i false=true:=by simpa[hij]using hi
   rw[hcl.2 i this oi h1 e he hb];simp):p:=h
theorem kK{p:Prop}(h:p:=by
 cases e with
 |exit id'=>
  obtain⟨s',H',ι',q,r⟩:=hp;simp only[Exit.inBlock];simp only[JD]at q
  by_cases hid:id'=id
  . subst hid;simp only[Nat.beq_refl,cond_true]at q;rw[if_pos rfl];exact⟨s',H',ι',q,r⟩
  . rw[if_neg hid];rw[AC hid]at q;exact⟨s',H',ι',q,r⟩
 |_=>exact hp):p:=h
theorem kJ{p:Prop}(h:p:=by
 cases h
 refine⟨a1,fun hu=>?_⟩;obtain⟨hu2,a2⟩:=a2 hu;refine⟨hu2,fun m hm=>⟨AGoY.block (AGoY.mono (a2 m hm).1 fun x2 s2 hh=>?_),fun b hb=>by cases hb⟩⟩;obtain⟨rfl,rfl⟩:=hh;show bif Nat.beq i id then _ else _;rw[hid];exact⟨rfl,rfl⟩):p:=h
theorem gR{p:Prop}(h:p:=by
 cases ei:P.info? et with
 |none=>rw[ei]at hz;cases hz
 |some inf=>
  rw[ei]at hz;simp only[Option.bind_some]at hz;simp[zeroValue,typeInfo,ei,hz]):p:=h
theorem gP{p:Prop}(h:p:=by
 refine Cj ⟨[_],⟨rfl,trivial⟩,?_,rfl⟩;show AV.lst false _=_
 cases h1:use1 t.op<;>cases h2:use2 t.op<;>simp_all[C8,Tac.uses,Bt,AK,AV.cells]):p:=h
theorem kI{p:Prop}(h:p:=by
 refine Cj ⟨[_],⟨rfl,trivial⟩,?_,rfl⟩;refine bc ?_;rw[<-heq,hst]
 by_cases hcc:(f.blockAt y).ins.length<=q.rest.length
 . clear heq hst hF;first|(exfalso;simp_all;omega;done)|(have h3:¬q.rest.take (f.blockAt y).ins.length=(f.blockAt y).ins:=(by simp_all);simp[h3];done)
 . simp[hcc]):p:=h
theorem gO{p:Prop}(h:p:=by
 refine Cj ⟨[_],⟨rfl,trivial⟩,?_,rfl⟩;refine bc ?_;exact(NN lq).symm):p:=h
theorem gN{p:Prop}(h:p:=by
 refine Cj ⟨[_],⟨rfl,trivial⟩,?_,rfl⟩;first|rfl|(have:=hal (by simpa using hb14) (by simpa using hb15);show AV.bool _=AV.bool _;rw[this.1,this.2];simp)):p:=h
theorem kH{p:Prop}(h:p:=by
 rw[<-ok1];unfold Av
 cases eg:o.guard with
 |none=>rfl
 |some gw=>
  obtain⟨g,want⟩:=gw;simp only
  cases ed:(ops[g]?).bind (·.dst)with
  |none=>rfl
  |some d=>simp only[hlook d (by simp[Oper.looksAt,eg,ed])]):p:=h
theorem aP{p:Prop}(h:p:=by
 refine ax 12 Iy ?_;refine wk 2 ?_;exact gV):p:=h
theorem gM{p:Prop}(h:p:=by
 refine⟨[_],⟨rfl,trivial⟩,?_,HSub.put (HSub.none _) rfl⟩;refine bc ?_;first|(simp_all[EK,AS];done)|(simp_all[EK,AS];omega)):p:=h
theorem gL{p:Prop}(h:p:=by
 refine Cj ⟨[_],⟨rfl,trivial⟩,?_,rfl⟩;refine bc ?_;refine(Tc (fun h=>?_)).symm;obtain⟨q1,q2,q3⟩:=h;simp_all[AS,Cc]):p:=h
theorem UI{p:Prop}(h:p:=by
 exact⟨undef,H,ι,(by rw[hd]),W8,u1,u2⟩):p:=h
theorem kG{p:Prop}(h:p:=by
 cases h
 refine⟨a1,fun m hm=>⟨AGo.block (AGo.mono (a2 m hm).1 fun x2 s2 hh=>?_),fun b hb=>by cases hb⟩⟩;obtain⟨rfl,rfl⟩:=hh;show bif Nat.beq i id then _ else _;rw[hid];exact⟨rfl,rfl⟩):p:=h
theorem kF{p:Prop}(h:p:=by
 obtain⟨s',H',ι',q,r,t⟩:=hp
 cases e with
 |normal=>
  obtain⟨g,d,hF⟩:=q;obtain⟨H2,ι2,r2,t2⟩:=Ghost.of_sub d H' ι' a' w' r;exact⟨_,H2,ι2,k g hF,r2,t.trans hs.heap r.heap t2⟩
 |_=>exact⟨s',H',ι',q,r,t⟩):p:=h
theorem kE{p:Prop}(h:p:=by
 refine .tup _ _ _ rfl fun q x u hq hu=>?_
 match q,hq,hu with
 |0,hq,hu=>simp at hq hu;subst hq;subst hu;exact g5.mono (KLe.refl _) (LLe.none _)
 |1,hq,hu=>simp at hq hu;subst hq;subst hu;exact .bool _ _
 |q+2,hq,hu=>simp at hq):p:=h
theorem kD{p:Prop}(h:p:=by
 refine hI2.put t.d (t:=.unk S.effs.length) ?_ ?_
 . show S.effs.length<(h.unks++[_]).length;simp[hI.un]
 . show _=((h.unks++[_])[S.effs.length]?).getD 0;rw[<-hI.un,List.getElem?_append_right (Nat.le_refl _),Nat.sub_self];rfl):p:=h
theorem kC{p:Prop}(h:p:=by
 refine⟨r',e1,e2.mono hkle (LLe.refl _) (fun _=>rfl),fun hs'=>?_⟩;have hxb:x≠b:=fun hx=>by subst hx;rw[Hh]at h1;cases h1
 rw[DK _ _ (hr.inj x b o _ r' r (hsubh _ _ h1) h2 hb rfl e1 hl hs' hsol hxb)];exact e3 hs'):p:=h
theorem kB{p:Prop}(h:p:=by
 cases e:H' r.rb with
 |none=>rfl
 |some c=>
  rcases hst.knew r.rb (by rw[e];simp)with g|g|g
  . exact absurd h5 g
  . have:=hr.lt ⟨b,o,r,h1,h2,h3,h4,rfl⟩;omega
  . exact absurd g (apart b o r hb h1 h2 h3 h4)):p:=h
theorem kA{p:Prop}(h:p:=by
 refine .tup _ _ _ rfl fun q x u hq hu=>?_
 match q,hq,hu with
 |0,hq,hu=>simp at hq hu;subst hq;subst hu;exact Iw hz0
 |1,hq,hu=>simp at hq hu;subst hq;subst hu;exact .bool _ _
 |q+2,hq,hu=>simp at hq):p:=h
theorem gK{p:Prop}(h:p:=by
 refine Cj ⟨[_],⟨rfl,trivial⟩,?_,rfl⟩;refine bc ?_;exact(Ta (BJ (Bl hp) (by simp_all[GU]))).symm):p:=h
theorem kz{p:Prop}(h:p:=by
 refine Cj ⟨[_],⟨rfl,trivial⟩,?_,rfl⟩;refine bc ?_;exact(ML (BJ hp (by simp only[DZ];rw[BJ (p:=(fun i=> !(decide (i<0))&& !(decide (i>=(old.blocks.length:Int))))) hy (by simp_all[Cc])];simp))).symm):p:=h
theorem ky{p:Prop}(h:p:=by
 refine AOps.w rfl rfl (Be Am rfl rfl rfl rfl rfl rfl (E6 (BU f) (Nat.le_of_lt hkl)) (Ra (BU f) hkl) rfl A7 rfl US) ?_;refine wk 2 ?_;exact ll):p:=h
theorem gJ{p:Prop}(h:p:=by
 refine Cj ⟨[_],⟨rfl,trivial⟩,?_,rfl⟩;show AV.int .u32 _=AV.int .u32 _;simp only[OB, *,cond_true,cond_false]):p:=h
theorem kx{p:Prop}(h:p:=by
 have ka:o0.alive=true:=by
  cases o0 with
  |free=>rw[hr.free b' k1]at e0;cases e0
  |_=>rfl
 exact hr.inj b b' o o0 r r0 h1 h2 k1 ka h3 e0 h4 es (fun e=>hb (e▸hb')) (e.trans e1.symm)):p:=h
theorem kv{p:Prop}(h:p:=by
 rcases this with hpath|hap
 . have:=Gt (U:=fun i=>L.getD i false=true) (fun x ox hx hox e he hb=>hcl.2 x hx ox hox e he hb) 24 o hpath k3;rw[this];simp[hij]
 . exact(hna hap).elim):p:=h
theorem gI{p:Prop}(h:p:=by
 cases es with
 |nil=>exact absurd rfl hne
 |cons cs es=>rw[<-hsz' 0 cs Az,hu cs Az]):p:=h
theorem ku{p:Prop}(h:p:=by
 simp at h1 h2;subst h1;subst h2;refine⟨hc.2.2.1,?_,?_⟩
 . rw[hc.1];funext x;exact(CS (fun i u _ _=>by simp)).symm
 . rw[hc.2.1];funext x;exact(CS (fun i u _ _=>by simp)).symm):p:=h
theorem kr{p:Prop}(h:p:=by
 obtain⟨H',ι',z1,z2,z3⟩:=hx;refine ih _ H' ι' _ w' hcls htodo ((G4 a o.dst v).trans hD) ?_ ?_
 . rw[hE,hHp,<-DY];exact hs.put z2 z3 z1 ok2
 . rw[hHp];exact hst.trans hr0 hrL z3):p:=h
theorem gH{p:Prop}(h:p:=by
 rcases Nat.lt_or_ge j cs.length with h|h
 . exact h
 . rw[List.getElem?_eq_none h]at e2;cases e2):p:=h
theorem kq{p:Prop}(h:p:=by
 refine wk 5 ?_;refine Cj ⟨[_],⟨rfl,trivial⟩,?_,rfl⟩;refine bc ?_;exact(U3 (YE hef) (by first|exact fun _=>Gx hvf|(exact fun hf=>absurd hf (by simpa using hvf))) (Cd hall hjge)).symm):p:=h
theorem kp{p:Prop}(h:p:=by
 obtain⟨r1,r2⟩:=hchain.end_ 0 (fun i=>L.getD i false) (fun i hi=>by rw[Nat.zero_add];exact hall i Ab);rw[<-r1,<-r2]at hs;rw[<-r2]at hst;exact⟨hD,_,H,ι,hK,hs,hst⟩):p:=h
theorem gG{p:Prop}(h:p:=by
 refine Cj ⟨[_],⟨rfl,trivial⟩,?_,rfl⟩;refine bc ?_;exact(NN (by simp_all<;>omega)).symm):p:=h
theorem ko{p:Prop}(h:p:=by
 cases a with
 |cst x=>
  cases b with
  |cst y=>
   simp only[Da]
   cases trisky k (.cst y)with
   |true=>exact hop
   |false=>exact trivial
  |_=>exact hop
 |_=>exact hop):p:=h
theorem fR{p:Prop}(h:p:=by
 have hd:L.getD i false=decide (i<j):=hord i oi ci Ab q1 q2 (fun hap=>hno ci c hw hx hap.2) (fun hap=>hno c ci hx hw hap.2);show L.getD i false=false;rw[hd];simp;omega):p:=h
theorem fQ{p:Prop}(h:p:=by
 have e1:=st.dom b e
 cases e2:h' b with
 |none=>rfl
 |some o=>
  rcases hd b o e2 with⟨g,_⟩|⟨_,g⟩
  . rw[g]at e1;cases e1
  . rw[hf b g]at e;cases e):p:=h
theorem W7{p:Prop}(h:p:=by
 refine Cj ⟨[_],⟨rfl,trivial⟩,?_,rfl⟩;refine bc ?_;exact(Ub (by simp_all<;>omega)).symm):p:=h
theorem fP{p:Prop}(h:p:=by
 refine wk 4 ?_;refine Cj ⟨[_],⟨rfl,trivial⟩,?_,rfl⟩;refine bc ?_;exact(Sf hx ht (by first|exact Ro h10 hbad|exact Rn h10 (EZ hbad))).symm):p:=h
theorem Ty{p:Prop}(h:p:=by
 refine wk 4 ?_;refine⟨[_,_],⟨rfl,rfl,trivial⟩,?_,rfl⟩;rfl):p:=h
theorem fO{p:Prop}(h:p:=by
 rcases h.t.cst (h.at hb)with⟨c,h1,h2,h3⟩|⟨h1,h2⟩
 . rw[h1,h3];simp[Tm.isZero]
 . rw[h2]
   cases e:tget s.regs t.b with
   |cst c=>exact absurd e (h1 c)
   |_=>rfl):p:=h
theorem fN{p:Prop}(h:p:=by
 by_cases hki:k=i
 . subst hki;rw[List.getElem?_set_self hilt]at hk;cases hk;exact .inl ⟨rfl,rfl⟩
 . rw[List.getElem?_set_ne (Ne.symm hki)]at hk;exact .inr ⟨hki,hk⟩):p:=h
theorem fM{p:Prop}(h:p:=by
 obtain⟨ts1,hp1,h1⟩:=h.step (hl t Az) hr;obtain⟨ts2,hp2,h2⟩:=ih (fun u hu=>hl u (by simp[hu])) h1 ((s.step_len t).trans hr);exact⟨ts2,hp1.trans hp2,h2⟩):p:=h
theorem fL{p:Prop}(h:p:=by
 refine wk 6 ?_;refine⟨[_,_],⟨rfl,rfl,trivial⟩,?_,?_⟩
 . first
   |(rw[HY hlo];rfl)
   |(rw[hv];rfl)
 . exact HSub.put (HSub.put (HSub.put (HSub.none _) rfl) rfl) rfl):p:=h
theorem fK{p:Prop}(h:p:=by
 refine Cj ⟨[_],⟨rfl,trivial⟩,?_,rfl⟩;refine bc ?_
 first
 |exact(R3 (EZ (b:=vshaped old new) BD)).symm
 |exact(R2 BD).symm):p:=h
theorem fJ{p:Prop}(h:p:=by
 refine⟨Nat.le_trans a1 b1,fun m hm hw=>AW.seq hr (AGo.mono (a2 m (Nat.le_trans b1 hm)) fun e s1 hh=>?_)⟩;obtain⟨rfl,rfl⟩:=hh;exact b2 m hm hw):p:=h
theorem fI{p:Prop}(h:p:=by
 obtain⟨i,hi⟩:=List.mem_iff_getElem?.1 hm;obtain⟨k,hk⟩:=Ag (l:=K) (k:=i) gZ;exact h.key i _ k hi hk):p:=h
theorem W6{p:Prop}(h:p:=by
 refine⟨[_,_],⟨rfl,rfl,trivial⟩,?_,rfl⟩;show AV.tup _=AV.tup _;simp[F8, *]):p:=h
theorem fH{p:Prop}(h:p:=by
 refine wk 4 ?_;refine Cj ⟨[_],⟨rfl,trivial⟩,?_,rfl⟩;refine bc ?_;exact(U4 hnk (by rw[hat2];exact Va hmu hmt (Pv hag))).symm):p:=h
theorem fG{p:Prop}(h:p:=by
 simp[execOp,ho,resolve,invoke,builtin,Builtin.delete_,hvx,hvy,Aj e2,MapKept.run_getObj_map r3,DB e2',Eo e2' f1,MapKept.run_setObj_map _ r3]):p:=h
theorem fF{p:Prop}(h:p:=by
 cases x with
 |tmp t=>exact hlook t (by unfold Oper.looksAt;exact List.mem_append_left _ (List.mem_filterMap.2 ⟨.tmp t,by simpa using hx,rfl⟩))
 |_=>rfl):p:=h
theorem fE{p:Prop}(h:p:=by
 simp only[Array.toList_extract,Array.toList_append,Array.toList_map,Array.size_append,Array.size_map,List.extract_eq_take_drop];exact List.take_of_length_le Az):p:=h
theorem fD{p:Prop}(h:p:=by
 obtain⟨h1,h2⟩:=h.out;exact⟨by simpa using h1,fun j k v hj=>by
  obtain⟨e,g1,g2⟩:=h2 j k v hj;exact⟨e,by simpa using g1,g2⟩⟩):p:=h
theorem fC{p:Prop}(h:p:=by
 rw[<-hC,Array.size_append,size_zeroCells,hzl];simp only[List.size_toArray,List.length_append,hol,hnl,<-Nat.add_mul];congr 1;omega):p:=h
theorem fB{p:Prop}(h:p:=by
 obtain⟨ts',hp,h1,h2⟩:=h.t.num hk hw;exact⟨ts',hp,h1,(h.regs.mono fun x y hxy=>hxy.ext hp).set h2 _,h.effs.mono fun x y hxy=>hxy.ext hp,h.time⟩):p:=h
theorem fA{p:Prop}(h:p:=by
 obtain⟨q1,R0,q2,q3⟩:=q;exact main .returning g xs cs R0 (fun u'=>u'=.returning) rfl Az (fun u' hu=>by rw[hu];rfl) q1 q2 q3):p:=h
theorem fy{p:Prop}(h:p:=by
 cases ei:rs[i]? with
 |none=>rw[ei]at hi;cases hi
 |some ds=>rw[ei]at hi;cases hi;simpa using o5 i ds ei):p:=h
theorem fw{p:Prop}(h:p:=by
 rw[<-hres'];funext b;unfold hres
 cases e:mem L b with
 |true=>simp only[cond_true];exact g2 b (mem_iff.1 e)
 |false=>rfl):p:=h
theorem fv{p:Prop}(h:p:=by
 rcases Nat.lt_or_ge j (es.length*sz)with h|h
 . exact h
 . rw[List.getElem?_eq_none (by rw[hnl];exact h)]at hj;cases hj):p:=h
theorem W5{p:Prop}(h:p:=by
 refine Cj ⟨[_],⟨rfl,trivial⟩,?_,rfl⟩;refine bc ?_;simp_all[EA]):p:=h
theorem W4{p:Prop}(h:p:=by
 cases e with
 |normal=>exact key q
 |ret=>exact key q
 |_=>exact q.elim):p:=h
theorem fu{p:Prop}(h:p:=by
 refine hcalls.mono fun en w' hh=>?_
 obtain⟨v,r',h',H',ι',rfl,hR,k1,k2,k3⟩:=hh;exact⟨v,r',h',H',ι',hR,rfl,k1,k2,k3⟩):p:=h
theorem ft{p:Prop}(h:p:=by
 obtain⟨rfl,rfl,rfl⟩:=hh
 cases e with
 |normal=>exact(hx rfl).elim
 |_=>exact⟨rfl,rfl,rfl⟩):p:=h
theorem fq{p:Prop}(h:p:=by
 refine Cj ⟨[_],⟨rfl,trivial⟩,?_,rfl⟩;show AV.bool false=_;rw[decide_eq_false (by rintro rfl;rw[hf]at hg;cases hg;simp_all)]):p:=h
theorem W0{p:Prop}(h:p:=by
 rw[hlput]at this;exact⟨H,ι,⟨hs.n,hs.d,hs.env,this.1⟩,this.2⟩):p:=h
theorem fp{p:Prop}(h:p:=by
 obtain⟨h1,h2,h3,h4⟩:=h;rw[Nat.eq_of_beq_eq_true h1,Nat.eq_of_beq_eq_true h2,Nat.eq_of_beq_eq_true h3,Nat.eq_of_beq_eq_true h4]):p:=h
theorem fo{p:Prop}(h:p:=by
 refine Cj ⟨[_],⟨rfl,trivial⟩,?_,rfl⟩;refine bc ?_
 cases e:p.cert.same<;>first|(simp_all;done)|(exfalso;simp_all;omega)):p:=h
theorem fm{p:Prop}(h:p:=by
 refine wk 7 ?_;refine Cj ⟨[_],⟨rfl,trivial⟩,?_,rfl⟩;refine bc ?_;first|(simp_all[AX];done)|(simp_all[AX];omega)):p:=h
theorem fk{p:Prop}(h:p:=by
 rw[h1];have:args= #[]:=by
  cases args with
  |mk l=>simp only at h4;subst h4;rfl
 rw[this]):p:=h
theorem fj{p:Prop}(h:p:=by
 refine Cj ⟨[_],⟨rfl,trivial⟩,?_,rfl⟩;refine bc ?_
 cases e:p.paths<;>first|(simp_all;done)|(exfalso;simp_all;omega)):p:=h
theorem fh{p:Prop}(h:p:=by
 have:len*1<=len*j.size:=Nat.mul_le_mul_left _ hp;have h2:=Nat.le_of_ble_eq_true hbig;simp only[maxLen];omega):p:=h
theorem Tx{p:Prop}(h:p:=by
 cases e:use1 op<;>cases e2:use2 op<;>simp_all):p:=h
theorem fg{p:Prop}(h:p:=by
 rcases Nat.lt_or_ge i es.length with h|h
 . exact h
 . rw[List.getElem?_eq_none h]at h1;cases h1):p:=h
theorem ff{p:Prop}(h:p:=by
 by_cases hu:u=t
 . subst hu;rw[BX]at hx;cases hx;exact⟨hv,ha⟩
 . rw[C3 _ _ hu]at hx;exact h u x hx):p:=h
theorem fe{p:Prop}(h:p:=by
 refine Cj ⟨[_],⟨rfl,trivial⟩,?_,rfl⟩;refine bc ?_;exact(BJ (NQ hkl) (by rw[hat];simp_all)).symm):p:=h
theorem WZ{p:Prop}(h:p:=by
 rw[<-hC,Array.getElem?_append_left FI]
 simp):p:=h
theorem fd{p:Prop}(h:p:=by
 rcases hget k ds hk with⟨rfl,rfl⟩|⟨_,hk'⟩
 . rw[List.length_set];exact r5 k cs hi
 . exact r5 k ds hk'):p:=h
theorem fc{p:Prop}(h:p:=by
 cases d<;>simp[Ff]at h
 . rw[h.1,h.2]
 . rename_i a;revert h;cases (a.all fun f=>P.cellsOf f.type !=0)<;>simp):p:=h
theorem fb{p:Prop}(h:p:=by
 refine wk 8 ?_;refine Cj ⟨[_],⟨rfl,trivial⟩,?_,rfl⟩;refine bc ?_;first|(simp_all;done)|(exfalso;simp_all)):p:=h
theorem fa{p:Prop}(h:p:=by
 refine wk 4 ?_;refine Cj ⟨[_],⟨rfl,trivial⟩,?_,rfl⟩;refine bc ?_;exact(SM hp hF.2 hno).symm):p:=h
theorem eZ{p:Prop}(h:p:=by
 have:=h.lt fr hfr;exact⟨F2,k2,l2,a1,a2,a3,a4,by rw[List.getElem?_set_ne Ab];exact a5,a6,a7⟩):p:=h
theorem eY{p:Prop}(h:p:=by
 cases lo with
 |none=>exact .inl ⟨rfl,hl⟩
 |some y=>
  obtain⟨k,hk⟩:=hl;exact kR):p:=h
theorem eX{p:Prop}(h:p:=by
 cases hi with
 |none=>exact .inl ⟨rfl,hm⟩
 |some y=>
  obtain⟨k,hk⟩:=hm;exact kR):p:=h
theorem eW{p:Prop}(h:p:=by
 cases d<;>simp[Ff]at h
 . rw[h]
 . rename_i a;revert h;cases (a.all fun f=>P.cellsOf f.type !=0)<;>simp):p:=h
theorem eV{p:Prop}(h:p:=by
 by_cases hc:c=b
 . subst hc;simp[AA,Au,hb']
 . simp[AA,Ax _ _ hc]):p:=h
theorem eU{p:Prop}(h:p:=by
 rw[hl]at hr';cases hr';exact .inr ⟨by show r.n<es.length+es2.length;omega,by omega,r1.symm⟩):p:=h
theorem eT{p:Prop}(h:p:=by
 have hb':c.R.contains b=true:=by simpa using hb
 rw[hb']at this;simp at this):p:=h
theorem eS{p:Prop}(h:p:=by
 simp only[cond_true,cond_false]
 cases decide (Ah regs t.a>=t.size)<;>exact⟨rfl,.inr (hle _ _ _ _)⟩):p:=h
theorem eR{p:Prop}(h:p:=by
 exact⟨e₂,a₃,w₃,hq₂,.of_steps (StepsIn.trans harr (.one (fenced_calm hb hr rfl) stepR_inLoop)) harr₂⟩):p:=h
theorem eQ{p:Prop}(h:p:=by
 cases e:Nat.ble 15 c with
 |false=>rfl
 |true=>have:=Nat.ble_eq.mp e;omega):p:=h
theorem eP{p:Prop}(h:p:=by
 cases d<;>simp[Ff]at h
 . rfl
 . rename_i a;revert h;cases (a.all fun f=>P.cellsOf f.type !=0)<;>simp):p:=h
theorem eO{p:Prop}(h:p:=by
 obtain⟨v,f1,f2,f3⟩:=w3.2 j cs l z hk hl';exact⟨v,f1,f2.mono (KLe.refl _) hll,f3⟩):p:=h
theorem eN{p:Prop}(h:p:=by
 refine ax 20 Iy ?_;refine wk 2 ?_;exact gV):p:=h
theorem eM{p:Prop}(h:p:=by
 cases e:Nat.blt c 8 with
 |false=>rfl
 |true=>have:=Nat.blt_eq.mp e;omega):p:=h
theorem eL{p:Prop}(h:p:=by
 refine wk 5 ?_;refine Cj ⟨[_],⟨rfl,trivial⟩,?_,rfl⟩;refine bc ?_;rw[FM h0.1 h0.2.1 h0.2.2,hall]):p:=h
theorem Tw{p:Prop}(h:p:=by
 simp[Builtin.len_,Aj e2,goInt]):p:=h
theorem eK{p:Prop}(h:p:=by
 unfold tget
 cases e:l[z.toNat]? with
 |none=>exact trivial
 |some t=>exact h t (List.mem_of_getElem? e)):p:=h
theorem eJ{p:Prop}(h:p:=by
 obtain⟨us,vs,e1,e2,e3,_,e5⟩:=(Ai hs hg).fn_inv;exact⟨us,vs,e1,e2,e3,trivial,e5⟩):p:=h
theorem eI{p:Prop}(h:p:=by
 refine Cj ⟨[_],⟨rfl,trivial⟩,?_,rfl⟩;show AV.int .i64 _=AV.int .i64 _;congr 1;simp_all[Tac.sets]):p:=h
theorem eH{p:Prop}(h:p:=by
 simp[execOp,ho,Instr.indexAt,hva,hvy,asIntOf,Aj e2,sizeOf,typeInfo,e1',e4',hcond,Eb]):p:=h
theorem eG{p:Prop}(h:p:=by
 rw[hz];have:z=k:=by simpa using hz
 subst this;exact .cons z v m _ es rfl hv h):p:=h
theorem eE{p:Prop}(h:p:=by
 rw[hd]at hs'|-;exact PN (fun e a2 w2 hp=>Post.step hs.heap h2 h3 hp) _ _ _ (hr H' ι' _ w' hs')):p:=h
theorem eD{p:Prop}(h:p:=by
 refine Cj ⟨[_],⟨rfl,trivial⟩,?_,rfl⟩;refine bc ?_;exact(Uu (by simp_all<;>omega)).symm):p:=h
theorem eC{p:Prop}(h:p:=by
 obtain⟨s',H',ι',q,r⟩:=hp
 cases e<;>first|exact⟨s',H',ι',q,r⟩|exact q.elim):p:=h
theorem eB{p:Prop}(h:p:=by
 rcases hd.h b o h1 with⟨g1,g2⟩|⟨g1,_⟩
 . exact⟨g1,g2 h2⟩
 . subst g1;cases h2):p:=h
theorem eA{p:Prop}(h:p:=by
 refine wk 6 ?_;refine Cj ⟨[_],⟨rfl,trivial⟩,?_,rfl⟩;refine bc ?_;simp_all[AX]<;>omega):p:=h
end Go.Proofs.YtijlphdockhgjaaGreatDoor.Sv
namespace Go.Proofs.YtijlphdockhgjaaGreatDoor.Sv
open Go
def ZC:Nat->Option (List Value)
  |0=>some [.string ⟨#[60,60]⟩,.string ⟨#[62,62]⟩,.string ⟨#[61,61]⟩,.string ⟨#[38,38]⟩,.string ⟨#[124,124]⟩,.string ⟨#[40]⟩,.string ⟨#[41]⟩,.string ⟨#[123]⟩,.string ⟨#[125]⟩,.string ⟨#[91]⟩,.string ⟨#[93]⟩,.string ⟨#[59]⟩,.string ⟨#[44]⟩,.string ⟨#[61]⟩,.string ⟨#[43]⟩,.string ⟨#[45]⟩,.string ⟨#[42]⟩,.string ⟨#[47]⟩,.string ⟨#[37]⟩,.string ⟨#[38]⟩,.string ⟨#[124]⟩,.string ⟨#[94]⟩,.string ⟨#[60]⟩,.string ⟨#[33]⟩]
  |1=>some [.string ⟨#[118,97,114]⟩,.string ⟨#[97,114,114,97,121]⟩,.string ⟨#[102,117,110,99]⟩,.string ⟨#[119,111,114,100]⟩,.string ⟨#[105,102]⟩,.string ⟨#[101,108,115,101]⟩,.string ⟨#[119,104,105,108,101]⟩,.string ⟨#[114,101,116,117,114,110]⟩,.string ⟨#[112,117,116]⟩,.string ⟨#[103,101,116]⟩]
  |_=>none
inductive AV where
  |bool (b:Bool)
  |int (k:IntKind) (n:Int)
  |str (s:ByteArray)
  |nil
  |nilp
  |lst (ex:Bool) (es:List (List AV))
  |loc (cs:List AV)
  |ref (b n off len:Nat)
  |ptr (b n i o:Nat)
  |map (b:Nat)
  |agg (cs:List AV)
  |tup (vs:List AV)
  |fn (f:Fn) (fs cs:List AV)
  |val (v:Value)
def cy:Value->Bool
  | .agg _| .tuple _=>false
  |_=>true
def AV.cell1:AV->Bool
  | .agg _| .tup _=>false
  |_=>true
abbrev Aq:=Nat->Option (Array Value)
structure Ent where
  rb:Nat
  sz:Nat
  n:Nat
  csz:Nat
def Ent.solid(r:Ent):Prop:=r.csz≠0
abbrev AL:=Nat->Option Ent
def AE:AL:=fun _=>none
inductive Rel(H:Aq):AL->AV->Value->Prop
  |bool (ι:AL) (b:Bool):Rel H ι (.bool b) (.bool b)
  |int (ι:AL) (k:IntKind) (n:Int):Rel H ι (.int k n) (.int k n)
  |str (ι:AL) (s:ByteArray):Rel H ι (.str s) (.string s)
  |nil (ι:AL):Rel H ι .nil (.slice none 0 0)
  |nilp (ι:AL):Rel H ι .nilp (.pointer none)
  |lst0 (ι:AL) (ex:Bool) (a:Option Addr) (cap:Nat) (hex:ex=true->cap=0) (hcap:cap<=maxLen) (hn:a=none->cap=0) (hsp:True):Rel H ι (.lst ex []) (.slice a 0 cap)
  |lst (ι:AL) (ex:Bool) (es:List (List AV)) (b off cap sz:Nat) (c:Array Value) (vals:Nat->Nat->Value) (hne:es≠[]) (hb:H b=some c)
      (hsz:∀(i:Nat) (cs:List AV),es[i]?=some cs->cs.length=sz)
      (hv:∀(i:Nat) (cs:List AV) (j:Nat) (x:AV),es[i]?=some cs->cs[j]?=some x->c[off+i*sz+j]?=some (vals i j))
      (hr:∀(i:Nat) (cs:List AV) (j:Nat) (x:AV),es[i]?=some cs->cs[j]?=some x->Rel H AE x (vals i j))
      (h1:∀(i:Nat) (cs:List AV) (j:Nat) (x:AV),es[i]?=some cs->cs[j]?=some x->x.cell1=true)
      (hex:ex=true->cap=es.length) (hcap:es.length<=cap) (hmax:cap<=maxLen):
      Rel H ι (.lst ex es) (.slice (some ⟨b,off,none⟩) es.length cap)
  |loc (ι:AL) (cs:List AV) (b off:Nat) (c:Array Value) (vals:Nat->Value) (hb:H b=some c)
      (hv:∀(j:Nat) (x:AV),cs[j]?=some x->c[off+j]?=some (vals j)) (hr:∀(j:Nat) (x:AV),cs[j]?=some x->Rel H AE x (vals j))
      (h1:∀(j:Nat) (x:AV),cs[j]?=some x->x.cell1=true):
      Rel H ι (.loc cs) (.pointer (some ⟨b,off,none⟩))
  |refL (ι:AL) (b n off len cap:Nat) (r:Ent) (hr:ι b=some r) (hn:r.n=n) (hlen:off+len<=n) (hlc:len<=cap) (hcap:(off+cap)*r.sz=r.csz) (hmax:cap<=maxLen):
      Rel H ι (.ref b n off len) (.slice (some ⟨r.rb,off*r.sz,none⟩) len cap)
  |ref0 (ι:AL) (b:Nat) (r:Ent) (a:Option Addr) (hr:ι b=some r) (hn:r.n=0) (hc:r.csz=0) (hsp:True):Rel H ι (.ref b 0 0 0) (.slice a 0 0)
  |refS (ι:AL) (b n off len:Nat) (r:Ent) (a:Option Addr) (cap:Nat) (hr:ι b=some r) (hn:n<r.n):Rel H ι (.ref b n off len) (.slice a len cap)
  |ptrL (ι:AL) (b n i o:Nat) (r:Ent) (hr:ι b=some r) (hn:r.n=n):Rel H ι (.ptr b n i o) (.pointer (some ⟨r.rb,i*r.sz+o,none⟩))
  |ptrS (ι:AL) (b n i o:Nat) (r:Ent) (a:Addr) (hr:ι b=some r) (hn:n<r.n):Rel H ι (.ptr b n i o) (.pointer (some a))
  |map (ι:AL) (b:Nat) (r:Ent) (hr:ι b=some r) (hn:r.sz=0):Rel H ι (.map b) (.map (some r.rb))
  |agg (ι:AL) (cs:List AV) (vs:Array Value) (hl:cs.length=vs.size) (hr:∀(j:Nat) (x:AV) (v:Value),cs[j]?=some x->vs[j]?=some v->Rel H ι x v):Rel H ι (.agg cs) (.agg vs)
  |tup (ι:AL) (cs:List AV) (vs:Array Value) (hl:cs.length=vs.size) (hr:∀(j:Nat) (x:AV) (v:Value),cs[j]?=some x->vs[j]?=some v->Rel H ι x v):Rel H ι (.tup cs) (.tuple vs)
  |fn (ι:AL) (f:Fn) (xs cs:List AV) (us vs:Array Value) (hx:xs.length=us.size) (hl:cs.length=vs.size)
      (h1:∀(j:Nat) (x:AV) (v:Value),xs[j]?=some x->us[j]?=some v->Rel H ι x v) (h2:∀(j:Nat) (x:AV) (v:Value),cs[j]?=some x->vs[j]?=some v->Rel H ι x v):Rel H ι (.fn f xs cs) (.func f us vs)
  |val (ι:AL) (v:Value) (h:cy v=true):Rel H ι (.val v) v
def KLe(H H':Aq):Prop:=∀b c,H b=some c->H' b=some c
def LLe(ι ι':AL):Prop:=∀b r,ι b=some r->∃r',ι' b=some r'/\(r'=r\/r.n<r'.n/\0<r.sz/\r'.sz=r.sz)
theorem KLe.refl(H:Aq):KLe H H:=fun _ _ h=>h
theorem KLe.trans{H H' H'':Aq}(h:KLe H H')(h':KLe H' H''):KLe H H'':=fun b c e=>h' b c (h b c e)
theorem LLe.refl(ι:AL):LLe ι ι:=fun _ r h=>⟨r,h,.inl rfl⟩
theorem LLe.trans{ι ι' ι'':AL}(h:LLe ι ι')(h':LLe ι' ι''):LLe ι ι'':=fun b r e=>by
 obtain⟨r',e',h1⟩:=h b r e;obtain⟨r'',e'',h2⟩:=h' b r' e';refine⟨r'',e'',?_⟩;rcases h1 with rfl|h1<;>rcases h2 with rfl|h2
 . exact .inl rfl
 . exact .inr h2
 . exact .inr h1
 . exact .inr ⟨Nat.lt_trans h1.1 h2.1,h1.2.1,h2.2.2.trans h1.2.2⟩
theorem LLe.none(ι:AL):LLe AE ι:=fun _ _ h=>by cases h
theorem Rel.mono{H H':Aq}{ι:AL}{x:AV}{v:Value}(h:Rel H ι x v)(hH:KLe H H'):∀{ι':AL},LLe ι ι'->Rel H' ι' x v:=by
 induction h with
 |bool=>exact fun _=>.bool _ _
 |int=>exact fun _=>.int _ _ _
 |str=>exact fun _=>.str _ _
 |nil=>exact fun _=>.nil _
 |nilp=>exact fun _=>.nilp _
 |lst0 ι ex a cap hex hcap hn hsp=>exact fun _=>.lst0 _ ex a cap hex hcap hn hsp
 |lst ι ex es b off cap sz c vals hne hb hsz hv hr hc1 hex hcap hmax ih=>
  exact fun _=>.lst _ ex es b off cap sz c vals hne (hH _ _ hb) hsz hv (fun i cs j x h1 h2=>ih i cs j x h1 h2 (LLe.refl _)) hc1 hex hcap hmax
 |loc ι cs b off c vals hb hv hr hc1 ih=>
  exact fun _=>.loc _ cs b off c vals (hH _ _ hb) hv (fun j x h1=>ih j x h1 (LLe.refl _)) hc1
 |refL ι b n off len cap r hr hn hlen hlc hcap hmax=>
  intro ι' h;obtain⟨r',e,h1⟩:=h b r hr;rcases h1 with rfl|h1
  . exact .refL _ b n off len cap r' e hn hlen hlc hcap hmax
  . exact .refS _ b n off len r' _ cap e (hn▸h1.1)
 |ref0 ι b r a hr hn hc hsp=>
  intro ι' h;obtain⟨r',e,h1⟩:=h b r hr;rcases h1 with rfl|h1
  . exact .ref0 _ b r' a e hn hc hsp
  . exact .refS _ b 0 0 0 r' _ 0 e Ab
 |refS ι b n off len r a cap hr hn=>
  intro ι' h;obtain⟨r',e,h1⟩:=h b r hr;rcases h1 with rfl|h1
  . exact .refS _ b n off len r' a cap e hn
  . exact .refS _ b n off len r' a cap e (Nat.lt_trans hn h1.1)
 |ptrL ι b n i o r hr hn=>
  intro ι' h;obtain⟨r',e,h1⟩:=h b r hr;rcases h1 with rfl|h1
  . exact .ptrL _ b n i o r' e hn
  . exact .ptrS _ b n i o r' _ e (hn▸h1.1)
 |ptrS ι b n i o r a hr hn=>
  intro ι' h;obtain⟨r',e,h1⟩:=h b r hr;rcases h1 with rfl|h1
  . exact .ptrS _ b n i o r' a e hn
  . exact .ptrS _ b n i o r' a e (Nat.lt_trans hn h1.1)
 |map ι b r hr hn=>
  intro ι' h;obtain⟨r',e,h1⟩:=h b r hr;rcases h1 with rfl|h1
  . exact .map _ b r' e hn
  . omega
 |val ι v h=>exact fun _=>.val _ v h
 |agg ι cs vs hl hr ih=>exact fun h=>.agg _ cs vs hl (fun j x v h1 h2=>ih j x v h1 h2 h)
 |tup ι cs vs hl hr ih=>exact fun h=>.tup _ cs vs hl (fun j x v h1 h2=>ih j x v h1 h2 h)
 |fn ι f xs cs us vs hx hl h1 h2 ih1 ih2=>exact fun h=>.fn _ f xs cs us vs hx hl (fun j x v e1 e2=>ih1 j x v e1 e2 h) (fun j x v e1 e2=>ih2 j x v e1 e2 h)
def gk:Value->AV
  | .int k n=>.int k n
  | .string s=>.str s
  |_=>.nil
def Pm(l:List Value):AV:=.loc (l.map gk)
def GlobOk(H:Aq):Prop:=∀(g:Nat) (l:List Value),ZC g=some l->Rel H AE (Pm l) (.pointer (some ⟨g,0,none⟩))
theorem GlobOk.mono{H H':Aq}(h:GlobOk H)(hH:KLe H H'):GlobOk H':=fun g l e=>(h g l e).mono hH (LLe.refl _)
section
variable {H : Aq} {ι : AL} {v : Value}
theorem Rel.bool_inv{b:Bool}(h:Rel H ι (.bool b) v):v=.bool b:=by cases h;rfl
theorem Rel.int_inv{k:IntKind}{n:Int}(h:Rel H ι (.int k n) v):v=.int k n:=by cases h;rfl
theorem Rel.str_inv{s:ByteArray}(h:Rel H ι (.str s) v):v=.string s:=by cases h;rfl
theorem Rel.nil_inv(h:Rel H ι .nil v):v=.slice none 0 0:=by cases h;rfl
theorem Rel.val_inv{u:Value}(h:Rel H ι (.val u) v):v=u/\cy u=true:=by cases h;exact⟨rfl,by assumption⟩
theorem Rel.map_inv{b:Nat}(h:Rel H ι (.map b) v):∃r,ι b=some r/\r.sz=0/\v=.map (some r.rb):=by cases h;exact⟨_,by assumption,by assumption,rfl⟩
theorem Rel.tup_inv{cs:List AV}(h:Rel H ι (.tup cs) v):∃us,v=.tuple us/\cs.length=us.size/\∀(j:Nat) (x:AV) (u:Value),cs[j]?=some x->us[j]?=some u->Rel H ι x u:=by
 cases h;exact⟨_,rfl,by assumption,by assumption⟩
theorem Rel.agg_inv{cs:List AV}(h:Rel H ι (.agg cs) v):∃us,v=.agg us/\cs.length=us.size/\∀(j:Nat) (x:AV) (u:Value),cs[j]?=some x->us[j]?=some u->Rel H ι x u:=by
 cases h;exact⟨_,rfl,by assumption,by assumption⟩
theorem Rel.fn_inv{f:Fn}{xs cs:List AV}(h:Rel H ι (.fn f xs cs) v):∃us vs,v=.func f us vs/\xs.length=us.size/\cs.length=vs.size/\
 (∀(j:Nat) (x:AV) (u:Value),xs[j]?=some x->us[j]?=some u->Rel H ι x u)/\(∀(j:Nat) (x:AV) (u:Value),cs[j]?=some x->vs[j]?=some u->Rel H ι x u):=by
 cases h;exact⟨_,_,rfl,by assumption,by assumption,by assumption,by assumption⟩
theorem Rel.lst_inv{ex:Bool}{es:List (List AV)}(h:Rel H ι (.lst ex es) v):
 (es=[]/\∃a cap,v=.slice a 0 cap/\(ex=true->cap=0)/\cap<=maxLen/\(a=none->cap=0)/\True)\/
 (es≠[]/\∃b off cap sz c,∃vals:Nat->Nat->Value,v=.slice (some ⟨b,off,none⟩) es.length cap/\H b=some c/\(∀(i:Nat) (cs:List AV),es[i]?=some cs->cs.length=sz)/\
  (∀(i:Nat) (cs:List AV) (j:Nat) (x:AV),es[i]?=some cs->cs[j]?=some x->c[off+i*sz+j]?=some (vals i j))/\
  (∀(i:Nat) (cs:List AV) (j:Nat) (x:AV),es[i]?=some cs->cs[j]?=some x->Rel H AE x (vals i j))/\
  (∀(i:Nat) (cs:List AV) (j:Nat) (x:AV),es[i]?=some cs->cs[j]?=some x->x.cell1=true)/\
  (ex=true->cap=es.length)/\es.length<=cap/\cap<=maxLen):=by
 cases h with
 |lst0 _ _ a cap h1 h2 h3 h4=>exact .inl ⟨rfl,a,cap,rfl,h1,h2,h3,h4⟩
 |lst _ _ _ b off cap sz c vals h0 h1 h2 h3 h4 h5 h6 h7 h8=>exact .inr ⟨h0,b,off,cap,sz,c,vals,rfl,h1,h2,h3,h4,h5,h6,h7,h8⟩
theorem Rel.lst_len{ex:Bool}{es:List (List AV)}(h:Rel H ι (.lst ex es) v):∃a cap,v=.slice a es.length cap:=by
 cases h with
 |lst0 _ _ a cap h1 h2 h3 h4=>exact⟨a,cap,rfl⟩
 |lst _ _ _ b off cap sz c vals h0 h1 h2 h3 h4 h5 h6 h7 h8=>exact⟨_,_,rfl⟩
theorem Rel.loc_inv{cs:List AV}(h:Rel H ι (.loc cs) v):∃b off c,∃vals:Nat->Value,v=.pointer (some ⟨b,off,none⟩)/\H b=some c/\
 (∀(j:Nat) (x:AV),cs[j]?=some x->c[off+j]?=some (vals j))/\(∀(j:Nat) (x:AV),cs[j]?=some x->Rel H AE x (vals j))/\(∀(j:Nat) (x:AV),cs[j]?=some x->x.cell1=true):=by
 cases h;exact⟨_,_,_,_,rfl,by assumption,by assumption,by assumption,by assumption⟩
theorem Rel.ref_len{b n off len:Nat}(h:Rel H ι (.ref b n off len) v):∃a cap,v=.slice a len cap:=by
 cases h<;>exact⟨_,_,rfl⟩
theorem Rel.ref_live{b n off len:Nat}{r:Ent}(h:Rel H ι (.ref b n off len) v)(hr:ι b=some r)(hn:r.n=n)(hc:r.csz≠0):
 off+len<=n/\∃cap,v=.slice (some ⟨r.rb,off*r.sz,none⟩) len cap/\len<=cap/\(off+cap)*r.sz=r.csz/\cap<=maxLen:=by
 cases h with
 |ref0 _ _ r' a hr' hn' hc'=>rw[hr]at hr';cases hr';exact absurd hc' hc
 |refL _ _ _ _ _ cap r' hr' hn' hlen hlc hcap hmax=>rw[hr]at hr';cases hr';exact⟨hlen,cap,rfl,hlc,hcap,hmax⟩
 |refS _ _ _ _ _ r' a cap hr' hn'=>rw[hr]at hr';cases hr';omega
theorem Rel.ptr_live{b n i o:Nat}{r:Ent}(h:Rel H ι (.ptr b n i o) v)(hr:ι b=some r)(hn:r.n=n):v=.pointer (some ⟨r.rb,i*r.sz+o,none⟩):=by
 cases h with
 |ptrL _ _ _ _ _ r' hr' hn'=>rw[hr]at hr';cases hr';rfl
 |ptrS _ _ _ _ _ r' a hr' hn'=>rw[hr]at hr';cases hr';omega
theorem Rel.ptr_some{b n i o:Nat}(h:Rel H ι (.ptr b n i o) v):∃a,v=.pointer (some a):=by
 cases h<;>exact⟨_,rfl⟩
end
theorem Rel.ref_dry{H:Aq}{ι:AL}{v:Value}{b n off len:Nat}{r:Ent}(h:Rel H ι (.ref b n off len) v)(hr:ι b=some r)(hn:r.n=n)(hc:r.csz=0)(hs:0<r.sz):
 len=0/\∃a,v=.slice a 0 0/\True:=by
 cases h with
 |ref0 _ _ r' a hr' hn' hc' hsp=>exact⟨rfl,a,rfl,hsp⟩
 |refL _ _ _ _ _ cap r' hr' hn' hlen hlc hcap hmax=>
  rw[hr]at hr';cases hr';rw[hc]at hcap;have:off+cap=0:=by
   rcases Nat.mul_eq_zero.1 hcap with h|h
   . exact h
   . omega
  have h1:cap=0:=by omega
  have h2:len=0:=by omega
  subst h1;subst h2;exact⟨rfl,_,rfl,trivial⟩
 |refS _ _ _ _ _ r' a cap hr' hn'=>rw[hr]at hr';cases hr';omega
end Go.Proofs.YtijlphdockhgjaaGreatDoor.Sv
namespace Go.Proofs.YtijlphdockhgjaaGreatDoor.Sv
open Go
inductive AObj where
  |free
  |row (p:Bool) (sz:Nat) (es:List (List AV))
  |map (kvs:List (AV×AV))
  |iter0
def AObj.alive:AObj->Bool
  | .free=>false
  |_=>true
abbrev Aa:=Nat->Option AObj
abbrev Ar:=Nat->Option AV
def hNew:Aa:=fun _=>some .free
def BC:Ar:=fun _=>none
def Al(h:Aa)(b:Nat)(o:AObj):Aa:=fun x=>bif Nat.beq x b then some o else h x
def Ad(e:Ar)(t:Nat)(v:AV):Ar:=fun x=>bif Nat.beq x t then some v else e x
def ZP(e:Ar)(t:Nat):Ar:=fun x=>bif Nat.beq x t then none else e x
theorem AC{x b:Nat}(h:x≠b):Nat.beq x b=false:=by
 cases e:Nat.beq x b with
 |false=>rfl
 |true=>exact absurd (Nat.eq_of_beq_eq_true e) h
theorem Au(h:Aa)(b:Nat)(o:AObj):Al h b o b=some o:=by simp[Al]
theorem Ax(h:Aa){b x:Nat}(o:AObj)(hne:x≠b):Al h b o x=h x:=by simp only[Al,AC hne,cond_false]
theorem BX(e:Ar)(t:Nat)(v:AV):Ad e t v t=some v:=by simp[Ad]
theorem C3(e:Ar){t x:Nat}(v:AV)(hne:x≠t):Ad e t v x=e x:=by simp only[Ad,AC hne,cond_false]
theorem Oi(e:Ar)(t:Nat):ZP e t t=none:=by simp[ZP]
theorem Uv(e:Ar){t x:Nat}(hne:x≠t):ZP e t x=e x:=by simp only[ZP,AC hne,cond_false]
structure Ac where
  n:Nat
  env:Ar
  h:Aa
def rowCells(H:Aq)(ι:AL)(sz:Nat)(es:List (List AV))(c:Array Value):Prop:=
  (∀(i:Nat) (cs:List AV),es[i]?=some cs->cs.length=sz)/\
  ∀(i:Nat) (cs:List AV) (j:Nat) (x:AV),es[i]?=some cs->cs[j]?=some x->∃v,c[i*sz+j]?=some v/\Rel H ι x v/\x.cell1=true
def Hb(H:Aq)(kvs:List (AV×AV))(es:Array MapEntry):Prop:=
  kvs.length=es.size/\∀(j:Nat) (k v:AV),kvs[j]?=some (k,v)->∃e,es[j]?=some e/\Rel H AE k e.key/\Rel H AE v e.val
def BornOk(clk:Nat)(l:List Nat):Prop:=l.Pairwise (· < ·)/\∀b∈l,b<clk
theorem BornOk.nil(clk:Nat):BornOk clk []:=⟨.nil,fun b h=>by cases h⟩
theorem BornOk.snoc{clk:Nat}{l:List Nat}(h:BornOk clk l):BornOk (clk+1) (l++[clk]):=
 ⟨List.pairwise_append.2 ⟨h.1,List.pairwise_singleton _ _,fun a ha b hb=>by rw[List.mem_singleton.1 hb];exact h.2 a ha⟩,fun b hb=>by
  rcases List.mem_append.1 hb with hb|hb
  . exact Nat.lt_succ_of_lt (h.2 b hb)
  . rw[List.mem_singleton.1 hb];exact Nat.lt_succ_self _⟩
theorem BornOk.sub{clk:Nat}{l l':List Nat}(h:BornOk clk l)(s:l'.Sublist l):BornOk clk l':=⟨h.1.sublist s,fun b hb=>h.2 b (s.subset hb)⟩
theorem Hp{es:Array MapEntry}{p:Nat}{k v:Value}:((es.modify p fun e=>{e with key:=k,val:=v}).toList.map (·.born))=es.toList.map (·.born):=by
 rw[Array.toList_modify];apply List.ext_getElem?;intro i;rw[List.getElem?_map,List.getElem?_map,List.getElem?_modify]
 by_cases h:p=i
 . subst h;cases es.toList[p]?<;>simp
 . simp[h]
def RowAt(w:World)(rb:Nat)(c:Array Value)(T:TypeId):Prop:=∃fr:Nat×Nat,w.heap[rb]?=some (.cells c T fr)/\(fr.2=0\/c.size<=fr.1)
theorem RowAt.lt{w:World}{rb:Nat}{c:Array Value}{T:TypeId}(h:RowAt w rb c T):rb<w.heap.size:=by
 obtain⟨fr,e,_⟩:=h;exact(Array.getElem?_eq_some_iff.1 e).1
theorem RowAt.same{w w':World}{rb:Nat}{c:Array Value}{T:TypeId}(h:RowAt w rb c T)(e:w'.heap[rb]?=w.heap[rb]?):RowAt w' rb c T:=by
 obtain⟨fr,h1,h2⟩:=h;exact⟨fr,e.trans h1,h2⟩
theorem RowAt.plain{w:World}{rb:Nat}{c:Array Value}{T:TypeId}(h:w.heap[rb]?=some (.cells c T)):RowAt w rb c T:=⟨(0,0),h,.inl rfl⟩
def ObjOk(H:Aq)(ι:AL)(w:World)(r:Ent):AObj->Prop
  | .free=>True
  | .row p sz es=>r.sz=sz/\0<sz/\r.n=es.length/\es.length*sz<=r.csz/\(∀(i:Nat) (cs:List AV),es[i]?=some cs->cs.length=sz)/\
      (r.solid->∃c T,RowAt w r.rb c T/\c.size=r.csz/\rowCells H (bif p then AE else ι) sz es c)
  | .map kvs=>r.sz=0/\r.solid/\∃es clk,w.heap[r.rb]?=some (.map es clk)/\Hb H kvs es/\BornOk clk (es.toList.map (·.born))
  | .iter0=>r.sz=0/\r.n=0/\r.solid/\w.heap[r.rb]?=some (.mapIter none 0 #[] 0)
structure HeapRel(H:Aq)(ι:AL)(h:Aa)(w:World):Prop where
  know:∀b c,H b=some c->∃T fr,w.heap[b]?=some (.cells c T fr)
  free:∀b,h b=some .free->ι b=none
  obj:∀b o,h b=some o->o.alive=true->∃r,ι b=some r/\ObjOk H ι w r o/\(r.solid->H r.rb=none)
  inj:∀b b' o o' r r',h b=some o->o.alive=true->h b'=some o'->o'.alive=true->ι b=some r->ι b'=some r'->r.solid->r'.solid->b≠b'->r.rb≠r'.rb
  glob:GlobOk H
def Ft(h:Aa)(ι:AL)(rb:Nat):Prop:=∃b o r,h b=some o/\o.alive=true/\ι b=some r/\r.solid/\r.rb=rb
theorem HeapRel.lt{H:Aq}{ι:AL}{h:Aa}{w:World}(hr:HeapRel H ι h w){rb:Nat}(ho:Ft h ι rb):rb<w.heap.size:=by
 obtain⟨b,o,r,h1,h2,h3,hsol,rfl⟩:=ho;obtain⟨r',e1,e2,_⟩:=hr.obj b o h1 h2;rw[h3]at e1;cases e1
 cases o with
 |free=>cases h2
 |row p sz es=>obtain⟨_,_,_,_,_,hx⟩:=e2;obtain⟨c,T,hc,_⟩:=hx hsol;exact hc.lt
 |map kvs=>obtain⟨_,_,es,clk,hc,_⟩:=e2;exact(Array.getElem?_eq_some_iff.1 hc).1
 |iter0=>exact(Array.getElem?_eq_some_iff.1 e2.2.2.2).1
theorem HeapRel.knowlt{H:Aq}{ι:AL}{h:Aa}{w:World}(hr:HeapRel H ι h w){b:Nat}{c:Array Value}(hc:H b=some c):b<w.heap.size:=by
 obtain⟨T,fr,e⟩:=hr.know b c hc;exact(Array.getElem?_eq_some_iff.1 e).1
structure Step(H:Aq)(ι:AL)(h:Aa)(w:World)(H':Aq)(ι':AL)(h':Aa)(w':World):Prop where
  size:w.heap.size<=w'.heap.size
  os:w'.os=w.os
  out:w'.output=w.output
  keep:∀rb,rb<w.heap.size->¬Ft h ι rb->w'.heap[rb]?=w.heap[rb]?
  kle:KLe H H'
  knew:∀b,H' b≠none->H b≠none\/w.heap.size<=b\/Ft h ι b
  lle:LLe ι ι'
  lframe:∀b,h b=none->ι' b=ι b
  newrb:∀b r',ι' b=some r'->r'.solid->ι b=some r'\/w.heap.size<=r'.rb\/∃r,ι b=some r/\r.solid/\r.rb=r'.rb
  dom:∀b,h b=none->h' b=none
theorem Step.refl(H:Aq)(ι:AL)(h:Aa)(w:World):Step H ι h w H ι h w where
 size:=Nat.le_refl _
 os:=rfl
 out:=rfl
 keep:=fun _ _ _=>rfl
 kle:=KLe.refl _
 knew:=fun _ h=>.inl h
 lle:=LLe.refl _
 lframe:=fun _ _=>rfl
 newrb:=fun _ _ h _=>.inl h
 dom:=fun _ h=>h
theorem Step.owned{H:Aq}{ι:AL}{h:Aa}{w:World}{H':Aq}{ι':AL}{h':Aa}{w':World}
 (hr:HeapRel H ι h w) (s:Step H ι h w H' ι' h' w') {rb:Nat} (ho:Ft h' ι' rb):Ft h ι rb\/w.heap.size<=rb:=by
 obtain⟨b,o,r',h1,h2,h3,hsol,rfl⟩:=ho
 cases e1:h b with
 |none=>rw[s.dom b e1]at h1;cases h1
 |some o0=>
  have e2:ι b≠none->o0.alive=true:=fun hne=>by
   cases o0 with
   |free=>exact absurd (hr.free b e1) hne
   |_=>rfl
  rcases s.newrb b r' h3 hsol with e|e|⟨r,e,es,e'⟩
  . exact .inl ⟨b,o0,r',e1,e2 (by rw[e];simp),e,hsol,rfl⟩
  . exact .inr e
  . exact .inl ⟨b,o0,r,e1,e2 (by rw[e];simp),e,es,e'⟩
theorem Step.trans{H:Aq}{ι:AL}{h:Aa}{w:World}{H':Aq}{ι':AL}{h':Aa}{w':World}{H'':Aq}{ι'':AL}{h'':Aa}{w'':World}
 (hr:HeapRel H ι h w) (s:Step H ι h w H' ι' h' w') (hr':HeapRel H' ι' h' w') (t:Step H' ι' h' w' H'' ι'' h'' w''):Step H ι h w H'' ι'' h'' w'' where
 size:=Nat.le_trans s.size t.size
 os:=t.os.trans s.os
 out:=t.out.trans s.out
 keep:=fun rb hlt hno=>by
  rw[t.keep rb (Nat.lt_of_lt_of_le hlt s.size) (fun ho=>?_),s.keep rb hlt hno];rcases s.owned hr ho with h1|h1
  . exact hno h1
  . omega
 kle:=s.kle.trans t.kle
 knew:=fun b hb=>by
  rcases t.knew b hb with h1|h1|h1
  . exact s.knew b h1
  . exact .inr (.inl (Nat.le_trans s.size h1))
  . rcases s.owned hr h1 with h2|h2
    . exact .inr (.inr h2)
    . exact .inr (.inl h2)
 lle:=s.lle.trans t.lle
 lframe:=fun b hb=>(t.lframe b (s.dom b hb)).trans (s.lframe b hb)
 newrb:=fun b r'' hb hsol=>by
  rcases t.newrb b r'' hb hsol with h1|h1|⟨r',h1,hs1,h2⟩
  . exact s.newrb b r'' h1 hsol
  . exact .inr (.inl (Nat.le_trans s.size h1))
  . rcases s.newrb b r' h1 hs1 with h3|h3|⟨r,h3,hs3,h4⟩
    . exact .inr (.inr ⟨r',h3,hs1,h2⟩)
    . exact .inr (.inl (h2▸h3))
    . exact .inr (.inr ⟨r,h3,hs3,h4.trans h2⟩)
 dom:=fun b hb=>t.dom b (s.dom b hb)
end Go.Proofs.YtijlphdockhgjaaGreatDoor.Sv
namespace Go.Proofs.YtijlphdockhgjaaGreatDoor.Sv
open Go
structure Sim(H:Aq)(ι:AL)(s:Ac)(a:Act)(w:World):Prop where
  n:a.tmps.size=s.n
  d:a.defers=[]
  env:∀t x,s.env t=some x->∃v,a.tmps[t]?=some v/\Rel H ι x v
  heap:HeapRel H ι s.h w
def Post(H:Aq)(ι:AL)(h:Aa)(w:World)(Q:Exit->Ac->Prop):Exit->Act->World->Prop:=fun e a' w'=>
  ∃s' H' ι',Q e s'/\Sim H' ι' s' a' w'/\Step H ι h w H' ι' s'.h w'
def AGo(P:Program)(c:Code)(s:Ac)(Q:Exit->Ac->Prop):Prop:=
  ∀H ι a w,Sim H ι s a w->c.wp P (Post H ι s.h w Q) a w
section
variable {P : Program} {Q : Exit -> Ac -> Prop} {s : Ac}
theorem Post.mono{H:Aq}{ι:AL}{h:Aa}{w:World}{Q Q':Exit->Ac->Prop}{e:Exit}{a:Act}{w':World}(hp:Post H ι h w Q e a w')(hq:∀s,Q e s->Q' e s):Post H ι h w Q' e a w':=by
 obtain⟨s',H',ι',q,r⟩:=hp;exact⟨s',H',ι',hq _ q,r⟩
theorem Post.step{H:Aq}{ι:AL}{h:Aa}{w:World}{H':Aq}{ι':AL}{h':Aa}{w':World}(hr:HeapRel H ι h w)(hr':HeapRel H' ι' h' w')(st:Step H ι h w H' ι' h' w')
 {Q:Exit->Ac->Prop} {e:Exit} {a:Act} {w'':World} (hp:Post H' ι' h' w' Q e a w''):Post H ι h w Q e a w'':=by
 obtain⟨s',H'',ι'',q,r,t⟩:=hp;exact⟨s',H'',ι'',q,r,st.trans hr hr' t⟩
theorem AGo.mono{c:Code}{Q':Exit->Ac->Prop}(h:AGo P c s Q)(hq:∀e s,Q e s->Q' e s):AGo P c s Q':=
 fun H ι a w hs=>wp_mono (h H ι a w hs) fun e a' w' hp=>hp.mono (hq e)
theorem AGo.skip(h:Q .normal s):AGo P .skip s Q:=fun H ι a w hs=>wp_skip ⟨s,H,ι,h,hs,Step.refl _ _ _ _⟩
theorem AGo.exit{id:Nat}(h:Q (.exit id) s):AGo P (.exit id) s Q:=fun H ι a w hs=>wp_exit ⟨s,H,ι,h,hs,Step.refl _ _ _ _⟩
theorem AGo.ret(h:Q .ret s):AGo P .ret s Q:=fun H ι a w hs=>wp_ret ⟨s,H,ι,h,hs,Step.refl _ _ _ _⟩
theorem AGo.label{l:Nat}(h:Q .normal s):AGo P (.label l) s Q:=fun H ι a w hs=>wp_label ⟨s,H,ι,h,hs,Step.refl _ _ _ _⟩
def Bk(K:Ac->Prop)(Q:Exit->Ac->Prop):Exit->Ac->Prop
  | .normal,s=>K s
  |e,s=>Q e s
theorem AGo.seq{x y:Code}(h:AGo P x s (Bk (fun s'=>AGo P y s' Q) Q)):AGo P (.seq x y) s Q:=by
 intro H ι a w hs;refine wp_seq (wp_mono (h H ι a w hs) fun e a' w' hp=>?_)
 cases e with
 |normal=>
  obtain⟨s',H',ι',q,r,t⟩:=hp;exact wp_mono (q H' ι' a' w' r) fun e a'' w'' hp'=>Post.step hs.heap r.heap t hp'
 |_=>exact hp
theorem AGo.cond{c:Operand}{x y:Code}{t:Nat}{b:Bool}(hc:c=.tmp t)(he:s.env t=some (.bool b))(h1:b=true->AGo P x s Q)(h2:b=false->AGo P y s Q):AGo P (.cond c x y) s Q:=by
 intro H ι a w hs;subst hc;obtain⟨v,hv,hr⟩:=hs.env t _ he
 cases hr
 have hev:a.eval (.tmp t)=.bool b:=by simp[Act.eval,hv]
 exact wp_cond_split hev (fun e=>h1 e H ι a w hs) (fun e=>h2 e H ι a w hs)
theorem AGo.cond_true{t:Nat}{x y:Code}(b:Bool)(he:s.env t=some (.bool b))(hb:b=true)(h:AGo P x s Q):AGo P (.cond (.tmp t) x y) s Q:=
 AGo.cond rfl he (fun _=>h) aX
theorem AGo.cond_false{t:Nat}{x y:Code}(b:Bool)(he:s.env t=some (.bool b))(hb:b=false)(h:AGo P y s Q):AGo P (.cond (.tmp t) x y) s Q:=
 AGo.cond rfl he aX (fun _=>h)
def JD(id:Nat)(Q:Exit->Ac->Prop):Exit->Ac->Prop
  | .exit id',s=>bif Nat.beq id' id then Q .normal s else Q (.exit id') s
  |e,s=>Q e s
theorem AGo.block{id:Nat}{c:Code}(h:AGo P c s (JD id Q)):AGo P (.block id c) s Q:=by
 intro H ι a w hs;refine wp_block (wp_mono (h H ι a w hs) fun e a' w' hp=>?_);exact kK
theorem AGo.loop{γ:Type}{c:Code}(I:γ->Ac->Prop)(μ:γ->Nat)(g0:γ)(h0:I g0 s)
 (round:∀g s,I g s->AGo P c s (Bk (fun s'=>∃g',I g' s'/\μ g'<μ g) Q)):AGo P (.loop c) s Q:=by
 intro H ι a w hs b k cs;have key:∀n g s1 H1 ι1 a1 w1,μ g=n->I g s1->Sim H1 ι1 s1 a1 w1->Step H ι s.h w H1 ι1 s1.h w1->
  ∃e a' w',Post H ι s.h w Q e a' w'/\Arrives P (lone (b.at a1 (.code c:: .inLoop c::k)) cs w1) b k cs e a' w':=by
  intro n
  induction n using Nat.strongRecOn with
  |_ n ih=>
   intro g s1 H1 ι1 a1 w1 hn hI hs1 hst;obtain⟨e,a₂,w₂,hq,harr⟩:=round g s1 hI H1 ι1 a1 w1 hs1 b (.inLoop c::k) cs;obtain⟨s2,H2,ι2,q,r,t⟩:=hq;have t':=hst.trans hs.heap hs1.heap t
   cases e with
   |normal=>
    obtain⟨g',hI',hlt⟩:=q;obtain⟨e₂,a₃,w₃,hq₂,harr₂⟩:=ih (μ g') (hn▸hlt) g' s2 H2 ι2 a₂ w₂ rfl hI' r t';exact⟨e₂,a₃,w₃,hq₂,.of_steps (Steps.trans harr (.one step_inLoop)) harr₂⟩
   |exit id=>exact⟨_,a₂,w₂,⟨s2,H2,ι2,q,r,t'⟩,.pass (x:=.inLoop c) rfl (fun _ _=>.inl Az) harr⟩
   |goto l=>exact⟨_,a₂,w₂,⟨s2,H2,ι2,q,r,t'⟩,.pass (x:=.inLoop c) rfl (fun _ _=>.inl Az) harr⟩
   |ret=>exact⟨_,a₂,w₂,⟨s2,H2,ι2,q,r,t'⟩,.pass (x:=.inLoop c) rfl (fun _ _=>.inl Az) harr⟩
   |panic ch=>exact⟨_,a₂,w₂,⟨s2,H2,ι2,q,r,t'⟩,.pass (x:=.inLoop c) rfl (fun _ _=>.inl Az) harr⟩
   |outgrown=>exact⟨_,a₂,w₂,⟨s2,H2,ι2,q,r,t'⟩,.pass (x:=.inLoop c) rfl (fun _ _=>.inl Az) harr⟩
 obtain⟨e,a',w',hq,harr⟩:=key _ g0 s H ι a w rfl h0 hs (Step.refl _ _ _ _);exact⟨e,a',w',hq,.of_steps (.one step_loop) harr⟩
def Sub(s s':Ac):Prop:=s.n=s'.n/\(∀t x,s.env t=some x->s'.env t=some x)/\(∀b o,s.h b=some o->s'.h b=some o)
theorem HeapRel.sub{H:Aq}{ι:AL}{h h':Aa}{w:World}(hr:HeapRel H ι h' w)(hs:∀b o,h b=some o->h' b=some o):HeapRel H ι h w where
 know:=hr.know
 glob:=hr.glob
 free:=fun b e=>hr.free b (hs _ _ e)
 obj:=fun b o e ea=>hr.obj b o (hs _ _ e) ea
 inj:=fun b b' o o' r r' h1 h2 h3 h4=>hr.inj b b' o o' r r' (hs _ _ h1) h2 (hs _ _ h3) h4
theorem Sim.sub{H:Aq}{ι:AL}{s s':Ac}{a:Act}{w:World}(h:Sim H ι s' a w)(hs:Sub s s'):Sim H ι s a w where
 n:=h.n.trans hs.1.symm
 d:=h.d
 env:=fun t x e=>h.env t x (hs.2.1 t x e)
 heap:=h.heap.sub hs.2.2
end
end Go.Proofs.YtijlphdockhgjaaGreatDoor.Sv
namespace Go.Proofs.YtijlphdockhgjaaGreatDoor.Sv
open Go
inductive TK where
  |bool|int (k:IntKind)|string|slice (e:Nat)|struct (fs:List (Nat×Nat))|array (n e:Nat)|ptr (e:Nat)|map (k e:Nat)|fn|other
structure Ae where
  k:TK
  size:Nat
  bytes:Nat
  zero:List AV
def Ho:Value->Option AV
  | .bool b=>some (.bool b)
  | .int k n=>some (.int k n)
  | .string s=>some (.str s)
  | .slice none 0 0=>some .nil
  | .pointer none=>some .nilp
  | .nilFunc=>some (.val .nilFunc)
  | .nilIface=>some (.val .nilIface)
  | .map none=>some (.val (.map none))
  |_=>none
def allAV:List Value->Option (List AV)
  | []=>some []
  |v::vs=>match Ho v,allAV vs with
    |some x,some xs=>some (x::xs)
    |_,_=>none
def Ff(P:Program):TypeDesc->TK
  | .bool=>.bool
  | .int k=>.int k
  | .string=>.string
  | .slice e=>.slice e
  | .struct fs=>bif fs.all (fun f=>P.cellsOf f.type !=0)then .struct (fs.toList.map fun f=>(f.offset,f.type))else .other
  | .array n e=>.array n e
  | .pointer e=>.ptr e
  | .map k e=>.map k e
  | .func .. =>.fn
  |_=>.other
def Vb(P:Program)(t:Nat):Option Ae:=
  match P.info? t,P.underlying t with
  |some i,some d=>some {k:=Ff P d,size:=i.size,bytes:=i.bytes,zero:=((i.zero.bind fun z=>allAV z.cells.toList).getD [])}
  |_,_=>none
def Bc(P:Program)(T:Nat->Option Ae):Prop:=∀t i,T t=some i->Vb P t=some i
theorem Iw{H:Aq}{ι:AL}{v:Value}{x:AV}(h:Ho v=some x):Rel H ι x v:=by
 unfold Ho at h;split at h<;>simp at h<;>subst h
 . exact .bool _ _
 . exact .int _ _ _
 . exact .str _ _
 . exact .nil _
 . exact .nilp _
 . exact .val _ _ rfl
 . exact .val _ _ rfl
 . exact .val _ _ rfl
theorem CC{H:Aq}{ι:AL}:∀{vs:List Value} {xs:List AV},allAV vs=some xs->xs.length=vs.length/\∀(j:Nat) (x:AV) (v:Value),xs[j]?=some x->vs[j]?=some v->Rel H ι x v
 | [],xs,h=>by
  simp[allAV]at h;subst h;exact⟨rfl,fun j x v h1=>by simp at h1⟩
 |v::vs,xs,h=>by
  unfold allAV at h;split at h
  . rename_i x ys h1 h2;simp at h;subst h;have ih:=CC (H:=H) (ι:=ι) h2;refine⟨by simp[ih.1],fun j y u e1 e2=>?_⟩
    cases j with
    |zero=>simp at e1 e2;subst e1;subst e2;exact Iw h1
    |succ j=>simp at e1 e2;exact ih.2 j y u e1 e2
  . cases h
theorem Af{P:Program}{t:Nat}{i:Ae}(h:Vb P t=some i):∃info d,P.info? t=some info/\P.underlying t=some d/\i.k=Ff P d/\info.size=i.size/\info.bytes=i.bytes/\
 i.zero=((info.zero.bind fun z=>allAV z.cells.toList).getD []):=by
 unfold Vb at h;split at h
 . rename_i info d h1 h2;simp at h;subst h;exact⟨info,d,h1,h2,rfl,rfl,rfl,rfl⟩
 . cases h
theorem Cz{info:TypeInfo}{i:Ae}(hz:i.zero=((info.zero.bind fun z=>allAV z.cells.toList).getD []))(hl:i.zero.length=i.size)(hp:0<i.size):
 ∃z,info.zero=some z/\allAV z.cells.toList=some i.zero:=by
 cases e:info.zero with
 |none=>rw[e]at hz;simp at hz;rw[hz]at hl;simp at hl;omega
 |some z=>
  rw[e]at hz;simp only[Option.bind_some]at hz
  cases e2:allAV z.cells.toList with
  |none=>rw[e2]at hz;simp at hz;rw[hz]at hl;simp at hl;omega
  |some xs=>rw[e2]at hz;simp at hz;exact⟨z,rfl,by rw[e2,hz]⟩
def EJ:Value->Option AV
  | .agg cs=>match allAV cs.toList with
    |some xs=>some (.agg xs)
    |none=>none
  |v=>Ho v
theorem Hm{H:Aq}{ι:AL}{v:Value}{x:AV}(h:EJ v=some x):Rel H ι x v:=by
 unfold EJ at h;split at h
 . rename_i cs;split at h
   . rename_i xs e;simp at h;subst h;have:=CC (H:=H) (ι:=ι) e;exact .agg _ _ _ (by simpa using this.1) (fun j x v h1 h2=>this.2 j x v h1 Lf)
   . cases h
 . exact Iw h
def look(env:Ar):Operand->Option AV
  | .tmp t=>env t
  | .const v=>EJ v
  | .func f=>some (.fn (.func f) [] [])
  | .global g=>(ZC g).map Pm
theorem Ai{H:Aq}{ι:AL}{s:Ac}{a:Act}{w:World}(hs:Sim H ι s a w){o:Operand}{x:AV}(h:look s.env o=some x):Rel H ι x (a.eval o):=by
 cases o with
 |tmp t=>
  obtain⟨v,hv,hr⟩:=hs.env t x h;simpa[Act.eval,hv]using hr
 |const v=>exact Hm h
 |func f=>
  simp only[look,Option.some.injEq]at h;subst h;exact .fn _ _ _ _ _ _ rfl rfl (fun j x v h1=>by simp at h1) (fun j x v h1=>by simp at h1)
 |global g=>
  simp only[look,Option.map_eq_some_iff]at h;obtain⟨l,hl,rfl⟩:=h;exact(hs.heap.glob g l hl).mono (KLe.refl _) (LLe.none ι)
def Bf(op:BinOp)(k:IntKind)(a b:Int):Option AV:=
  match op with
  | .add=>some (.int k (k.wrap (a+b)))
  | .sub=>some (.int k (k.wrap (a-b)))
  | .mul=>some (.int k (k.wrap (a*b)))
  | .quo=>if b=0 then none else some (.int k (k.wrap (a.tdiv b)))
  | .rem=>if b=0 then none else some (.int k (a.tmod b))
  | .and=>some (.int k (k.wrap ((BitVec.ofInt k.bits a&&&BitVec.ofInt k.bits b).toNat)))
  | .or=>some (.int k (k.wrap ((BitVec.ofInt k.bits a|||BitVec.ofInt k.bits b).toNat)))
  | .xor=>some (.int k (k.wrap ((BitVec.ofInt k.bits a^^^BitVec.ofInt k.bits b).toNat)))
  | .andNot=>some (.int k (k.wrap ((BitVec.ofInt k.bits a&&& ~~~BitVec.ofInt k.bits b).toNat)))
  | .shl=>if b<0 then none else some (.int k (k.wrap (a*2^(min b.toNat k.bits))))
  | .shr=>if b<0 then none else some (.int k (a.fdiv (2^(min b.toNat k.bits))))
  | .eql=>some (.bool (a==b))
  | .neq=>some (.bool (a !=b))
  | .lss=>some (.bool (decide (a<b)))
  | .leq=>some (.bool (decide (a<=b)))
  | .gtr=>some (.bool (decide (a>b)))
  | .geq=>some (.bool (decide (a>=b)))
def isShift:BinOp->Bool
  | .shl| .shr=>true
  |_=>false
def eqCell:AV->AV->Option Bool
  | .int k a,.int k' b=>if k=k' then some (a==b)else none
  | .bool a,.bool b=>some (a==b)
  | .str a,.str b=>some (a.toList==b.toList)
  |_,_=>none
def eqCells:List AV->List AV->Option Bool
  | [],[]=>some true
  |x::xs,y::ys=>match eqCell x y,eqCells xs ys with
    |some p,some q=>some (p&&q)
    |_,_=>none
  |_,_=>none
def AM(op:BinOp)(x y:AV):Option AV:=
  match x,y with
  | .int k a,.int k' b=>bif isShift op then Bf op k a b else if k=k' then Bf op k a b else none
  | .str a,.str b=>match op with
    | .eql=>some (.bool (a.toList==b.toList))
    | .neq=>some (.bool (!(a.toList==b.toList)))
    |_=>none
  |_,_=>none
theorem Qe{P:Program}{w:World}{H:Aq}{ι:AL}{op:BinOp}{T:TypeId}{k k':IntKind}{a b:Int}{r:AV}(hk:isShift op=true\/k=k')(h:Bf op k a b=some r):
 ∃v,Rel H ι r v/\(binOp op T (.int k a) (.int k' b)).run P w=.ok v w:=by
 cases op<;>simp only[Bf,Option.some.injEq]at h
 case quo=>split at h;cases h;(rename_i hb;rcases hk with hk|rfl;· cases hk);simp at h;subst h;exact⟨_,.int _ _ _,by simp[binOp,Op.intDiv,hb]⟩
 case rem=>split at h;cases h;(rename_i hb;rcases hk with hk|rfl;· cases hk);simp at h;subst h;exact⟨_,.int _ _ _,by simp[binOp,Op.intDiv,hb]⟩
 case shl=>split at h;cases h;rename_i hb;simp at h;subst h;exact⟨_,.int _ _ _,by simp[binOp,Op.shift,hb]⟩
 case shr=>split at h;cases h;rename_i hb;simp at h;subst h;exact⟨_,.int _ _ _,by simp[binOp,Op.shift,hb]⟩
 all_goals
  rcases hk with hk|rfl
  . cases hk
  subst h
  first
   |exact⟨_,.int _ _ _,by simp[binOp,Op.intArith,Op.intBits,Op.intCmp]⟩
   |exact⟨_,.bool _ _,by simp[binOp,Op.intArith,Op.intBits,Op.intCmp]⟩
theorem Qf{P:Program}{w:World}{H:Aq}{ι:AL}{op:BinOp}{T:TypeId}{xo yo:Operand}{x y r:AV}{u v:Value}(hx:Rel H ι x u)(hy:Rel H ι y v)(h:AM op x y=some r):
 ∃z,Rel H ι r z/\(do eqGuard op T xo yo u v;binOp op T u v:Sem Value).run P w=.ok z w:=by
 unfold AM at h;split at h
 . rename_i k a k' b
   cases hx;cases hy
   have hk:(isShift op=true\/k=k')/\Bf op k a b=some r:=by
    cases e:isShift op with
    |true=>rw[e]at h;exact⟨.inl rfl,h⟩
    |false=>
     rw[e]at h;simp only[cond_false]at h;split at h
     . exact⟨.inr BD,h⟩
     . cases h
   obtain⟨z,h1,h2⟩:=Qe (P:=P) (w:=w) (H:=H) (ι:=ι) (T:=T) hk.1 hk.2;refine⟨z,h1,?_⟩;have hg:(eqGuard op T xo yo (.int k a) (.int k' b)).run P w=.ok () w:=by unfold eqGuard;cases op<;>simp
   rw[Sem.run_bind,hg];exact h2
 . rename_i a b
   cases hx;cases hy
   have hg:(eqGuard op T xo yo (.string a) (.string b)).run P w=.ok () w:=by unfold eqGuard;cases op<;>simp
   split at h
   . simp at h;subst h;exact⟨_,.bool _ _,by rw[Sem.run_bind,hg,Result.andThen_ok,binOp_string_eql];rfl⟩
   . simp at h;subst h;exact⟨_,.bool _ _,by rw[Sem.run_bind,hg,Result.andThen_ok,binOp_string_neq];rfl⟩
   . cases h
 . cases h
end Go.Proofs.YtijlphdockhgjaaGreatDoor.Sv
