/-
  NO PACKAGE VARIABLES ARE LOOKED INTO: own work, over no program.
-/
import Derived.Calls
import Derived.Orders
import Derived.Laws.Sem
import Derived.Laws.World
import Derived.Laws.Cells
import Derived.Laws.Rows
import Derived.Laws.AppendOwn
import Derived.Laws.MakeOwn
import Derived.Laws.Slices
import Derived.Laws.Small
import Derived.Laws.Strings
import Derived.Laws.StructEq
import Derived.WalkKit
set_option linter.unusedVariables false
set_option linter.unusedSimpArgs false
set_option maxRecDepth 100000
set_option maxHeartbeats 2000000
namespace Go.Proofs.YtmfihmkopmgelaaGreat.Sv
open Go
theorem mN{p:Prop}(h:p:=by intro x_;(try simp only[AB]);(try dsimp only);first|exact Ax _ _ _|exact(BL _ _ _ x_).trans (Ax _ _ _)|exact LW (fun y_=>by first|exact Ax _ _ _|exact(BL _ _ _ y_).trans (Ax _ _ _)|((repeat(first|refine AQ (by exact Ay (by omega)) ?_|refine hrm_skip (by omega) ?_));first|exact Ax _ _ _|exact(BL _ _ _ y_).trans (Ax _ _ _))|exact LW (fun v_=>by first|exact Ax _ _ _|exact(BL _ _ _ v_).trans (Ax _ _ _)|((repeat(first|refine AQ (by exact Ay (by omega)) ?_|refine hrm_skip (by omega) ?_));first|exact Ax _ _ _|exact(BL _ _ _ v_).trans (Ax _ _ _))|exact LW (fun u_=>by first|exact Ax _ _ _|exact(BL _ _ _ u_).trans (Ax _ _ _)|((repeat(first|refine AQ (by exact Ay (by omega)) ?_|refine hrm_skip (by omega) ?_));first|exact Ax _ _ _|exact(BL _ _ _ u_).trans (Ax _ _ _))) (fun u_ hu_=>B3 (by omega)) (fun u_ hu_=>B3 (by omega)) v_) (fun v_ hv_=>B3 (by omega)) (fun v_ hv_=>B3 (by omega)) y_) (fun y_ hy_=>B3 (by omega)) (fun y_ hy_=>B3 (by omega)) x_|((repeat(first|refine AQ (by exact Ay (by omega)) ?_|refine hrm_skip (by omega) ?_));first|exact Ax _ _ _|exact(BL _ _ _ x_).trans (Ax _ _ _))):p:=h
theorem HW{p:Prop}(h:p:=by intro x_;(try simp only[AB]);(try dsimp only);first|exact Ax _ _ _|exact(BL _ _ _ x_).trans (Ax _ _ _)|exact LW (fun y_=>by first|exact Ax _ _ _|exact(BL _ _ _ y_).trans (Ax _ _ _)|((repeat(first|refine AQ (by exact Ay (by omega)) ?_|refine hrm_skip (by omega) ?_));first|exact Ax _ _ _|exact(BL _ _ _ y_).trans (Ax _ _ _))|exact LW (fun v_=>by first|exact Ax _ _ _|exact(BL _ _ _ v_).trans (Ax _ _ _)) (fun v_ hv_=>B3 (by omega)) (fun v_ hv_=>B3 (by omega)) y_) (fun y_ hy_=>B3 (by omega)) (fun y_ hy_=>B3 (by omega)) x_|((repeat(first|refine AQ (by exact Ay (by omega)) ?_|refine hrm_skip (by omega) ?_));first|exact Ax _ _ _|exact(BL _ _ _ x_).trans (Ax _ _ _))):p:=h
theorem mM{p:Prop}(h:p:=by repeat(first|exact trivial|refine⟨by first|rfl|exact BV rfl|exact(IA (by decide)).trans rfl|exact(Fx (by decide) (by decide) (by decide)).trans ((Fx (by decide) (by decide) (by decide)).trans (BV rfl))|exact(Fx (by decide) (by decide) (by decide)).trans ((Fx (by decide) (by decide) (by decide)).trans rfl)|exact(Fx (by decide) (by decide) (by decide)).trans ((Fx (by decide) (by decide) (by decide)).trans ((Fx (by decide) (by decide) (by decide)).trans rfl)),?_⟩)):p:=h
theorem kq{p:Prop}(h:p:=by intro x_;(try simp only[AB]);(try dsimp only);first|exact Ax _ _ _|exact(BL _ _ _ x_).trans (Ax _ _ _)|exact LW (fun y_=>by first|exact Ax _ _ _|exact(BL _ _ _ y_).trans (Ax _ _ _)) (fun y_ hy_=>B3 (by omega)) (fun y_ hy_=>B3 (by omega)) x_|((repeat(first|refine AQ (by exact Ay (by omega)) ?_|refine hrm_skip (by omega) ?_));first|exact Ax _ _ _|exact(BL _ _ _ x_).trans (Ax _ _ _))):p:=h
theorem bQ{p:Prop}(h:p:=by intro c h1 h2;rcases(by omega:c=4\/c=5\/c=6\/c=7\/c=8\/c=9\/c=10\/c=11\/c=12\/c=13\/c=14\/c=15)with rfl|rfl|rfl|rfl|rfl|rfl|rfl|rfl|rfl|rfl|rfl|rfl<;>first|rfl|(try simp only[AB];repeat(first|rfl|refine AQ (by exact Ay (by omega)) ?_|refine hrm_skip (by omega) ?_))):p:=h
theorem mL{p:Prop}(h:p:=by repeat(first|exact HSub.refl _|exact HSub.none _|exact Be _|exact A6 (by first|decide|omega|(dsimp only;omega))|refine HSub.put ?_ (by first|rfl|exact congrArg (fun es=>some (rt 1 es)) (GQ _))|refine Bc ?_ (by first|decide|omega|(dsimp only;omega))|refine Bq ?_ (by decide))):p:=h
theorem eT{p:Prop}(h:p:=by have hb1:=Cj (l.take k);have hb2:=NW hx;have hb3:=PSt.parts_kids x;have hb4:=JY x.kind x.name x.es.length;have hb5:=CZ x.es;have hb6:=Cj x.thn;have hb7:=Cj x.els;simp only[List.length_append,List.length_map,partVals,List.length_cons,List.length_nil];show _*32<=140737488355328;omega):p:=h
theorem eS{p:Prop}(h:p:=by have hb1:=Cj (l.take k);have hb2:=NW hx;have hb3:=PSt.parts_kids x;have hb4:=JY x.kind x.name x.es.length;have hb5:=CZ x.es;have hb6:=Cj x.thn;have hb7:=Cj x.els;simp only[List.length_append,List.length_map,partVals,List.length_cons,List.length_nil];simp only[maxLen];omega):p:=h
theorem mK{p:Prop}(h:p:=by intro c h1 h2;rcases(by omega:c=7\/c=8\/c=9\/c=10\/c=11\/c=12\/c=13\/c=14\/c=15)with rfl|rfl|rfl|rfl|rfl|rfl|rfl|rfl|rfl<;>first|rfl|(try simp only[AB];repeat(first|rfl|refine AQ (by exact Ay (by omega)) ?_|refine hrm_skip (by omega) ?_))):p:=h
theorem Dn{p:Prop}(h:p:=by intro x_;(try simp only[AB]);(try dsimp only);first|exact Ax _ _ _|exact(BL _ _ _ x_).trans (Ax _ _ _)|((repeat(first|refine AQ (by exact Ay (by omega)) ?_|refine hrm_skip (by omega) ?_));first|exact Ax _ _ _|exact(BL _ _ _ x_).trans (Ax _ _ _))):p:=h
theorem Jb{p:Prop}(h:p:=by repeat(first|exact trivial|refine⟨(by first|exact Sg _|exact WV _ _ _ _|(intro b_ hb_;cases hb_;done)|(intro b_ hb_;simp at hb_;subst hb_;decide)),(by first|exact Sg _|exact WV _ _ _ _|(intro b_ hb_;cases hb_;done)|(intro b_ hb_;simp at hb_;subst hb_;decide)),?_⟩)):p:=h
theorem Y4{p:Prop}(h:p:=by have hb1:=CZ (l.take k);have hb2:=Qy hx;have hb3:=PE.parts_kids x;have hb4:=L0 x.kind x.name x.kids.length;have hb5:=CZ x.kids;simp only[List.length_append,List.length_map,partVals,List.length_cons,List.length_nil];show _*32<=140737488355328;omega):p:=h
theorem Bn{p:Prop}(h:p:=by repeat(first|exact HSub.refl _|exact HSub.none _|exact Be _|exact A6 (by first|decide|omega|(dsimp only;omega))|refine HSub.put ?_ (by rfl)|refine Bc ?_ (by first|decide|omega|(dsimp only;omega))|refine Bq ?_ (by decide))):p:=h
theorem Y3{p:Prop}(h:p:=by have hb1:=CZ (l.take k);have hb2:=Qy hx;have hb3:=PE.parts_kids x;have hb4:=L0 x.kind x.name x.kids.length;have hb5:=CZ x.kids;simp only[List.length_append,List.length_map,partVals,List.length_cons,List.length_nil];simp only[maxLen];omega):p:=h
theorem gl{p:Prop}(h:p:=by rcases(by omega:a/2^k%2=0\/a/2^k%2=1)with h1|h1<;>rcases(by omega:b/2^k%2=0\/b/2^k%2=1)with h2|h2<;>(try simp_all[VB])<;>first|(rw[bne_iff_ne.2 ‹¬op=11›];rfl)|(rw[bne_iff_ne.2 ‹¬op=9›];rfl)):p:=h
theorem Do{p:Prop}(h:p:=by repeat(first|exact trivial|refine⟨by first|rfl|exact BV rfl|exact(IA (by decide)).trans rfl|exact(Fx (by decide) (by decide) (by decide)).trans ((Fx (by decide) (by decide) (by decide)).trans (BV rfl)),?_⟩)):p:=h
theorem de{p:Prop}(h:p:=by(try simp only[AB]);repeat(first|rfl|exact Br _ _ _|refine AQ (by exact Ay (by omega)) ?_|refine hrm_skip (by omega) ?_|refine(HJ _ (fun i_ _=>by first|omega|(dsimp only;omega))).trans ?_)):p:=h
theorem FT{p:Prop}(h:p:=by repeat(first|exact HDrop.none _ _|exact C1 _ _|refine HDrop.put ?_ (by rfl) rfl (by first|rfl|exact DT _ _|exact Nu _|exact tab_avoid _ _ rfl rfl|exact wlk_avoid _ _ _ rfl rfl rfl))):p:=h
theorem KX{p:Prop}(h:p:=by intro x_;(try simp only[AB]);repeat(first|exact Ax _ _ _|exact FV _ _ _ _ _|exact WZ _ _ _ _|exact WY _ _ _ _|refine AQ (by exact Ay (by omega)) ?_)):p:=h
theorem gk{p:Prop}(h:p:=by repeat(first|exact trivial|refine⟨⟨by first|rfl|exact BV rfl,by first|rfl|exact CC (fun x_=>Hj 7 x_) _|exact IM rfl|exact DT _ _⟩,?_⟩)):p:=h
theorem CN{p:Prop}(h:p:=by intro x_;(try simp only[AB]);repeat(first|exact Ax _ _ _|exact FV _ _ _ _ _|refine AQ (by exact Ay (by omega)) ?_|refine hrm_skip (by omega) ?_)):p:=h
theorem gi{p:Prop}(h:p:=by intro x_;(try simp only[AB]);repeat(first|exact Ax _ _ _|refine AQ (by exact Ay (by omega)) ?_|refine hrm_skip (by omega) ?_)):p:=h
theorem gh{p:Prop}(h:p:=by have h9:=hp.aoff (k+1) hkl;have h8:=hp.a;simp only[Bh,BP,isShift,cond_false,if_true];rw[<-Du hx,BF (by omega) (by omega)]):p:=h
theorem gg{p:Prop}(h:p:=by repeat(first|exact ESub.new _|refine ESub.put ?_ (by first|rfl|(unfold CJ;rw[if_neg hne];rfl)|(unfold CJ;rw[if_pos he0];rfl)))):p:=h
theorem ge{p:Prop}(h:p:=by repeat(first|exact ESub.new _|refine ESub.put ?_ (by first|rfl|exact congrArg (fun(n:Nat)=>some (AV.int .u32 (n:Int))) (by simp)))):p:=h
theorem OK{p:Prop}(h:p:=by repeat(first|exact trivial|refine⟨⟨by first|rfl|exact BV rfl,by first|rfl|exact CC (fun x_=>Hj 4 x_) _⟩,?_⟩)):p:=h
theorem gd{p:Prop}(h:p:=by intro b hb;obtain⟨q,q1,q2⟩:=M4 (L:=L') (F:=F') hL' hm hA' hF' hb;exact⟨q,(BV hb).trans q1,(BV hb).trans q1,q2⟩):p:=h
theorem gc{p:Prop}(h:p:=by repeat(first|exact ESub.new _|refine ESub.put ?_ (by first|rfl|exact congrArg (fun n=>some (AV.int .i64 n)) (by simp[PProg.aoff])))):p:=h
theorem Y2{p:Prop}(h:p:=by first|rfl|exact congrArg (fun es=>some (rt 1 es)) (Gu _ _ _)|exact congrArg (fun es=>some (rt 1 es)) (Se _ _ _ _)):p:=h
theorem FSq{p:Prop}(h:p:=by repeat(first|exact EDrop.new _ _|refine EDrop.put ?_ (by rfl) (by first|rfl|exact Gp _ rfl|exact Nv _ rfl))):p:=h
theorem gb{p:Prop}(h:p:=by intro e w4 he;cases e<;>first|exact he|exact hpost _ _ _ he|(obtain⟨a3,w5,hp3⟩:=he;exact⟨a3,w5,hpost _ _ _ hp3⟩)):p:=h
theorem RN{p:Prop}(h:p:=by intro x_;(try simp only[AB]);(try dsimp only);first|exact Ax _ _ _|exact(BL _ _ _ x_).trans (Ax _ _ _)):p:=h
theorem PV{p:Prop}(h:p:=by first|rfl|exact DT _ _|exact Nu _|exact tab_avoid _ _ rfl rfl|exact wlk_avoid _ _ _ rfl rfl rfl):p:=h
theorem Y1{p:Prop}(h:p:=by repeat(first|exact trivial|refine⟨by first|rfl|exact BV rfl|exact(IA (by decide)).trans rfl,?_⟩)):p:=h
theorem Wm{p:Prop}(h:p:=by simp only[Bh,BP,isShift,cond_false,if_true];rw[BF (by omega) (by omega)];congr 2<;>omega):p:=h
theorem ga{p:Prop}(h:p:=by intro i v hv hw;have:=h (i+1) v (by simpa using hv) hw;rwa[Nat.add_right_comm k 1 i,Nat.add_assoc k i 1]):p:=h
theorem PU{p:Prop}(h:p:=by simp only[Bh,BP,isShift,cond_false,if_true];rw[List.length_map,BF (by omega) (by omega)]):p:=h
theorem Wl{p:Prop}(h:p:=by simp only[Bh,BP,isShift,cond_false,if_true];rw[BF (by omega) (by omega)];congr 2;omega):p:=h
theorem OJ{p:Prop}(h:p:=by simp only[Bh,BP,isShift,cond_false,if_true];rw[BF (by omega) (by omega)];rfl):p:=h
theorem f9{p:Prop}(h:p:=by have:=Cj x.body;have:=hp.body x (List.mem_of_getElem? hx);simp only[maxLen];omega):p:=h
theorem f8{p:Prop}(h:p:=by show some (AV.lst false _)=_;rw[List.drop_zero,List.take_of_length_le (by simp[AC])]):p:=h
theorem DL{p:Prop}(h:p:=by simp only[Bh,BP,isShift,cond_false,if_true];rw[BF (by omega) (by omega)]):p:=h
theorem f7{p:Prop}(h:p:=by(try simp only[AB]);exact congrArg (fun c=>some (rf 6 [c])) (OE C w b _).symm):p:=h
theorem fZ{p:Prop}(h:p:=by repeat(first|exact ESub.new _|refine ESub.put ?_ (by first|rfl|(rw[<-hol];rfl)))):p:=h
theorem Ip{p:Prop}(h:p:=by exact Ae Aj rfl rfl rfl rfl rfl rfl (Int.natCast_nonneg _) (AU (by assumption)) rfl):p:=h
theorem fY{p:Prop}(h:p:=by intro i xs j x hi hj;obtain⟨v,v1,v2,_⟩:=(hsz i xs hi).2 j x hj;rw[v1];exact v2):p:=h
theorem Bz{p:Prop}(h:p:=by repeat(first|exact trivial|refine⟨by first|rfl|exact BV rfl,?_⟩)):p:=h
theorem fX{p:Prop}(h:p:=by intro i xs j x hi hj;obtain⟨v,v1,v2,v3⟩:=(hsz i xs hi).2 j x hj;exact v3):p:=h
theorem fW{p:Prop}(h:p:=by have:=PSt.parts_mem (List.mem_of_getElem? hx);have:=PSt.parts_kids x;omega):p:=h
theorem fV{p:Prop}(h:p:=by intro i xs j x hi hj;obtain⟨v,v1,_⟩:=(hsz i xs hi).2 j x hj;rw[v1];rfl):p:=h
theorem Ni{p:Prop}(h:p:=by intro _;show(0:Int)<=(d:Int)/\(d:Int)<max _ ((d:Int)+1);omega):p:=h
theorem PT{p:Prop}(h:p:=by repeat(first|exact EDropK.new _ _|refine EDropK.put ?_ (by rfl) (by rfl))):p:=h
theorem Y0{p:Prop}(h:p:=by have h2:=CD he;have h3:CS.partsL thn<=m:=(by omega);omega):p:=h
theorem YZ{p:Prop}(h:p:=by have h2:=CD he;have h3:CS.partsL els<=m:=(by omega);omega):p:=h
theorem Dz{p:Prop}(h:p:=by repeat(first|exact fun b hb=>BO hb|refine C8 ?_ rfl)):p:=h
theorem EI{p:Prop}(h:p:=by exact dY Aj rfl rfl rfl rfl rfl rfl (by decide) rfl rfl rfl rfl rfl rfl):p:=h
theorem dd{p:Prop}(h:p:=by simp[Cz,KJ (Nat.le_of_lt hkl),CB]):p:=h
theorem Wk{p:Prop}(h:p:=by repeat(first|exact trivial|refine⟨⟨_,rfl,rfl,rfl⟩,?_⟩)):p:=h
theorem AT{p:Prop}(h:p:=by repeat(first|exact ESub.new _|refine ESub.put ?_ (by rfl))):p:=h
theorem dc{p:Prop}(h:p:=by show(m.steps:Int)<fu;have:m.steps+1<=fu:=h;omega):p:=h
theorem PS{p:Prop}(h:p:=by first|rfl|exact Gp _ rfl|exact Nv _ rfl):p:=h
theorem RM{p:Prop}(h:p:=by repeat(first|exact XH _|refine Vg rfl ?_)):p:=h
theorem Wj{p:Prop}(h:p:=by repeat(first|exact trivial|refine⟨⟨_,rfl,rfl⟩,?_⟩)):p:=h
theorem db{p:Prop}(h:p:=by rw[List.getElem?_map,List.getElem?_eq_getElem hlt];rfl):p:=h
theorem RL{p:Prop}(h:p:=by intro _ cs h;obtain⟨y,_,rfl⟩:=List.mem_map.1 h;rfl):p:=h
theorem KW{p:Prop}(h:p:=by have:=PSt.parts_mem hx;have:=PSt.parts_kids x;omega):p:=h
theorem OI{p:Prop}(h:p:=by rw[Nat.zero_add,Int.toNat_natCast];exact DX hx):p:=h
theorem RK{p:Prop}(h:p:=by intro cs h;obtain⟨y,_,rfl⟩:=List.mem_map.1 h;rfl):p:=h
theorem Wi{p:Prop}(h:p:=by have:=PE.parts_mem hx;have:=PE.parts_kids x;omega):p:=h
theorem cZ{p:Prop}(h:p:=by have:=PE.parts_mem hx;have:=PE.parts_kids e;omega):p:=h
theorem cY{p:Prop}(h:p:=by simp[partVals];show _*16<=140737488355328;omega):p:=h
theorem Uu{p:Prop}(h:p:=by exact Zh Aj rfl rfl rfl rfl rfl (by decide) rfl rfl rfl):p:=h
theorem YY{p:Prop}(h:p:=by simp[Cz,KJ (Nat.le_of_lt hkl)]):p:=h
theorem YX{p:Prop}(h:p:=by show l.length-(q.1+1)<l.length-q.1;omega):p:=h
theorem YW{p:Prop}(h:p:=by have:=CD hx;have:=C6 x;omega):p:=h
theorem Hp{p:Prop}(h:p:=by intro _ cs h;simp[partVals]at h;subst h;rfl):p:=h
theorem Gc{p:Prop}(h:p:=by first|exact fun _=>rfl|(intro h;cases h)):p:=h
theorem cX{p:Prop}(h:p:=by simp only[List.length_map,List.length_append]):p:=h
theorem GK{p:Prop}(h:p:=by intro cs h;simp[partVals]at h;subst h;rfl):p:=h
theorem E3{p:Prop}(h:p:=by first|decide|omega|(dsimp only;omega)):p:=h
theorem cW{p:Prop}(h:p:=by simp_all[Tac.rest,HR,KU]<;>omega):p:=h
theorem cV{p:Prop}(h:p:=by rw[Gb,List.length_map];exact hl):p:=h
theorem Lk{p:Prop}(h:p:=by rw[ho];simp[Op.operands,Call.operands]):p:=h
theorem cU{p:Prop}(h:p:=by simp[partVals];simp only[maxLen];omega):p:=h
theorem cS{p:Prop}(h:p:=by intro st hs;have:=CD hs;omega):p:=h
theorem YV{p:Prop}(h:p:=by have:=hp.n;simp only[maxLen];omega):p:=h
theorem PR{p:Prop}(h:p:=by show b.blocks.length≠b.now;omega):p:=h
theorem PQ{p:Prop}(h:p:=by rw[Aq,Aq];omega):p:=h
theorem Ut{p:Prop}(h:p:=by show(d:Int)<=1000000000;omega):p:=h
theorem YU{p:Prop}(h:p:=by show(0:Int)<=(d:Int);omega):p:=h
theorem Ho{p:Prop}(h:p:=by exact Ay (by omega)):p:=h
theorem PP{p:Prop}(h:p:=by have:=PSt.parts_mem he;omega):p:=h
theorem YT{p:Prop}(h:p:=by have:=PSt.parts_kids x;omega):p:=h
theorem Wh{p:Prop}(h:p:=by have:=PE.parts_mem he;omega):p:=h
theorem Us{p:Prop}(h:p:=by have:=CD hs;omega):p:=h
theorem PO{p:Prop}(h:p:=by rw[IntKind.wrap_u64];omega):p:=h
theorem D8{p:Prop}(h:p:=by rw[ho];simp[Op.operands]):p:=h
theorem RJ{p:Prop}(h:p:=by have:=B0 he;omega):p:=h
theorem YS{p:Prop}(h:p:=by show(3:Int)≠0;decide):p:=h
theorem Ur{p:Prop}(h:p:=by rw[Ee hf];exact hr):p:=h
theorem PW{p:Prop}(h:p:=by show(0:Int)<=0;omega):p:=h
theorem Lo{p:Prop}(h:p:=by show(0:Int)<_;omega):p:=h
theorem DD{p:Prop}(h:p:=by simp only[maxLen];omega):p:=h
theorem Tv{p:Prop}(h:p:=by rw[AR,hx.len]):p:=h
theorem Ks{p:Prop}(h:p:=by rw[AR,hm.len]):p:=h
theorem Ci{p:Prop}(h:p:=by rw[AR,hlen]):p:=h
theorem EZ{p:Prop}(h:p:=by rw[Aq];omega):p:=h
theorem Np{p:Prop}(h:p:=by first|decide|omega):p:=h
theorem It{p:Prop}(h:p:=by intro u hu;cases hu):p:=h
theorem Kr{p:Prop}(h:p:=by intro v hv;cases hv):p:=h
theorem Ja{p:Prop}(h:p:=by have:=ha.2;omega):p:=h
theorem Ln{p:Prop}(h:p:=by have:=hd.2;omega):p:=h
theorem Kq{p:Prop}(h:p:=by rw[hd];exact hr):p:=h
theorem Is{p:Prop}(h:p:=by rw[g3];exact hl):p:=h
theorem Lm{p:Prop}(h:p:=by dsimp only;omega):p:=h
theorem Ll{p:Prop}(h:p:=by have:=hd;omega):p:=h
theorem Kp{p:Prop}(h:p:=by have:=ha;omega):p:=h
theorem Em{p:Prop}(h:p:=by intro h;cases h):p:=h
theorem No{p:Prop}(h:p:=by intro e;cases e):p:=h
theorem D9{p:Prop}(h:p:=by simpa using f1):p:=h
theorem Ir{p:Prop}(h:p:=by rw[BR]):p:=h
theorem Ko{p:Prop}(h:p:=by simpa using h):p:=h
theorem He{p:Prop}(h:p:=by simp;omega):p:=h
theorem CO{p:Prop}(h:p:=by assumption):p:=h
theorem Al{p:Prop}(h:p:=by kernel_rfl):p:=h
theorem Hq{p:Prop}(h:p:=by simp[hu]):p:=h
theorem Ab{p:Prop}(h:p:=by decide):p:=h
theorem Aa{p:Prop}(h:p:=by omega):p:=h
theorem At{p:Prop}(h:p:=by simp):p:=h
theorem Nf{p:Prop}(h:p:=by
 exact⟨_,Sub.mk' AT Bn,(by rw[P3];first|grind|(rw[Bool.eq_iff_iff];simp_all;done)|(rw[Bool.eq_iff_iff];simp only[Bool.and_eq_true,Bool.or_eq_true,Bool.not_eq_true',Bool.and_eq_false_iff,Bool.or_eq_false_iff,decide_eq_true_eq,decide_eq_false_iff_not,beq_iff_eq,beq_eq_false_iff_ne,bne_iff_ne,ne_eq]at*;omega))⟩):p:=h
theorem K1{p:Prop}(h:p:=by
 exact⟨[],trivial,rfl,(B6 rfl Ab Bz Dn)⟩):p:=h
theorem aF{p:Prop}(h:p:=by
 exact⟨[],trivial,rfl,(B6 rfl Ab Do HW)⟩):p:=h
theorem fK{p:Prop}(h:p:=by
 refine aq 18 (A8 rfl rfl hkl (show 32<=maxLen by decide)) ?_;refine wk 2 ?_;exact⟨k+1,Sub.mk' AT (by repeat(first|exact HSub.refl _|exact HSub.none _|exact Be _|exact A6 E3|refine HSub.put ?_ (by first|rfl|exact congrArg (fun es=>some (rt 1 es)) (VA (c:=[]) hkl gl)|exact congrArg (fun es=>some (rt 1 es)) (Vz hkl gl))|refine Bc ?_ E3|refine Bq ?_ Ab)),hkl,by omega⟩):p:=h
theorem YJ{p:Prop}(h:p:=by
 refine wk 2 ?_;exact⟨k+1,Drop.mk' FSq FT,Dl hx hk hy,by omega⟩):p:=h
theorem aE{p:Prop}(h:p:=by
 exact⟨_,Sub.mk' AT Bn,(by unfold PSt.bare;(try simp only[List.length_map]at*);first|grind|(rw[Bool.eq_iff_iff];simp only[Bool.and_eq_true,Bool.or_eq_true,Bool.not_eq_true',Bool.and_eq_false_iff,Bool.or_eq_false_iff,decide_eq_true_eq,decide_eq_false_iff_not,beq_iff_eq,beq_eq_false_iff_ne,bne_iff_ne,ne_eq]at*;omega))⟩):p:=h
theorem cA{p:Prop}(h:p:=by
 exact⟨_,Sub.mk' AT Bn,(by(try simp only[List.length_map]at*);first|grind|(rw[Bool.eq_iff_iff];simp_all;done)|(rw[Bool.eq_iff_iff];simp only[Bool.and_eq_true,Bool.or_eq_true,Bool.not_eq_true',Bool.and_eq_false_iff,Bool.or_eq_false_iff,decide_eq_true_eq,decide_eq_false_iff_not,beq_iff_eq,beq_eq_false_iff_ne,bne_iff_ne,ne_eq]at*;omega))⟩):p:=h
theorem eR{p:Prop}(h:p:=by
 exact⟨_,Sub.mk' AT Bn,(by rw[PSt.known_eq];first|grind|(rw[Bool.eq_iff_iff];simp_all;done)|(rw[Bool.eq_iff_iff];simp only[Bool.and_eq_true,Bool.or_eq_true,Bool.not_eq_true',Bool.and_eq_false_iff,Bool.or_eq_false_iff,decide_eq_true_eq,decide_eq_false_iff_not,beq_iff_eq,beq_eq_false_iff_ne,bne_iff_ne,ne_eq]at*;omega))⟩):p:=h
theorem RD{p:Prop}(h:p:=by
 exact⟨[_],⟨rfl,trivial⟩,rfl,Df ⟨rfl,rfl,rfl,rfl,rfl,rfl,trivial⟩ CN⟩):p:=h
theorem aD{p:Prop}(h:p:=by
 refine aq 165 (Si Aj false rfl rfl rfl Al rfl rfl rfl rfl rfl) ?_;refine wk 2 ?_;refine I9 ⟨[_],⟨rfl,trivial⟩,?_,rfl⟩;refine bc ?_;have hwr:1<=t.size->t.size<=4096->IntKind.i64.wrap (words-t.size)=words-t.size:=fun h1 h2=>BF Aa Aa
 rw[Vj hb1 hb2 hd hall cW];subst hdd haa hbb;clear hd hj hall hwr hw hw2 hb1 hb2;first|(simp_all[Tac.same,Tac.want,HR,KU,setsOp,use1,use2];done)|simp[Tac.same,Tac.want,HR,KU, *]):p:=h
theorem PL{p:Prop}(h:p:=by
 exact⟨(),Sub.mk' (by repeat(first|exact ESub.new _|refine ESub.put ?_ (by first|rfl|exact OQ (by rw[List.length_append,huse];rfl)))) (by repeat(first|exact HSub.refl _|exact HSub.none _|exact Be _|exact A6 E3|refine HSub.put ?_ (by first|rfl|exact Hm (by rw[List.map_append,huse];rfl)|exact Hm (by rw[huse,List.append_nil]))|refine Bc ?_ E3|refine Bq ?_ Ab)),trivial⟩):p:=h
theorem Up{p:Prop}(h:p:=by
 exact⟨_,Sub.mk' AT Bn,(by(try simp only[List.length_map]at*);first|grind|(rw[Bool.eq_iff_iff];simp only[Bool.and_eq_true,Bool.or_eq_true,Bool.not_eq_true',Bool.and_eq_false_iff,Bool.or_eq_false_iff,decide_eq_true_eq,decide_eq_false_iff_not,beq_iff_eq,beq_eq_false_iff_ne,bne_iff_ne,ne_eq]at*;omega))⟩):p:=h
theorem RI{p:Prop}(h:p:=by
 refine wk 2 ?_;exact⟨t.d,Sub.mk' AT Bn,⟨by have h:= ‹(!A4 t.d regs)=false›;simp at h;simp[h],by first|(simp[setsOp, *];done)|simp[Qd ‹_›]⟩⟩):p:=h
theorem fS{p:Prop}(h:p:=by
 refine wk 6 ?_;refine aq 34 (AG (r:=.int .i64 (((d+1:Nat):Int))) rfl rfl rfl OJ) ?_;refine AOps.call 35 (hn:=Az 2 _ (RH (bL C w ((e.build C d b).put (AY (d+1) 0))) (Ai (((e.build C d b).put (AY (d+1) 0))).blocks))) (r:=.tup []) rfl rfl rfl (Am 2 (bL C w (e.build C d b)) (bL C w ((e.build C d b).put (AY (d+1) 0))) (Ai (((e.build C d b).put (AY (d+1) 0))).blocks) rfl Tryz.func43 Al rfl rfl rfl rfl rfl Ab (Af C w _) (Af C w _) Bz Dn (fun x=>Ac _ x) (fun x=>Ac _ x) rfl (F7 C w _ x hx Aa (d+1) 0 Aa)) ?_;refine wk 7 ?_;refine aq 40 (AG (r:=.int .i64 (((d+1:Nat):Int))) rfl rfl rfl OJ) ?_;refine AOps.call 41 (hn:=Az 2 _ (RH (bL C w ((e.build C d b).not d)) (Ai (((e.build C d b).not d)).blocks))) (r:=.tup []) rfl rfl rfl (Am 2 (bL C w ((e.build C d b).put (AY (d+1) 0))) (bL C w ((e.build C d b).not d)) (Ai (((e.build C d b).not d)).blocks) rfl Tryz.func46 Al rfl rfl rfl rfl rfl Ab (Af C w _) (Af C w _) Bz Dn (fun x=>Ac _ x) (fun x=>Ac _ x) rfl (Ih C w ((e.build C d b).put (AY (d+1) 0)) _ (EU hx) (by rw[JI _ hx];omega) 15 d d (d+1) Aa)) ?_
 refine wk 6 ?_;refine aq 46 (AG (r:=.int .i64 (((d+1:Nat):Int))) rfl rfl rfl OJ) ?_;refine AOps.call 47 (hn:=Az 2 _ (RH (bL C w (((e.build C d b).not d).put (AP 15 d d (d+1)))) (Ai ((((e.build C d b).not d).put (AP 15 d d (d+1)))).blocks))) (r:=.tup []) rfl rfl rfl (Am 2 (bL C w ((e.build C d b).not d)) (bL C w (((e.build C d b).not d).put (AP 15 d d (d+1)))) (Ai ((((e.build C d b).not d).put (AP 15 d d (d+1)))).blocks) rfl Tryz.func46 Al rfl rfl rfl rfl rfl Ab (Af C w _) (Af C w _) Bz Dn (fun x=>Ac _ x) (fun x=>Ac _ x) rfl (Ih C w ((e.build C d b).not d) _ (EU (EU hx)) (by have:=Pr (e.build C d b) d;omega) 15 d d (d+1) Aa)) ?_;refine an ?_;have hfl:e.flagged=false:=by unfold CE.flagged;simp_all
 rw[Wy hfl];exact K1):p:=h
theorem PK{p:Prop}(h:p:=by
 exact⟨_,Sub.mk' AT Bn,(by unfold Q5;first|(simp_all;done)|(simp_all<;>omega))⟩):p:=h
theorem Io{p:Prop}(h:p:=by
 refine⟨[_],⟨rfl,trivial⟩,?_,rfl⟩;refine bc ?_;rw[PE.right_eq,Ru hbare hcall];unfold PE.rest;first|(simp_all;done)|(simp_all<;>omega)):p:=h
theorem OH{p:Prop}(h:p:=by
 exact⟨[],trivial,rfl,Df ⟨rfl,rfl,rfl,rfl,rfl,rfl,trivial⟩ CN⟩):p:=h
theorem cP{p:Prop}(h:p:=by
 refine wk 1 ?_;rw[mC ho]
 first
 |(rw[<-hI.stop (.inl CO)];exact⟨[],trivial,rfl,Df ⟨rfl,rfl,rfl,rfl,rfl,rfl,trivial⟩ CN⟩)
 |(rw[<-hI.stop (.inr CO)];exact⟨[],trivial,rfl,Df ⟨rfl,rfl,rfl,rfl,rfl,rfl,trivial⟩ CN⟩)
 |(have h9:=hI.lastE CO CO (by show((PX.ev p cl s f e.es q.2).1 !=0)=false;rw[ET hy];exact hzz);dsimp only at h9;rw[show PX.ev p cl s f e.es q.2=(y.ev p cl s f q.2.ws q.2.c)from ET hy]at h9;rw[<-h9];exact⟨[],trivial,rfl,Df ⟨rfl,rfl,rfl,rfl,rfl,rfl,trivial⟩ CN⟩)):p:=h
theorem Gm{p:Prop}(h:p:=by
 refine⟨[_],⟨rfl,trivial⟩,?_,rfl⟩;exact congrArg (AV.int .i64) (by rw[Yy];first|(simp_all;done)|grind)):p:=h
theorem YN{p:Prop}(h:p:=by
 exact⟨_,Sub.mk' AT Bn,(by first|grind|(rw[Bool.eq_iff_iff];simp_all;done)|(rw[Bool.eq_iff_iff];simp only[Bool.and_eq_true,Bool.or_eq_true,Bool.not_eq_true',Bool.and_eq_false_iff,Bool.or_eq_false_iff,decide_eq_true_eq,decide_eq_false_iff_not,beq_iff_eq,beq_eq_false_iff_ne,bne_iff_ne,ne_eq]at*;omega))⟩):p:=h
theorem Uo{p:Prop}(h:p:=by
 exact⟨_,Sub.mk' AT Bn,(by unfold PE.bare;grind)⟩):p:=h
theorem fR{p:Prop}(h:p:=by
 refine wk 6 ?_;refine asp 6 (fun hb1=>?_) fun hb1=>?_
 .
  refine act ?_;have hkl:k<32:=by have h:=hb1;simp at h;omega
  have hle:a/2^k<=a:=Nat.div_le_self _ _;refine wk 7 ?_;refine aq 11 (AG (r:=.int .u32 ((a/2^k%2:Nat):Int)) rfl rfl rfl (FK (a:=a/2^k) (b:=2) Ab)) ?_;refine aq 12 (Cd Aj rfl rfl rfl rfl rfl (Nr Aa)) ?_;refine ax 13 EI ?_;refine ax 14 (Ba Aj (n:=k) (m:=1) rfl rfl rfl rfl rfl rfl rfl rfl rfl (by simp[Cz,CB]) rfl rfl (Nat.zero_lt_succ _) (.lst _ _) GK Hp rfl (by simp[Cz,CB,partVals];show _*8<=_;omega) (by simp[Cz,CB,partVals];simp only[maxLen];omega)) ?_;refine wk 4 ?_;refine aq 16 (AG (r:=.int .u32 ((a/2^k/2:Nat):Int)) rfl rfl rfl (JH (a:=a/2^k) (b:=2) Ab (C5 Aa))) ?_;refine wk 4 ?_;refine aq 8 (A8 rfl rfl hkl (show 32<=maxLen by decide)) ?_;refine wk 2 ?_;exact⟨k+1,Sub.mk' (by repeat(first|exact ESub.new _|refine ESub.put ?_ (by first|rfl|exact congrArg (fun(n:Nat)=>some (AV.int .u32 (n:Int))) (by rw[Nat.div_div_eq_div_mul,Nat.pow_succ])))) (by repeat(first|exact HSub.refl _|exact HSub.none _|exact Be _|exact A6 E3|refine HSub.put ?_ (by first|rfl|exact congrArg (fun es=>some (rt 1 es)) (Rn a k))|refine Bc ?_ E3|refine Bq ?_ Ab)),hkl,by omega⟩
 refine Ej ?_;have hge:¬k<32:=by have h:=hb1;simp at h;omega
 refine wk 2 ?_;obtain rfl:k=32:=by omega
 refine wk 5 ?_;refine⟨[_],⟨rfl,trivial⟩,rfl,HSub.put (HSub.none _) rfl⟩):p:=h
theorem PJ{p:Prop}(h:p:=by
 refine I9 ⟨[_],⟨rfl,trivial⟩,?_,rfl⟩;refine bc ?_;have hwr:1<=t.size->t.size<=4096->IntKind.i64.wrap (words-t.size)=words-t.size:=fun h1 h2=>BF Aa Aa
 exact(Oj cW).symm):p:=h
theorem V6{p:Prop}(h:p:=by
 exact⟨_,Sub.mk' AT Bn,(by unfold PFn.right;(try simp only[List.length_map]at*);grind)⟩):p:=h
theorem fQ{p:Prop}(h:p:=by
 refine wk 6 ?_;refine dx 7 (BW C w b (CS.buildL C w e.thn b) (b.blocks.length+(CS.buildL C w e.thn b).blocks.length) Aa Aa rfl Tryz.func28 Al rfl rfl rfl Do HW rfl (hT)) ?_;refine Cc GC [([4],[]),([5],[]),([],[]),([],[]),([],[]),([2],[2])] Jb Al ?_;exact aF):p:=h
theorem fP{p:Prop}(h:p:=by
 rcases hp with hp|⟨hp1,a2,w2,hp2⟩
 . refine .inl ?_;have hp':=Oper.wp_mono (fun a2 w2=>ih a2 w2) hp;clear hp;unfold Oper.wp at hp'|-;generalize(execOp a1.eval o').run P w1=res at hp'|-
   cases res with
   |ok n w3=>
    cases n<;>simp only[Oper.upon]at hp'|- <;>first
     |exact hp'
     |exact Calls.mono hp' gb
   |halt x w3=>cases x<;>simp only[Oper.upon]at hp'|- <;>first|exact hpost _ _ _ hp'|exact hp'
 . exact .inr ⟨hp1,a2,w2,hpost _ _ _ hp2⟩):p:=h
theorem fO{p:Prop}(h:p:=by
 have hd:=ht.d (by simp[setsOp,ho6]);refine wk 13 ?_;refine dq 116 (Ap Aj (hm:=Ci) (h0:=ha.1) (hn:=Ja)) ?_;refine dq 117 (BE Aj rfl rfl rfl (.ptr _ _ _ _ _ _ _ _ rfl Ci (CH Kp)) rfl) ?_;refine dq 118 (Co Aj rfl rfl rfl rfl rfl (r:=Ak regs t.a) (by exact BF Aa Aa)) ?_;refine dq 119 (AG (r:=.int .i64 (t.base+Ak regs t.a)) rfl rfl rfl DL) ?_;refine dq 120 (Ap Aj (hm:=Ks) (h0:=hidx.1) (hn:=(by have:=hidx.2;omega))) ?_;refine dq 121 (BE Aj rfl rfl rfl (.ptr _ _ _ _ _ _ _ _ rfl Ks (CH (by have:=hidx;have:=hm.len;omega))) rfl) ?_;refine dq 122 (Ap Aj (hm:=Ci) (h0:=hd.1) (hn:=Ln)) ?_;refine DOps.w rfl rfl (BA Aj rfl rfl rfl rfl rfl rfl Ci (CH Ll) rfl Ab rfl Gc) ?_;refine wk 1 ?_;refine⟨[],trivial,rfl,?_⟩;rw[jM ho6 hsz];exact HSub.put (HSub.put (HSub.put (HSub.put (HSub.none _) rfl) rfl) rfl) Y2):p:=h
theorem fN{p:Prop}(h:p:=by
 have hb:=ht.b (by simp[use2,ho7]);refine wk 10 ?_;refine dq 132 (Ap Aj (hm:=Ci) (h0:=ha.1) (hn:=Ja)) ?_;refine dq 133 (BE Aj rfl rfl rfl (.ptr _ _ _ _ _ _ _ _ rfl Ci (CH Kp)) rfl) ?_;refine dq 134 (Co Aj rfl rfl rfl rfl rfl (r:=Ak regs t.a) (by exact BF Aa Aa)) ?_;refine dq 135 (AG (r:=.int .i64 (t.base+Ak regs t.a)) rfl rfl rfl DL) ?_;refine wk 3 ?_;refine dq 139 (Ap Aj (hm:=Ci) (h0:=hb.1) (hn:=(by have:=hb.2;omega))) ?_;refine dq 140 (BE Aj rfl rfl rfl (.ptr _ _ _ _ _ _ _ _ rfl Ci (CH (by have:=hb;omega))) rfl) ?_;refine dq 141 (Ap Aj (hm:=Ks) (h0:=hidx.1) (hn:=(by have:=hidx.2;omega))) ?_;refine DOps.w rfl rfl (BA Aj rfl rfl rfl rfl rfl rfl Ks (CH (by have:=hidx;have:=hm.len;omega)) rfl Ab rfl Gc) ?_;refine wk 1 ?_;refine⟨[],trivial,rfl,?_⟩;rw[jL ho7 hsz];exact HSub.put (HSub.put (HSub.put (HSub.put (HSub.none _) rfl) Y2) rfl) rfl):p:=h
theorem YM{p:Prop}(h:p:=by
 exact⟨_,Sub.mk' AT Bn,(by first|exact SG hb1|exact SF hb2|exact SE hb3|exact SD hb1 hb2 hb3)⟩):p:=h
theorem fM{p:Prop}(h:p:=by
 exact⟨_,Sub.mk' AT Bn,(by rw[PE.known_eq];first|grind|(rw[Bool.eq_iff_iff];simp_all;done)|(rw[Bool.eq_iff_iff];simp only[Bool.and_eq_true,Bool.or_eq_true,Bool.not_eq_true',Bool.and_eq_false_iff,Bool.or_eq_false_iff,decide_eq_true_eq,decide_eq_false_iff_not,beq_iff_eq,beq_eq_false_iff_ne,bne_iff_ne,ne_eq]at*;omega))⟩):p:=h
theorem YL{p:Prop}(h:p:=by
 refine wk 1 ?_;exact⟨(),Sub.mk' AT (by repeat(first|exact HSub.refl _|exact HSub.none _|exact Be _|exact A6 E3|refine HSub.put ?_ (by first|rfl|(rw[hnm.1,hnm.2];rfl))|refine Bc ?_ E3|refine Bq ?_ Ab)),trivial⟩):p:=h
theorem cO{p:Prop}(h:p:=by
 have hft:(k.fin==3)=false:=by simp_all
 have hnx:=hF.next hk hI hge hst hft (Vl hks.1 hft r.regs);exact⟨⟨k.next r.regs,r.regs,(AI fuel r.m).2,q.g-1⟩,Drop.mk' (by repeat(first|exact EDrop.new _ _|refine EDrop.put ?_ (by first|rfl|exact congrArg (fun(n:Int)=>some (AV.int .i64 n)) (by simp[Block.next, *])) PS)) FT,hnx.1,hnx.2⟩):p:=h
theorem RG{p:Prop}(h:p:=by
 refine wk 5 ?_;refine I9 ⟨[_],⟨rfl,trivial⟩,?_,rfl⟩;refine bc ?_;exact(eu (by first|(simp[setsOp, *];done)|exact Qd ‹_›) (by simpa using ‹(!A4 t.d regs)=true›)).symm):p:=h
theorem YK{p:Prop}(h:p:=by
 exact⟨_,Sub.mk' AT Bn,(by first|(simp_all;done)|grind)⟩):p:=h
theorem cN{p:Prop}(h:p:=by
 exact⟨_,Sub.mk' AT Bn,(by unfold EO;first|grind|(rw[Bool.eq_iff_iff];simp only[Bool.and_eq_true,Bool.or_eq_true,Bool.not_eq_true',Bool.and_eq_false_iff,Bool.or_eq_false_iff,decide_eq_true_eq,decide_eq_false_iff_not]at*;omega))⟩):p:=h
theorem Un{p:Prop}(h:p:=by
 exact HSub.put (HSub.put (HSub.put (HSub.put (HSub.none _) rfl) rfl) rfl) Y2):p:=h
theorem fJ{p:Prop}(h:p:=by
 refine AOps.call 127 (hn:=Az 2 _ (RH (bL C w (e.build C d b)) (Ai ((e.build C d b)).blocks))) (r:=.tup []) rfl rfl rfl (Am 2 (bL C w b) (bL C w (e.build C d b)) (Ai ((e.build C d b)).blocks) rfl Tryz.func90 Al rfl rfl rfl rfl rfl Ab (Af C w _) (Af C w _) Bz Dn (fun x=>Ac _ x) (fun x=>Ac _ x) rfl (hE (by first|exact .inl (by simpa using ‹(e.kind==8)=true›)|exact .inr (by simpa using ‹(e.kind==9)=true›)))) ?_;refine an ?_;exact K1):p:=h
theorem fI{p:Prop}(h:p:=by
 have key:∀b o,En h κ b=some o->o.alive=true->κ b=true/\h b=some o:=fun b o h1 h2=>by
  unfold En at h1
  cases e:κ b with
  |true=>rw[e]at h1;exact⟨rfl,h1⟩
  |false=>rw[e]at h1;cases h1;cases h2
 refine⟨hs.heap.know,fun b hb=>?_,fun b o h1 h2=>?_,fun b b' o o' r r' h1 h2 h3 h4 h5 h6=>?_,hs.heap.glob⟩
 . unfold En at hb;unfold CR
   cases e:κ b with
   |true=>rw[e]at hb;exact hs.heap.free b hb
   |false=>rfl
 . obtain⟨k1,k2⟩:=key b o h1 h2;obtain⟨r,r1,r2,r3⟩:=hs.heap.obj b o k2 h2;obtain⟨q,q1,q2⟩:=hL b k1;rw[k2]at q1;cases q1;exact⟨r,by rw[Ee k1];exact r1,Gx r2 q2,r3⟩
 . exact hs.heap.inj b b' o o' r r' (key b o h1 h2).2 h2 (key b' o' h3 h4).2 h4 (Bg h5) (Bg h6)):p:=h
theorem cM{p:Prop}(h:p:=by
 exact⟨_,Sub.mk' AT Bn,(by first|exact ZC hb6|exact ZB hb7|exact ZA hb6 hb7)⟩):p:=h
theorem cL{p:Prop}(h:p:=by
 exact⟨_,Sub.mk' AT Bn,(by unfold PSt.callme;(try simp only[Y9]at*);grind)⟩):p:=h
theorem cK{p:Prop}(h:p:=by
 exact⟨_,Sub.mk' AT Bn,(by unfold PE.callme;(try simp only[Y9]at*);grind)⟩):p:=h
theorem fH{p:Prop}(h:p:=by
 refine wk 2 ?_;exact⟨j+1,Drop.mk' FSq FT,Dl hu hj hy,by omega⟩):p:=h
theorem cJ{p:Prop}(h:p:=by
 exact⟨_,Sub.mk' AT Bn,(by unfold PFn.short;grind)⟩):p:=h
theorem cI{p:Prop}(h:p:=by
 exact⟨_,Sub.mk' AT Bn,(by unfold Mg;grind)⟩):p:=h
theorem cH{p:Prop}(h:p:=by
 exact⟨_,Sub.mk' AT Bn,(by unfold Mf;grind)⟩):p:=h
theorem cG{p:Prop}(h:p:=by
 refine wk 1 ?_;exact⟨(),Sub.mk' AT (HSub.put (by rw[hon];exact Df ⟨rfl,rfl,rfl,rfl,rfl,rfl,trivial⟩ CN) rfl),trivial⟩):p:=h
theorem cF{p:Prop}(h:p:=by
 refine I9 ⟨[_],⟨rfl,trivial⟩,?_,rfl⟩;show AV.lst false _=_;simp[Tac.uses,use1,use2,Pf,partVals,AV.cells, *]):p:=h
theorem cD{p:Prop}(h:p:=by
 refine aq 47 (Ap Aj (hm:=YY)) ?_;refine AOps.w rfl rfl (BA Aj rfl rfl rfl rfl rfl rfl YY (Ch (E5 (Mk hkl))) rfl Ab rfl Gc) ?_;refine wk 3 ?_;exact fK):p:=h
theorem fG{p:Prop}(h:p:=by
 refine wk 7 ?_
 first
 |(rw[W9 h0 ho hy hz,BU hf,gn hw,cond_true,cond_false];exact⟨[_],⟨rfl,trivial⟩,rfl,Df ⟨rfl,rfl,rfl,rfl,rfl,rfl,trivial⟩ CN⟩)
 |(rw[W9 h0 ho hy hz,BU hf,gp hw,cond_true,cond_true];exact⟨[_],⟨rfl,trivial⟩,rfl,Df ⟨rfl,rfl,rfl,rfl,rfl,rfl,trivial⟩ CN⟩)):p:=h
theorem Nh{p:Prop}(h:p:=by
 refine I9 ⟨[_],⟨rfl,trivial⟩,?_,rfl⟩;refine bc ?_;simp_all[Block.ends]):p:=h
theorem fF{p:Prop}(h:p:=by
 rw[List.getElem?_map,Option.map_eq_some_iff]at hi;obtain⟨y,y1,rfl⟩:=hi;obtain⟨cs',c1,c2,c3⟩:=l2 i y y1;obtain⟨_,n1,n2⟩:=World.cells?_some c1;refine⟨by rw[c2.1,n1],fun j x hj=>?_⟩;have hjlt:j<cs'.length:=by rw[<-c2.1];exact(List.getElem?_eq_some_iff.1 hj).1
 have h3:=n2 j Aa;rw[List.getElem?_eq_getElem hjlt,FQ,FQ]at h3;obtain⟨c',e1,_,e3⟩:=Gg h3;simp only at e1 e3;rw[hH]at e1;cases e1;obtain⟨g1,g2⟩:=c2.2 j x _ hj (List.getElem?_eq_getElem hjlt);exact⟨_,e3,g1,g2⟩):p:=h
theorem RF{p:Prop}(h:p:=by
 refine I9 ⟨[_],⟨rfl,trivial⟩,?_,rfl⟩;show AV.int .i64 _=AV.int .i64 _;congr 1;simp[Tac.sets,setsOp, *]):p:=h
theorem fD{p:Prop}(h:p:=by
 unfold Oper.wp;rw[hexec];refine hcalls.mono fun en w' hh=>?_
 obtain⟨v,r',h',H',ι',rfl,⟨rfl,hsub⟩,k1,k2,k3⟩:=hh;have hk':∀b,κ b=true->∃q,h' b=some q/\hn b=some q/\q.avoid κ=true:=fun b hb=>by
  obtain⟨q,q1,q2,q3⟩:=hk b hb;exact⟨q,hsub b q q1,q2,q3⟩
 obtain⟨u1,u2⟩:=Vt hs.heap hL hW hk' k2 (hres'.symm▸k3);refine⟨v,H',_,rfl,?_,u1,u2⟩;refine(DZ k1 hra).mono (KLe.refl _) fun b r e=>?_
 cases hb:κ b with
 |true=>exact⟨r,by simp only[JB,hb,cond_true];exact Bg e,.inl rfl⟩
 |false=>simp only[CR,hb,cond_false]at e;cases e):p:=h
theorem fB{p:Prop}(h:p:=by
 exact⟨[],trivial,rfl,(B6 rfl Ab Y1 kq)⟩):p:=h
theorem fA{p:Prop}(h:p:=by
 refine wk 4 ?_;refine aq 17 (AG (r:=.int .u32 ((k+1:Nat):Int)) rfl rfl rfl (HL (b:=1) (C5 Aa))) ?_;refine wk 2 ?_;exact⟨k+1,Sub.mk' (by repeat(first|exact ESub.new _|refine ESub.put ?_ (by first|rfl|exact congrArg (fun(n:Nat)=>some (AV.int .u64 (n:Int))) (by simp only[shN, *,cond_true,cond_false])))) Bn,hkl,by omega⟩):p:=h
theorem fz{p:Prop}(h:p:=by
 refine wk 1 ?_;refine wk 2 ?_;refine wk 1 ?_;refine wk 1 ?_
 first
 |(rw[mA ho hy];exact⟨[],trivial,rfl,Df ⟨rfl,rfl,rfl,rfl,rfl,rfl,trivial⟩ CN⟩)
 |(rw[jC ho hn0];exact⟨[],trivial,rfl,Df ⟨rfl,rfl,rfl,rfl,rfl,rfl,trivial⟩ CN⟩)):p:=h
theorem fy{p:Prop}(h:p:=by
 exact⟨(q.1-1,(bif (PSt.runL p cl s fuel f e.thn ({q.2 with c:=(y.ev p cl s f q.2.ws q.2.c).2}:PX)).on then(PSt.runL p cl s fuel f e.thn ({q.2 with c:=(y.ev p cl s f q.2.ws q.2.c).2}:PX)).tick fuel else(PSt.runL p cl s fuel f e.thn ({q.2 with c:=(y.ev p cl s f q.2.ws q.2.c).2}:PX)))),Sub.mk' AT (HSub.put (Df ⟨rfl,rfl,rfl,rfl,rfl,rfl,trivial⟩ CN) rfl),hnx.1,hnx.2⟩):p:=h
theorem fx{p:Prop}(h:p:=by
 have alive':∀r0,ι b'=some r0->r0.solid->r0.rb=r'.rb->False:=fun r0 e0 es e1=>by
  obtain⟨o0,k1,_⟩:=hL b' hb';have ka:o0.alive=true:=by
   cases o0 with
   |free=>rw[hr.free b' k1]at e0;cases e0
   |_=>rfl
  exact hr.inj b b' o o0 r r0 h1 h2 k1 ka h3 e0 h4 es (fun e=>hb (e▸hb')) (e.trans e1.symm)
 rcases hst.newrb b' r' g1 g2 with k|k|⟨r0,k1,k2,k3⟩
 . exact alive' r' (Bg k) g2 rfl
 . have:=hr.lt ⟨b,o,r,h1,h2,h3,h4,rfl⟩;omega
 . exact alive' r0 (Bg k1) k2 k3):p:=h
theorem cB{p:Prop}(h:p:=by
 have key:∀c,b=c->Ad e d (.bool c)=e:=fun c hc=>by
  subst hc;funext t
  by_cases ht:t=d
  . subst ht;rw[DW,he]
  . rw[F1 _ _ ht]
 cases b with
 |true=>have:=h1 rfl;rwa[key true rfl]at this
 |false=>have:=h2 rfl;rwa[key false rfl]at this):p:=h
theorem fw{p:Prop}(h:p:=by
 refine wk 2 ?_;refine AX (.freezeCell 0 0 7 3 rfl rfl rfl rfl (by simp[AC]) Ab) ?_;refine wk 9 ?_;refine dq 70 (LX (l:=(Dy p (CQ p s fuel (p.funcs.length-1)) s fuel (p.funcs.length-1) G [] p.start).c.m.out) Aj rfl f8 rfl rfl rfl rfl rfl rfl) ?_;refine wk 5 ?_;refine wk 1 ?_;refine wk 2 ?_;refine⟨[_],⟨⟨_,_,_,_,rfl,rfl,.ptr _ _ _ _ _ _ _ _ rfl rfl rfl,rfl⟩,trivial⟩,?_,rfl⟩;rw[Zm hG,hz];rfl):p:=h
theorem fv{p:Prop}(h:p:=by
 refine aq 25 (A8 rfl rfl hkl DD) ?_;refine wk 2 ?_;exact⟨k+1,DropK.mk' PT (G6 (k0:=5) rfl (by repeat(first|exact trivial|refine⟨⟨by first|rfl|(rw[hmw];rfl),by first|rfl|exact Jw _ _ _ _⟩,?_⟩)) gi (fun _=>rfl)),hkl,by omega⟩):p:=h
theorem ft{p:Prop}(h:p:=by
 obtain⟨k,hk⟩:=List.getElem?_of_mem hq;have hlt:k<parts.toList.length:=by have:=(List.getElem?_eq_some_iff.1 hk).1;simpa using this
 have hltp:k<ps.length:=by omega
 have h3:=(l2 k ps[k] ((parts.toList[k]).1,a.eval (parts.toList[k]).2) (List.getElem?_eq_getElem hltp) db).2;rw[List.getElem?_map,List.getElem?_eq_getElem hlt]at hk
 cases hk
 rw[<-(Fm h3).1];exact Ec hsz k _ (List.getElem?_eq_getElem hltp)):p:=h
theorem V5{p:Prop}(h:p:=by
 refine I9 ⟨[_],⟨rfl,trivial⟩,?_,rfl⟩;refine bc ?_;exact(Oj cW).symm):p:=h
theorem fq{p:Prop}(h:p:=by
 exact⟨(),Sub.mk' AT Bn,(by first|(intro g hg;rw[hx]at hg;cases hg;assumption)|(intro g hg;rw[List.getElem?_eq_none Aa]at hg;cases hg))⟩):p:=h
theorem fp{p:Prop}(h:p:=by
 refine wk 2 ?_;exact⟨k+1,DropK.mk' PT (G6 (k0:=4) rfl (by repeat(first|exact trivial|refine⟨⟨by first|rfl|(rw[hbk];first|rfl|exact BV rfl),by first|rfl|exact CC (fun x_=>Hj 4 x_) _⟩,?_⟩)) (fun x_=>by rw[hbk];(try simp only[AB]);(try dsimp only);first|exact Ax _ _ _|exact(BL _ _ _ x_).trans (Ax _ _ _)) (fun x_=>Ac _ x_)),hkl,by omega⟩):p:=h
theorem fo{p:Prop}(h:p:=by
 refine wk 2 ?_;exact⟨0,Sub.mk' AT Bn,by have h3:=TC t.op;cases h1:use1 t.op<;>cases h2:use2 t.op<;>simp_all[Tac.uses]⟩):p:=h
theorem fm{p:Prop}(h:p:=by
 refine wk 7 ?_;exact⟨_,Sub.mk' AT Bn,(by(try simp only[List.length_map]at*);first|grind|(rw[Bool.eq_iff_iff];simp_all))⟩):p:=h
theorem cy{p:Prop}(h:p:=by
 have ho:op=9\/op=10\/op=11:=by simp_all
 refine wk 3 ?_;refine ax 60 (Bs Tryz.func86 (ae _ a b ha hb)) ?_;refine wk 4 ?_;refine⟨[_,_],⟨rfl,rfl,trivial⟩,?_,rfl⟩;show AV.tup _=_;rw[Uz ha hb ho];rfl):p:=h
theorem fk{p:Prop}(h:p:=by
 refine⟨by simp,fun k x y hx hy=>?_⟩;rw[List.getElem?_set]at hy
 by_cases hk:j=k
 . subst hk;rw[hj']at hx;cases hx;have hlt:=(List.getElem?_eq_some_iff.1 hj').1;rw[if_pos rfl,if_pos hlt]at hy;cases hy;exact⟨fun _=>rfl,fun H ι v h=>Qo h⟩
 . rw[if_neg hk,hx]at hy;cases hy;exact⟨fun h=>h,fun _ _ _ h=>h⟩):p:=h
theorem fj{p:Prop}(h:p:=by
 exact⟨(),Sub.mk' (by repeat(first|exact ESub.new _|refine ESub.put ?_ (by first|rfl|exact congrArg (fun(n:Int)=>some (AV.int .i64 n)) (by simp[E2, *])))) Bn,trivial⟩):p:=h
theorem V4{p:Prop}(h:p:=by
 refine⟨[_],⟨rfl,trivial⟩,?_,rfl⟩;refine bc ?_;rw[ZE];first|(simp_all;done)|(simp_all<;>omega)):p:=h
theorem fi{p:Prop}(h:p:=by
 by_cases hj:j<32
 . rcases(by omega:a/2^j%2=0\/a/2^j%2=1)with h1|h1<;>rcases(by omega:b/2^j%2=0\/b/2^j%2=1)with h2|h2<;>simp[h1,h2,hj,VB]
 . have h1:a/2^j=0:=Nat.div_eq_of_lt (Nat.lt_of_lt_of_le ha (Nat.pow_le_pow_right Ab Aa));have h2:b/2^j=0:=Nat.div_eq_of_lt (Nat.lt_of_lt_of_le hb (Nat.pow_le_pow_right Ab Aa));simp[hj,h1,h2]):p:=h
theorem fh{p:Prop}(h:p:=by
 refine wk 2 ?_;exact⟨j+1,Drop.mk' FSq FT,Dl hu hj (by simpa using hbw),by omega⟩):p:=h
theorem fg{p:Prop}(h:p:=by
 refine wk 2 ?_;exact⟨k+1,Drop.mk' FSq FT,Dl hx hk (d3 hne),by omega⟩):p:=h
theorem YI{p:Prop}(h:p:=by
 refine⟨[_],⟨rfl,trivial⟩,?_,rfl⟩;refine bc ?_;rw[PSt.right_eq,Ru hbare hcall];unfold PSt.rest;rw[<-hf];simp_all):p:=h
theorem cx{p:Prop}(h:p:=by
 refine(ih.seq h.lt h2).mono fun G a c hm=>?_
 obtain⟨m,⟨i1,rfl⟩,i2,rfl⟩:=hm;refine⟨fun i hi=>?_,rfl⟩
 by_cases e:i=n
 . subst e;exact i2
 . exact i1 i Aa):p:=h
theorem ff{p:Prop}(h:p:=by
 refine wk 1 ?_;exact⟨(),Sub.mk' AT Bn,h1⟩):p:=h
theorem cv{p:Prop}(h:p:=by
 obtain⟨_,_,_,h2⟩:=h;rcases h2 with h2|h2|h2|h2|h2|h2|h2<;>first|exact h2.2|omega):p:=h
theorem V3{p:Prop}(h:p:=by
 have hfl:e.flagged=true:=by unfold CE.flagged;simp_all
 rw[UE hfl];exact K1):p:=h
theorem fe{p:Prop}(h:p:=by
 by_cases h16:16<=b
 . obtain⟨x,rfl⟩:∃x,b=x+16:=⟨b-16,by omega⟩
   rw[hF];exact(Ax _ _ _).symm
 . rcases QT (by omega:b<16)with rfl|rfl|rfl|rfl|rfl|rfl|rfl|rfl|rfl|rfl|rfl|rfl|rfl|rfl|rfl|rfl<;>first|exact r0|exact r1|exact r2|exact r3|exact r5|cases hb):p:=h
theorem YH{p:Prop}(h:p:=by
 refine ax 12 EI ?_;refine wk 2 ?_;exact cF):p:=h
theorem PI{p:Prop}(h:p:=by
 refine⟨[_],⟨rfl,trivial⟩,?_,rfl⟩;rfl):p:=h
theorem YG{p:Prop}(h:p:=by
 rw[AF PQ,AF EZ];exact C7 b):p:=h
theorem fd{p:Prop}(h:p:=by
 have key:∀{l:List CE},CE.okL C n l->x∈l->x.ok C n:=by
  intro l
  induction l with
  |nil=>intro _ hx;cases hx
  |cons a l ih=>
   intro ho hx;rw[CE.okL]at ho;rcases List.mem_cons.1 hx with rfl|hx
   . exact ho.1
   . exact ih ho.2 hx
 exact key h.1 hx):p:=h
theorem fc{p:Prop}(h:p:=by
 refine⟨[],trivial,rfl,?_⟩;rw[show(E6 call s fuel f (fuel.toNat+1) 0 (List.replicate f.regs.toNat 0) m)=_ from j7 hF hk hI hge (by first|exact .inl (by simpa using ‹(!(AI fuel r.m).1)=true›)|exact .inr ‹_›)];exact HSub.put (HSub.put (HSub.put (HSub.none _) rfl) rfl) rfl):p:=h
theorem fb{p:Prop}(h:p:=by
 rw[hT];exact⟨[_],⟨rfl,trivial⟩,rfl,Df ⟨rfl,rfl,rfl,rfl,rfl,rfl,trivial⟩ KX⟩):p:=h
theorem cu{p:Prop}(h:p:=by
 simp only[execOp,ho,resolve,invoke,builtin,Sem.run_bind,Sem.run_pure,Result.andThen_ok,List.map_toArray,List.map_cons,List.map_nil,hva,hvb,hrun]):p:=h
theorem Um{p:Prop}(h:p:=by
 refine wk 3 ?_;refine aq 11 (A8 rfl rfl hkl hlen) ?_;exact YJ):p:=h
theorem ct{p:Prop}(h:p:=by
 refine⟨[_],⟨rfl,trivial⟩,?_,rfl⟩;refine bc ?_;rw[Sz hlast,BB hk (by rw[List.length_zipIdx];exact hge)];simp_all):p:=h
theorem V2{p:Prop}(h:p:=by
 exact HSub.put (HSub.put (HSub.put (HSub.put (HSub.none _) rfl) rfl) rfl) rfl):p:=h
theorem fa{p:Prop}(h:p:=by
 cases e:H' r.rb with
 |none=>rfl
 |some c=>
  rcases hst.knew r.rb (by rw[e];simp)with g|g|g
  . exact absurd h5 g
  . have:=hr.lt ⟨b,o,r,h1,h2,h3,h4,rfl⟩;omega
  . exact absurd g (apart b o r hb h1 h2 h3 h4)):p:=h
theorem cr{p:Prop}(h:p:=by
 refine wk 5 ?_;refine⟨[_],⟨rfl,trivial⟩,?_,rfl⟩;rw[List.take_of_length_le hge];rfl):p:=h
theorem e9{p:Prop}(h:p:=by
 rw[e1];exact⟨[],trivial,rfl,jA ⟨rfl,rfl,rfl,rfl,trivial⟩ CN⟩):p:=h
theorem eZ{p:Prop}(h:p:=by
 refine wk 3 ?_;refine aq 120 (AG (r:=.int .i64 (level+1)) rfl rfl rfl DL) ?_;refine ax 121 (Bs Tryz.func57 (hrec hlev)) ?_;refine wk 4 ?_;exact Io):p:=h
theorem eY{p:Prop}(h:p:=by
 refine wk 3 ?_;refine aq 76 (AG (r:=.int .i64 (level+1)) rfl rfl rfl DL) ?_;refine ax 77 (Bs Tryz.func57 (hrec hlev)) ?_;refine wk 4 ?_;exact Io):p:=h
theorem eX{p:Prop}(h:p:=by
 refine wk 3 ?_;refine dq 52 (Ae Aj rfl rfl rfl rfl rfl rfl (Int.natCast_nonneg _) (CI hx) rfl) ?_;refine wk 2 ?_;refine dx 55 (Bs Tryz.func60 ((hrec x (List.mem_of_getElem? hx)).2)) ?_;refine wk 3 ?_;exact eR):p:=h
theorem eW{p:Prop}(h:p:=by
 have ho:op=12\/op=13:=by simp_all
 refine wk 3 ?_;refine ax 67 (Bs Tryz.func87 (UM _ a b ha hb ho)) ?_;refine wk 4 ?_;refine⟨[_,_],⟨rfl,rfl,trivial⟩,?_,rfl⟩;show AV.tup _=_;rw[RU ho];rfl):p:=h
theorem cq{p:Prop}(h:p:=by
 rw[Hi (e:=e) (fun x hx=>g1 x (by rw[ho];simp only[Op.operands,List.mem_toArray];exact hx))];exact hx):p:=h
theorem cp{p:Prop}(h:p:=by
 rcases Nat.lt_or_ge j cs.length with h|h
 . exact h
 . rw[List.getElem?_eq_none h]at e2;cases e2):p:=h
theorem eV{p:Prop}(h:p:=by
 obtain⟨q',k1',k2',_⟩:=hk b' hb';rw[k2]at h1;cases h1;rw[k2']at h3;cases h3;rw[mT b hb]at h5;rw[mT b' hb']at h6;exact hr'.inj b b' _ _ r r' k1 h2 k1' h4 h5 h6 s1 s2 hne):p:=h
theorem bP{p:Prop}(h:p:=by
 refine dq 32 (Ae Aj rfl rfl rfl rfl rfl rfl (Int.natCast_nonneg _) (Dg hx) rfl) ?_;refine wk 2 ?_;refine dx 35 (Bs Tryz.func79 (hrec x (List.mem_of_getElem? hx))) ?_;refine wk 3 ?_;exact fM):p:=h
theorem bO{p:Prop}(h:p:=by
 refine⟨[_],⟨rfl,trivial⟩,?_,rfl⟩;have hend:PSt.leftL (l.drop q.1) q.2 deep=q.2:=by first|exact HB (by simpa using hb2) deep|exact Qz (As hb1) q.2 deep
 rw[<-hF.1,hend];rfl):p:=h
theorem Wf{p:Prop}(h:p:=by
 rw[AF PQ];have:=C7 b.opened;rwa[Aq]at this):p:=h
theorem bN{p:Prop}(h:p:=by
 refine⟨[_],⟨rfl,trivial⟩,?_,rfl⟩;have hend:PE.leftL (l.drop q.1) q.2 deep=q.2:=by first|exact L4 (by simpa using hb2) deep|exact Sn (As hb1) q.2 deep
 rw[<-hF.1,hend];rfl):p:=h
theorem We{p:Prop}(h:p:=by
 rw[<-hI.off (by first|exact .inl (As hb1)|exact .inr (.inl hb2)|exact .inr (.inr hb3))];exact OH):p:=h
theorem bM{p:Prop}(h:p:=by
 unfold wpList at hp|-
 by_cases hw:Region.wanted o' (yielded ops a1.tmps)=true
 . rw[if_pos hw]at hp|-;exact fP
 . rw[if_neg hw]at hp|-;exact ih _ _ hp):p:=h
theorem Wd{p:Prop}(h:p:=by
 refine I9 ⟨[_],⟨rfl,trivial⟩,?_,rfl⟩;refine bc ?_;exact(UO (by simp_all<;>omega)).symm):p:=h
theorem Wc{p:Prop}(h:p:=by
 refine⟨[_],⟨⟨_,_,_,_,rfl,rfl,.ptr _ _ _ _ _ _ _ _ rfl rfl rfl,rfl⟩,trivial⟩,?_,rfl⟩;rfl):p:=h
theorem bK{p:Prop}(h:p:=by
 have e1:=st.dom b e
 cases e2:h' b with
 |none=>rfl
 |some o=>
  rcases hd b o e2 with⟨g,_⟩|⟨_,g⟩
  . rw[g]at e1;cases e1
  . rw[hf b g]at e;cases e):p:=h
theorem Wb{p:Prop}(h:p:=by
 refine I9 ⟨[_],⟨rfl,trivial⟩,?_,rfl⟩;refine bc ?_;exact(Zs (by simp_all<;>omega)).symm):p:=h
theorem bJ{p:Prop}(h:p:=by
 obtain⟨r,r1,r2,r3⟩:=hr.obj b o h1 h2;exact⟨r,by rw[mF b hbL];exact r1,r2.mono hst.kle lle (fun hs=>blk b o r hbL h1 h2 r1 hs),fun hs=>noK b o r hbL h1 h2 r1 hs (r3 hs)⟩):p:=h
theorem bI{p:Prop}(h:p:=by
 have l6:=r6.len;have g6:=r6.regs;have k6:=r6.hi;exact⟨FD r6.inv _,by show b.regs<=b6.regs;omega,r6.inv.r0,by show b6.regs<=_;omega,by show _<=b6.blocks.length;omega⟩):p:=h
theorem Wa{p:Prop}(h:p:=by
 show(p.funcs.zipIdx.map fun x=>p.coreF x.2 x.1).length=_;rw[List.length_map,List.length_zipIdx]):p:=h
theorem Tu{p:Prop}(h:p:=by
 have:=C7 b.opened.opened;rwa[Aq,Aq]at this):p:=h
theorem bH{p:Prop}(h:p:=by
 show((Gj (nb (ai p s fuel c ws)) (D7 c)) (x+16)).map (AObj.ren Lx)=Gj (nb (ah p s fuel c ws)) (D7 c) (x+16);rw[Ax,Ax];show some _=some _;rw[WT]):p:=h
theorem bG{p:Prop}(h:p:=by
 by_cases hki:k=i
 . subst hki;rw[List.getElem?_set_self hilt]at hk;cases hk;exact .inl ⟨rfl,rfl⟩
 . rw[List.getElem?_set_ne (Ne.symm hki)]at hk;exact .inr ⟨hki,hk⟩):p:=h
theorem bF{p:Prop}(h:p:=by
 rw[k2]at h1;cases h1;obtain⟨r,r1,r2,r3⟩:=hr'.obj b o k1 h2;exact⟨r,by rw[mT b hbL];exact r1,(Gx r2 k3).mono (KLe.refl _) lle' (fun _=>rfl),r3⟩):p:=h
theorem bE{p:Prop}(h:p:=by
 rcases hst.newrb b r' e es with k|k|⟨r0,k1,k2,k3⟩
 . exact .inl (Bg k)
 . exact .inr (.inl k)
 . exact .inr (.inr ⟨r0,Bg k1,k2,k3⟩)):p:=h
theorem bD{p:Prop}(h:p:=by
 refine wk 3 ?_;refine aq 28 (A8 rfl rfl hjl f9) ?_;exact fH):p:=h
theorem bC{p:Prop}(h:p:=by
 rw[<-hC,Array.size_append,size_zeroCells,hzl];simp only[List.size_toArray,List.length_append,hol,hnl,<-Nat.add_mul];congr 1;omega):p:=h
theorem bB{p:Prop}(h:p:=by
 refine wk 6 ?_;refine⟨[_,_],⟨rfl,rfl,trivial⟩,?_,rfl⟩;show AV.tup _=_;rw[show(((0:Nat):Int))=0 from rfl,Uy _ _ At];rfl):p:=h
theorem bA{p:Prop}(h:p:=by
 cases hc:es[i]? with
 |none=>rw[hc]at hi;cases hi
 |some ds=>rw[hc]at hi;cases hi;rw[List.length_map];exact h5 i ds hc):p:=h
theorem bz{p:Prop}(h:p:=by
 cases e;rw[PSt.fit]at h;simp only[PSt.kind]at hk;simp only[PSt.name,PSt.es]
 rcases h.2.2.2 with h|h|h|h|h|h|h<;>first|exact h.2.2|omega):p:=h
theorem bx{p:Prop}(h:p:=by
 refine wk 1 ?_;have hge:=As hb1;refine wk 6 ?_;refine⟨[_],⟨rfl,trivial⟩,?_,rfl⟩;refine bc ?_;rw[D2];exact(BB hk hge).symm):p:=h
theorem bw{p:Prop}(h:p:=by
 rcases Nat.lt_or_ge j (es.length*sz)with h|h
 . exact h
 . rw[List.getElem?_eq_none (by rw[hnl];exact h)]at hj;cases hj):p:=h
theorem bv{p:Prop}(h:p:=by
 simp only[execOp,ho,resolve,invoke,builtin,Sem.run_bind,Sem.run_pure,Result.andThen_ok,List.map_toArray,List.map_cons,List.map_nil,hvx,hvy,key]):p:=h
theorem bu{p:Prop}(h:p:=by
 refine wk 5 ?_;refine⟨[_],⟨rfl,trivial⟩,?_,rfl⟩;refine bc ?_;rw[CG,Bp hx (by rw[F9,hno];rfl)]):p:=h
theorem bt{p:Prop}(h:p:=by
 cases e;rw[PE.fit]at h;simp only[PE.kind]at hk;simp only[PE.kids]
 rcases h.2 with h|h|h|h|h|h|h|h<;>first|exact h.2.2.2|omega):p:=h
theorem bs{p:Prop}(h:p:=by
 by_cases h2:a<=j/\(j:Int)<a+n/\j<w.length
 . rw[if_pos h2,if_pos Aa]
 . rw[if_neg h2,if_neg Aa]):p:=h
theorem br{p:Prop}(h:p:=by
 refine⟨[_,_],⟨rfl,rfl,trivial⟩,?_,rfl⟩;show AV.tup _=AV.tup _
 (try rw[List.length_map]at e2 e3)
 rw[Ka hno,e1,e2,e3];rfl):p:=h
theorem bq{p:Prop}(h:p:=by
 cases es with
 |nil=>exact absurd rfl hne
 |cons cs es=>rw[<-hsz' 0 cs At,hu cs At]):p:=h
theorem bp{p:Prop}(h:p:=by
 have:len*1<=len*j.size:=Nat.mul_le_mul_left _ hp;have h2:=Nat.le_of_ble_eq_true hbig;simp only[maxLen];omega):p:=h
theorem bo{p:Prop}(h:p:=by
 refine wk 6 ?_;refine⟨[_],⟨rfl,trivial⟩,?_,rfl⟩;refine bc ?_;rw[eI];first|(simp_all;done)|(simp_all<;>omega)):p:=h
theorem bn{p:Prop}(h:p:=by
 rw[EF (e:=e) (fun x hx=>g1 x (by rw[ho];simp[Op.operands,Call.operands];exact .inr (by simpa using hx)))];exact hx):p:=h
theorem bm{p:Prop}(h:p:=by
 refine wk 5 ?_;refine⟨[_],⟨rfl,trivial⟩,?_,rfl⟩;refine bc ?_;rw[D2];exact(Bp hx hno).symm):p:=h
theorem bl{p:Prop}(h:p:=by
 refine wk 1 ?_;have hge:=As hb1;refine wk 2 ?_;refine AX (.freezeA 3 0 rfl rfl (List.length_map _).symm) ?_;exact cr):p:=h
theorem bk{p:Prop}(h:p:=by
 rcases Nat.lt_or_ge i es.length with h|h
 . exact h
 . rw[List.getElem?_eq_none h]at h1;cases h1):p:=h
theorem bh{p:Prop}(h:p:=by
 rcases List.mem_append.1 hv with hv|hv
 . exact hr v hv
 . rw[(List.mem_replicate.1 hv).2];exact isW_zero):p:=h
theorem bg{p:Prop}(h:p:=by
 by_cases hu:u=t
 . subst hu;rw[DW]at hx;cases hx;exact⟨hv,ha⟩
 . rw[F1 _ _ hu]at hx;exact h u x hx):p:=h
theorem be{p:Prop}(h:p:=by
 rcases hget k ds hk with⟨rfl,rfl⟩|⟨_,hk'⟩
 . rw[List.length_set];exact r5 k cs hi
 . exact r5 k ds hk'):p:=h
theorem V9{p:Prop}(h:p:=by
 exact(Res.refl hb hb.r0 (hi:=0)).trans r r.lo Aa Aa):p:=h
theorem bd{p:Prop}(h:p:=by
 cases e with
 |mk k sl z es thn els=>
 rw[CS.ok]at h;simp only[CS.kind]at hk;simp only[CS.slot,CS.es];exact cv):p:=h
theorem bb{p:Prop}(h:p:=by
 refine wk 6 ?_;refine ax 1 EI ?_;refine wk 3 ?_;exact PI):p:=h
theorem ba{p:Prop}(h:p:=by
 obtain⟨z,hz,_⟩:=hF6 _ u hu;exact⟨z,hz,List.nil_prefix,fun hn=>absurd (.inr (.inl rfl)) hn⟩):p:=h
theorem V8{p:Prop}(h:p:=by
 refine wk 2 ?_;refine I9 ⟨[_],⟨rfl,trivial⟩,?_,rfl⟩;rfl):p:=h
theorem a9{p:Prop}(h:p:=by
 exact⟨by rw[this.1];exact Db this.2.2.1 Aa,by rw[this.2.1];exact Db (Int.le_refl _) Ab⟩):p:=h
theorem aZ{p:Prop}(h:p:=by
 cases d<;>simp[Jf]at h
 . rw[h]
 . rename_i a;revert h;cases (a.all fun f=>P.cellsOf f.type !=0)<;>simp):p:=h
theorem aY{p:Prop}(h:p:=by
 by_cases hc:c=b
 . subst hc;simp[AB,Br,hb']
 . simp[AB,Bb _ _ hc]):p:=h
theorem aX{p:Prop}(h:p:=by
 rw[hl]at hr';cases hr';exact .inr ⟨by show r.n<es.length+es2.length;omega,by omega,r1.symm⟩):p:=h
theorem aW{p:Prop}(h:p:=by
 have:=Ghost.freeze (n:=n) t b ht hb hm;rwa[List.drop_zero,List.take_of_length_le (Nat.le_of_eq hm.symm)]at this):p:=h
theorem aV{p:Prop}(h:p:=by
 obtain⟨m',g1,g2,g3,g4⟩:=k1.stop h h5;exact⟨m',g1,g2,g3,by dsimp only at g4|-;omega⟩):p:=h
theorem aU{p:Prop}(h:p:=by
 refine(h1.seq h.lt h2).mono fun G a c hm=>?_
 obtain⟨m,⟨i1,rfl⟩,i2,rfl⟩:=hm;exact⟨i1,i2,rfl⟩):p:=h
theorem aT{p:Prop}(h:p:=by
 have hb':c.R.contains b=true:=by simpa using hb
 rw[hb']at this;simp at this):p:=h
theorem aS{p:Prop}(h:p:=by
 cases e with
 |mk k sl z es thn els=>
 rw[CS.ok]at h;simp only[CS.kind]at hk;simp only[CS.es];exact cv):p:=h
theorem aR{p:Prop}(h:p:=by
 cases d<;>simp[Jf]at h
 . rfl
 . rename_i a;revert h;cases (a.all fun f=>P.cellsOf f.type !=0)<;>simp):p:=h
theorem aP{p:Prop}(h:p:=by
 obtain⟨v,f1,f2,f3⟩:=w3.2 j cs l z hk hl';exact⟨v,f1,f2.mono (KLe.refl _) hll,f3⟩):p:=h
theorem aO{p:Prop}(h:p:=by
 refine ax 20 EI ?_;refine wk 2 ?_;exact cF):p:=h
theorem V7{p:Prop}(h:p:=by
 rw[<-h3];exact congrArg (·,0) (dg (BitVec.isLt _))):p:=h
theorem aN{p:Prop}(h:p:=by
 refine⟨[_],⟨rfl,trivial⟩,?_,rfl⟩;exact congrArg (AV.int .i64) (by unfold PProg.sound;rw[hr,h0];rfl)):p:=h
theorem Tt{p:Prop}(h:p:=by
 simp[Builtin.len_,A1 e2,goInt]):p:=h
theorem aM{p:Prop}(h:p:=by
 refine wk 6 ?_;refine I9 ⟨[_],⟨rfl,trivial⟩,?_,rfl⟩;subst hke;rw[List.take_length,Nat.sub_self];rfl):p:=h
theorem aL{p:Prop}(h:p:=by
 simp[execOp,ho,Instr.indexAt,hva,hvy,asIntOf,A1 e2,sizeOf,typeInfo,e1',e4',hcond,FQ]):p:=h
theorem aK{p:Prop}(h:p:=by
 obtain⟨_,h2⟩:=h;rcases h2 with h2|h2|h2|h2|h2|h2|h2|h2|h2<;>first|exact h2.2|omega):p:=h
theorem Ts{p:Prop}(h:p:=by
 exact hE.trans r2 r2.lo Aa Aa):p:=h
theorem aJ{p:Prop}(h:p:=by
 refine I9 ⟨[_],⟨rfl,trivial⟩,?_,rfl⟩;refine bc ?_;exact(ZR (by simp_all<;>omega)).symm):p:=h
theorem aI{p:Prop}(h:p:=by
 rw[AF PQ,AF EZ,AF hj]):p:=h
theorem aH{p:Prop}(h:p:=by
 rcases hd.h b o h1 with⟨g1,g2⟩|⟨g1,_⟩
 . exact⟨g1,g2 h2⟩
 . subst g1;cases h2):p:=h
theorem aG{p:Prop}(h:p:=by
 refine wk 6 ?_;refine I9 ⟨[_],⟨rfl,trivial⟩,?_,rfl⟩;refine bc ?_;simp_all[A4]<;>omega):p:=h
end Go.Proofs.YtmfihmkopmgelaaGreat.Sv
namespace Go.Proofs.YtmfihmkopmgelaaGreat.Sv
open Go
def cb:Nat->Option (List (IntKind×Int)):=fun _=>none
inductive AV where
  |bool (b:Bool)
  |int (k:IntKind) (n:Int)
  |str (s:ByteArray)
  |nil
  |nilp
  |lst (ex:Bool) (es:List (List AV))
  |loc (cs:List AV)
  |ref (b n off len:Nat)
  |ptr (b n i o:Nat)
  |map (b:Nat)
  |agg (cs:List AV)
  |tup (vs:List AV)
  |fn (f:Fn) (fs cs:List AV)
  |val (v:Value)
def dU:Value->Bool
  | .agg _| .tuple _=>false
  |_=>true
def AV.cell1:AV->Bool
  | .agg _| .tup _=>false
  |_=>true
abbrev AJ:=Nat->Option (Array Value)
structure Ent where
  rb:Nat
  sz:Nat
  n:Nat
  csz:Nat
def Ent.solid(r:Ent):Prop:=r.csz≠0
abbrev Bi:=Nat->Option Ent
def BI:Bi:=fun _=>none
inductive Rel(H:AJ):Bi->AV->Value->Prop
  |bool (ι:Bi) (b:Bool):Rel H ι (.bool b) (.bool b)
  |int (ι:Bi) (k:IntKind) (n:Int):Rel H ι (.int k n) (.int k n)
  |str (ι:Bi) (s:ByteArray):Rel H ι (.str s) (.string s)
  |nil (ι:Bi):Rel H ι .nil (.slice none 0 0)
  |nilp (ι:Bi):Rel H ι .nilp (.pointer none)
  |lst0 (ι:Bi) (ex:Bool) (a:Option Addr) (cap:Nat) (hex:ex=true->cap=0) (hcap:cap<=maxLen) (hn:a=none->cap=0) (hsp:True):Rel H ι (.lst ex []) (.slice a 0 cap)
  |lst (ι:Bi) (ex:Bool) (es:List (List AV)) (b off cap sz:Nat) (c:Array Value) (vals:Nat->Nat->Value) (hne:es≠[]) (hb:H b=some c)
      (hsz:∀(i:Nat) (cs:List AV),es[i]?=some cs->cs.length=sz)
      (hv:∀(i:Nat) (cs:List AV) (j:Nat) (x:AV),es[i]?=some cs->cs[j]?=some x->c[off+i*sz+j]?=some (vals i j))
      (hr:∀(i:Nat) (cs:List AV) (j:Nat) (x:AV),es[i]?=some cs->cs[j]?=some x->Rel H BI x (vals i j))
      (h1:∀(i:Nat) (cs:List AV) (j:Nat) (x:AV),es[i]?=some cs->cs[j]?=some x->x.cell1=true)
      (hex:ex=true->cap=es.length) (hcap:es.length<=cap) (hmax:cap<=maxLen):
      Rel H ι (.lst ex es) (.slice (some ⟨b,off,none⟩) es.length cap)
  |loc (ι:Bi) (cs:List AV) (b off:Nat) (c:Array Value) (vals:Nat->Value) (hb:H b=some c)
      (hv:∀(j:Nat) (x:AV),cs[j]?=some x->c[off+j]?=some (vals j)) (hr:∀(j:Nat) (x:AV),cs[j]?=some x->Rel H BI x (vals j))
      (h1:∀(j:Nat) (x:AV),cs[j]?=some x->x.cell1=true):
      Rel H ι (.loc cs) (.pointer (some ⟨b,off,none⟩))
  |refL (ι:Bi) (b n off len cap:Nat) (r:Ent) (hr:ι b=some r) (hn:r.n=n) (hlen:off+len<=n) (hlc:len<=cap) (hcap:(off+cap)*r.sz=r.csz) (hmax:cap<=maxLen):
      Rel H ι (.ref b n off len) (.slice (some ⟨r.rb,off*r.sz,none⟩) len cap)
  |ref0 (ι:Bi) (b:Nat) (r:Ent) (a:Option Addr) (hr:ι b=some r) (hn:r.n=0) (hc:r.csz=0) (hsp:True):Rel H ι (.ref b 0 0 0) (.slice a 0 0)
  |refS (ι:Bi) (b n off len:Nat) (r:Ent) (a:Option Addr) (cap:Nat) (hr:ι b=some r) (hn:n<r.n):Rel H ι (.ref b n off len) (.slice a len cap)
  |ptrL (ι:Bi) (b n i o:Nat) (r:Ent) (hr:ι b=some r) (hn:r.n=n):Rel H ι (.ptr b n i o) (.pointer (some ⟨r.rb,i*r.sz+o,none⟩))
  |ptrS (ι:Bi) (b n i o:Nat) (r:Ent) (a:Addr) (hr:ι b=some r) (hn:n<r.n):Rel H ι (.ptr b n i o) (.pointer (some a))
  |map (ι:Bi) (b:Nat) (r:Ent) (hr:ι b=some r) (hn:r.sz=0):Rel H ι (.map b) (.map (some r.rb))
  |agg (ι:Bi) (cs:List AV) (vs:Array Value) (hl:cs.length=vs.size) (hr:∀(j:Nat) (x:AV) (v:Value),cs[j]?=some x->vs[j]?=some v->Rel H ι x v):Rel H ι (.agg cs) (.agg vs)
  |tup (ι:Bi) (cs:List AV) (vs:Array Value) (hl:cs.length=vs.size) (hr:∀(j:Nat) (x:AV) (v:Value),cs[j]?=some x->vs[j]?=some v->Rel H ι x v):Rel H ι (.tup cs) (.tuple vs)
  |fn (ι:Bi) (f:Fn) (xs cs:List AV) (us vs:Array Value) (hx:xs.length=us.size) (hl:cs.length=vs.size)
      (h1:∀(j:Nat) (x:AV) (v:Value),xs[j]?=some x->us[j]?=some v->Rel H ι x v) (h2:∀(j:Nat) (x:AV) (v:Value),cs[j]?=some x->vs[j]?=some v->Rel H ι x v):Rel H ι (.fn f xs cs) (.func f us vs)
  |val (ι:Bi) (v:Value) (h:dU v=true):Rel H ι (.val v) v
def KLe(H H':AJ):Prop:=∀b c,H b=some c->H' b=some c
def LLe(ι ι':Bi):Prop:=∀b r,ι b=some r->∃r',ι' b=some r'/\(r'=r\/r.n<r'.n/\0<r.sz/\r'.sz=r.sz)
theorem KLe.refl(H:AJ):KLe H H:=fun _ _ h=>h
theorem KLe.trans{H H' H'':AJ}(h:KLe H H')(h':KLe H' H''):KLe H H'':=fun b c e=>h' b c (h b c e)
theorem LLe.refl(ι:Bi):LLe ι ι:=fun _ r h=>⟨r,h,.inl rfl⟩
theorem LLe.trans{ι ι' ι'':Bi}(h:LLe ι ι')(h':LLe ι' ι''):LLe ι ι'':=fun b r e=>by
 obtain⟨r',e',h1⟩:=h b r e;obtain⟨r'',e'',h2⟩:=h' b r' e';refine⟨r'',e'',?_⟩;rcases h1 with rfl|h1<;>rcases h2 with rfl|h2
 . exact .inl rfl
 . exact .inr h2
 . exact .inr h1
 . exact .inr ⟨Nat.lt_trans h1.1 h2.1,h1.2.1,h2.2.2.trans h1.2.2⟩
theorem LLe.none(ι:Bi):LLe BI ι:=fun _ _ h=>by cases h
theorem Rel.mono{H H':AJ}{ι:Bi}{x:AV}{v:Value}(h:Rel H ι x v)(hH:KLe H H'):∀{ι':Bi},LLe ι ι'->Rel H' ι' x v:=by
 induction h with
 |bool=>exact fun _=>.bool _ _
 |int=>exact fun _=>.int _ _ _
 |str=>exact fun _=>.str _ _
 |nil=>exact fun _=>.nil _
 |nilp=>exact fun _=>.nilp _
 |lst0 ι ex a cap hex hcap hn hsp=>exact fun _=>.lst0 _ ex a cap hex hcap hn hsp
 |lst ι ex es b off cap sz c vals hne hb hsz hv hr hc1 hex hcap hmax ih=>
  exact fun _=>.lst _ ex es b off cap sz c vals hne (hH _ _ hb) hsz hv (fun i cs j x h1 h2=>ih i cs j x h1 h2 (LLe.refl _)) hc1 hex hcap hmax
 |loc ι cs b off c vals hb hv hr hc1 ih=>
  exact fun _=>.loc _ cs b off c vals (hH _ _ hb) hv (fun j x h1=>ih j x h1 (LLe.refl _)) hc1
 |refL ι b n off len cap r hr hn hlen hlc hcap hmax=>
  intro ι' h;obtain⟨r',e,h1⟩:=h b r hr;rcases h1 with rfl|h1
  . exact .refL _ b n off len cap r' e hn hlen hlc hcap hmax
  . exact .refS _ b n off len r' _ cap e (hn▸h1.1)
 |ref0 ι b r a hr hn hc hsp=>
  intro ι' h;obtain⟨r',e,h1⟩:=h b r hr;rcases h1 with rfl|h1
  . exact .ref0 _ b r' a e hn hc hsp
  . exact .refS _ b 0 0 0 r' _ 0 e Aa
 |refS ι b n off len r a cap hr hn=>
  intro ι' h;obtain⟨r',e,h1⟩:=h b r hr;rcases h1 with rfl|h1
  . exact .refS _ b n off len r' a cap e hn
  . exact .refS _ b n off len r' a cap e (Nat.lt_trans hn h1.1)
 |ptrL ι b n i o r hr hn=>
  intro ι' h;obtain⟨r',e,h1⟩:=h b r hr;rcases h1 with rfl|h1
  . exact .ptrL _ b n i o r' e hn
  . exact .ptrS _ b n i o r' _ e (hn▸h1.1)
 |ptrS ι b n i o r a hr hn=>
  intro ι' h;obtain⟨r',e,h1⟩:=h b r hr;rcases h1 with rfl|h1
  . exact .ptrS _ b n i o r' a e hn
  . exact .ptrS _ b n i o r' a e (Nat.lt_trans hn h1.1)
 |map ι b r hr hn=>
  intro ι' h;obtain⟨r',e,h1⟩:=h b r hr;rcases h1 with rfl|h1
  . exact .map _ b r' e hn
  . omega
 |val ι v h=>exact fun _=>.val _ v h
 |agg ι cs vs hl hr ih=>exact fun h=>.agg _ cs vs hl (fun j x v h1 h2=>ih j x v h1 h2 h)
 |tup ι cs vs hl hr ih=>exact fun h=>.tup _ cs vs hl (fun j x v h1 h2=>ih j x v h1 h2 h)
 |fn ι f xs cs us vs hx hl h1 h2 ih1 ih2=>exact fun h=>.fn _ f xs cs us vs hx hl (fun j x v e1 e2=>ih1 j x v e1 e2 h) (fun j x v e1 e2=>ih2 j x v e1 e2 h)
def XJ(l:List (IntKind×Int)):AV:=.loc (l.map fun p=>.int p.1 p.2)
def GlobOk(H:AJ):Prop:=∀(g:Nat) (l:List (IntKind×Int)),cb g=some l->Rel H BI (XJ l) (.pointer (some ⟨g,0,none⟩))
theorem GlobOk.mono{H H':AJ}(h:GlobOk H)(hH:KLe H H'):GlobOk H':=fun g l e=>(h g l e).mono hH (LLe.refl _)
section
variable {H : AJ} {ι : Bi} {v : Value}
theorem Rel.bool_inv{b:Bool}(h:Rel H ι (.bool b) v):v=.bool b:=by cases h;rfl
theorem Rel.int_inv{k:IntKind}{n:Int}(h:Rel H ι (.int k n) v):v=.int k n:=by cases h;rfl
theorem Rel.str_inv{s:ByteArray}(h:Rel H ι (.str s) v):v=.string s:=by cases h;rfl
theorem Rel.nil_inv(h:Rel H ι .nil v):v=.slice none 0 0:=by cases h;rfl
theorem Rel.tup_inv{cs:List AV}(h:Rel H ι (.tup cs) v):∃us,v=.tuple us/\cs.length=us.size/\∀(j:Nat) (x:AV) (u:Value),cs[j]?=some x->us[j]?=some u->Rel H ι x u:=by
 cases h;exact⟨_,rfl,by assumption,by assumption⟩
theorem Rel.agg_inv{cs:List AV}(h:Rel H ι (.agg cs) v):∃us,v=.agg us/\cs.length=us.size/\∀(j:Nat) (x:AV) (u:Value),cs[j]?=some x->us[j]?=some u->Rel H ι x u:=by
 cases h;exact⟨_,rfl,by assumption,by assumption⟩
theorem Rel.fn_inv{f:Fn}{xs cs:List AV}(h:Rel H ι (.fn f xs cs) v):∃us vs,v=.func f us vs/\xs.length=us.size/\cs.length=vs.size/\
 (∀(j:Nat) (x:AV) (u:Value),xs[j]?=some x->us[j]?=some u->Rel H ι x u)/\(∀(j:Nat) (x:AV) (u:Value),cs[j]?=some x->vs[j]?=some u->Rel H ι x u):=by
 cases h;exact⟨_,_,rfl,by assumption,by assumption,by assumption,by assumption⟩
theorem Rel.lst_inv{ex:Bool}{es:List (List AV)}(h:Rel H ι (.lst ex es) v):
 (es=[]/\∃a cap,v=.slice a 0 cap/\(ex=true->cap=0)/\cap<=maxLen/\(a=none->cap=0)/\True)\/
 (es≠[]/\∃b off cap sz c,∃vals:Nat->Nat->Value,v=.slice (some ⟨b,off,none⟩) es.length cap/\H b=some c/\(∀(i:Nat) (cs:List AV),es[i]?=some cs->cs.length=sz)/\
  (∀(i:Nat) (cs:List AV) (j:Nat) (x:AV),es[i]?=some cs->cs[j]?=some x->c[off+i*sz+j]?=some (vals i j))/\
  (∀(i:Nat) (cs:List AV) (j:Nat) (x:AV),es[i]?=some cs->cs[j]?=some x->Rel H BI x (vals i j))/\
  (∀(i:Nat) (cs:List AV) (j:Nat) (x:AV),es[i]?=some cs->cs[j]?=some x->x.cell1=true)/\
  (ex=true->cap=es.length)/\es.length<=cap/\cap<=maxLen):=by
 cases h with
 |lst0 _ _ a cap h1 h2 h3 h4=>exact .inl ⟨rfl,a,cap,rfl,h1,h2,h3,h4⟩
 |lst _ _ _ b off cap sz c vals h0 h1 h2 h3 h4 h5 h6 h7 h8=>exact .inr ⟨h0,b,off,cap,sz,c,vals,rfl,h1,h2,h3,h4,h5,h6,h7,h8⟩
theorem Rel.lst_len{ex:Bool}{es:List (List AV)}(h:Rel H ι (.lst ex es) v):∃a cap,v=.slice a es.length cap:=by
 cases h with
 |lst0 _ _ a cap h1 h2 h3 h4=>exact⟨a,cap,rfl⟩
 |lst _ _ _ b off cap sz c vals h0 h1 h2 h3 h4 h5 h6 h7 h8=>exact⟨_,_,rfl⟩
theorem Rel.loc_inv{cs:List AV}(h:Rel H ι (.loc cs) v):∃b off c,∃vals:Nat->Value,v=.pointer (some ⟨b,off,none⟩)/\H b=some c/\
 (∀(j:Nat) (x:AV),cs[j]?=some x->c[off+j]?=some (vals j))/\(∀(j:Nat) (x:AV),cs[j]?=some x->Rel H BI x (vals j))/\(∀(j:Nat) (x:AV),cs[j]?=some x->x.cell1=true):=by
 cases h;exact⟨_,_,_,_,rfl,by assumption,by assumption,by assumption,by assumption⟩
theorem Rel.ref_len{b n off len:Nat}(h:Rel H ι (.ref b n off len) v):∃a cap,v=.slice a len cap:=by
 cases h<;>exact⟨_,_,rfl⟩
theorem Rel.ref_live{b n off len:Nat}{r:Ent}(h:Rel H ι (.ref b n off len) v)(hr:ι b=some r)(hn:r.n=n)(hc:r.csz≠0):
 off+len<=n/\∃cap,v=.slice (some ⟨r.rb,off*r.sz,none⟩) len cap/\len<=cap/\(off+cap)*r.sz=r.csz/\cap<=maxLen:=by
 cases h with
 |ref0 _ _ r' a hr' hn' hc'=>rw[hr]at hr';cases hr';exact absurd hc' hc
 |refL _ _ _ _ _ cap r' hr' hn' hlen hlc hcap hmax=>rw[hr]at hr';cases hr';exact⟨hlen,cap,rfl,hlc,hcap,hmax⟩
 |refS _ _ _ _ _ r' a cap hr' hn'=>rw[hr]at hr';cases hr';omega
theorem Rel.ptr_live{b n i o:Nat}{r:Ent}(h:Rel H ι (.ptr b n i o) v)(hr:ι b=some r)(hn:r.n=n):v=.pointer (some ⟨r.rb,i*r.sz+o,none⟩):=by
 cases h with
 |ptrL _ _ _ _ _ r' hr' hn'=>rw[hr]at hr';cases hr';rfl
 |ptrS _ _ _ _ _ r' a hr' hn'=>rw[hr]at hr';cases hr';omega
theorem Rel.ptr_some{b n i o:Nat}(h:Rel H ι (.ptr b n i o) v):∃a,v=.pointer (some a):=by
 cases h<;>exact⟨_,rfl⟩
end
theorem Rel.ref_dry{H:AJ}{ι:Bi}{v:Value}{b n off len:Nat}{r:Ent}(h:Rel H ι (.ref b n off len) v)(hr:ι b=some r)(hn:r.n=n)(hc:r.csz=0)(hs:0<r.sz):
 len=0/\∃a,v=.slice a 0 0/\True:=by
 cases h with
 |ref0 _ _ r' a hr' hn' hc' hsp=>exact⟨rfl,a,rfl,hsp⟩
 |refL _ _ _ _ _ cap r' hr' hn' hlen hlc hcap hmax=>
  rw[hr]at hr';cases hr';rw[hc]at hcap;have:off+cap=0:=by
   rcases Nat.mul_eq_zero.1 hcap with h|h
   . exact h
   . omega
  have h1:cap=0:=by omega
  have h2:len=0:=by omega
  subst h1;subst h2;exact⟨rfl,_,rfl,trivial⟩
 |refS _ _ _ _ _ r' a cap hr' hn'=>rw[hr]at hr';cases hr';omega
end Go.Proofs.YtmfihmkopmgelaaGreat.Sv
namespace Go.Proofs.YtmfihmkopmgelaaGreat.Sv
open Go
inductive AObj where
  |free
  |row (p:Bool) (sz:Nat) (es:List (List AV))
  |map (kvs:List (AV×AV))
  |iter0
def AObj.alive:AObj->Bool
  | .free=>false
  |_=>true
abbrev Ag:=Nat->Option AObj
abbrev AN:=Nat->Option AV
def hNew:Ag:=fun _=>some .free
def AM:AN:=fun _=>none
def Ar(h:Ag)(b:Nat)(o:AObj):Ag:=fun x=>bif Nat.beq x b then some o else h x
def Ad(e:AN)(t:Nat)(v:AV):AN:=fun x=>bif Nat.beq x t then some v else e x
def X4(e:AN)(t:Nat):AN:=fun x=>bif Nat.beq x t then none else e x
theorem Ay{x b:Nat}(h:x≠b):Nat.beq x b=false:=by
 cases e:Nat.beq x b with
 |false=>rfl
 |true=>exact absurd (Nat.eq_of_beq_eq_true e) h
theorem Br(h:Ag)(b:Nat)(o:AObj):Ar h b o b=some o:=by simp[Ar]
theorem Bb(h:Ag){b x:Nat}(o:AObj)(hne:x≠b):Ar h b o x=h x:=by simp only[Ar,Ay hne,cond_false]
theorem DW(e:AN)(t:Nat)(v:AV):Ad e t v t=some v:=by simp[Ad]
theorem F1(e:AN){t x:Nat}(v:AV)(hne:x≠t):Ad e t v x=e x:=by simp only[Ad,Ay hne,cond_false]
theorem Ot(e:AN)(t:Nat):X4 e t t=none:=by simp[X4]
theorem Ua(e:AN){t x:Nat}(hne:x≠t):X4 e t x=e x:=by simp only[X4,Ay hne,cond_false]
structure An where
  n:Nat
  env:AN
  h:Ag
def rowCells(H:AJ)(ι:Bi)(sz:Nat)(es:List (List AV))(c:Array Value):Prop:=
  (∀(i:Nat) (cs:List AV),es[i]?=some cs->cs.length=sz)/\
  ∀(i:Nat) (cs:List AV) (j:Nat) (x:AV),es[i]?=some cs->cs[j]?=some x->∃v,c[i*sz+j]?=some v/\Rel H ι x v/\x.cell1=true
def Xq(H:AJ)(kvs:List (AV×AV))(es:Array MapEntry):Prop:=
  kvs.length=es.size/\∀(j:Nat) (k v:AV),kvs[j]?=some (k,v)->∃e,es[j]?=some e/\Rel H BI k e.key/\Rel H BI v e.val
def eQ(clk:Nat)(l:List Nat):Prop:=l.Pairwise (· < ·)/\∀b∈l,b<clk
def RowAt(w:World)(rb:Nat)(c:Array Value)(T:TypeId):Prop:=∃fr:Nat×Nat,w.heap[rb]?=some (.cells c T fr)/\(fr.2=0\/c.size<=fr.1)
theorem RowAt.lt{w:World}{rb:Nat}{c:Array Value}{T:TypeId}(h:RowAt w rb c T):rb<w.heap.size:=by
 obtain⟨fr,e,_⟩:=h;exact(Array.getElem?_eq_some_iff.1 e).1
theorem RowAt.same{w w':World}{rb:Nat}{c:Array Value}{T:TypeId}(h:RowAt w rb c T)(e:w'.heap[rb]?=w.heap[rb]?):RowAt w' rb c T:=by
 obtain⟨fr,h1,h2⟩:=h;exact⟨fr,e.trans h1,h2⟩
theorem RowAt.plain{w:World}{rb:Nat}{c:Array Value}{T:TypeId}(h:w.heap[rb]?=some (.cells c T)):RowAt w rb c T:=⟨(0,0),h,.inl rfl⟩
def ObjOk(H:AJ)(ι:Bi)(w:World)(r:Ent):AObj->Prop
  | .free=>True
  | .row p sz es=>r.sz=sz/\0<sz/\r.n=es.length/\es.length*sz<=r.csz/\(∀(i:Nat) (cs:List AV),es[i]?=some cs->cs.length=sz)/\
      (r.solid->∃c T,RowAt w r.rb c T/\c.size=r.csz/\rowCells H (bif p then BI else ι) sz es c)
  | .map kvs=>r.sz=0/\r.solid/\∃es clk,w.heap[r.rb]?=some (.map es clk)/\Xq H kvs es/\eQ clk (es.toList.map (·.born))
  | .iter0=>r.sz=0/\r.n=0/\r.solid/\w.heap[r.rb]?=some (.mapIter none 0 #[] 0)
structure HeapRel(H:AJ)(ι:Bi)(h:Ag)(w:World):Prop where
  know:∀b c,H b=some c->∃T fr,w.heap[b]?=some (.cells c T fr)
  free:∀b,h b=some .free->ι b=none
  obj:∀b o,h b=some o->o.alive=true->∃r,ι b=some r/\ObjOk H ι w r o/\(r.solid->H r.rb=none)
  inj:∀b b' o o' r r',h b=some o->o.alive=true->h b'=some o'->o'.alive=true->ι b=some r->ι b'=some r'->r.solid->r'.solid->b≠b'->r.rb≠r'.rb
  glob:GlobOk H
def Ga(h:Ag)(ι:Bi)(rb:Nat):Prop:=∃b o r,h b=some o/\o.alive=true/\ι b=some r/\r.solid/\r.rb=rb
theorem HeapRel.lt{H:AJ}{ι:Bi}{h:Ag}{w:World}(hr:HeapRel H ι h w){rb:Nat}(ho:Ga h ι rb):rb<w.heap.size:=by
 obtain⟨b,o,r,h1,h2,h3,hsol,rfl⟩:=ho;obtain⟨r',e1,e2,_⟩:=hr.obj b o h1 h2;rw[h3]at e1;cases e1
 cases o with
 |free=>cases h2
 |row p sz es=>obtain⟨_,_,_,_,_,hx⟩:=e2;obtain⟨c,T,hc,_⟩:=hx hsol;exact hc.lt
 |map kvs=>obtain⟨_,_,es,clk,hc,_⟩:=e2;exact(Array.getElem?_eq_some_iff.1 hc).1
 |iter0=>exact(Array.getElem?_eq_some_iff.1 e2.2.2.2).1
theorem HeapRel.knowlt{H:AJ}{ι:Bi}{h:Ag}{w:World}(hr:HeapRel H ι h w){b:Nat}{c:Array Value}(hc:H b=some c):b<w.heap.size:=by
 obtain⟨T,fr,e⟩:=hr.know b c hc;exact(Array.getElem?_eq_some_iff.1 e).1
structure Step(H:AJ)(ι:Bi)(h:Ag)(w:World)(H':AJ)(ι':Bi)(h':Ag)(w':World):Prop where
  size:w.heap.size<=w'.heap.size
  os:w'.os=w.os
  out:w'.output=w.output
  keep:∀rb,rb<w.heap.size->¬Ga h ι rb->w'.heap[rb]?=w.heap[rb]?
  kle:KLe H H'
  knew:∀b,H' b≠none->H b≠none\/w.heap.size<=b\/Ga h ι b
  lle:LLe ι ι'
  lframe:∀b,h b=none->ι' b=ι b
  newrb:∀b r',ι' b=some r'->r'.solid->ι b=some r'\/w.heap.size<=r'.rb\/∃r,ι b=some r/\r.solid/\r.rb=r'.rb
  dom:∀b,h b=none->h' b=none
theorem Step.refl(H:AJ)(ι:Bi)(h:Ag)(w:World):Step H ι h w H ι h w where
 size:=Nat.le_refl _
 os:=rfl
 out:=rfl
 keep:=fun _ _ _=>rfl
 kle:=KLe.refl _
 knew:=fun _ h=>.inl h
 lle:=LLe.refl _
 lframe:=fun _ _=>rfl
 newrb:=fun _ _ h _=>.inl h
 dom:=fun _ h=>h
theorem Step.owned{H:AJ}{ι:Bi}{h:Ag}{w:World}{H':AJ}{ι':Bi}{h':Ag}{w':World}
 (hr:HeapRel H ι h w) (s:Step H ι h w H' ι' h' w') {rb:Nat} (ho:Ga h' ι' rb):Ga h ι rb\/w.heap.size<=rb:=by
 obtain⟨b,o,r',h1,h2,h3,hsol,rfl⟩:=ho
 cases e1:h b with
 |none=>rw[s.dom b e1]at h1;cases h1
 |some o0=>
  have e2:ι b≠none->o0.alive=true:=fun hne=>by
   cases o0 with
   |free=>exact absurd (hr.free b e1) hne
   |_=>rfl
  rcases s.newrb b r' h3 hsol with e|e|⟨r,e,es,e'⟩
  . exact .inl ⟨b,o0,r',e1,e2 (by rw[e];simp),e,hsol,rfl⟩
  . exact .inr e
  . exact .inl ⟨b,o0,r,e1,e2 (by rw[e];simp),e,es,e'⟩
theorem Step.trans{H:AJ}{ι:Bi}{h:Ag}{w:World}{H':AJ}{ι':Bi}{h':Ag}{w':World}{H'':AJ}{ι'':Bi}{h'':Ag}{w'':World}
 (hr:HeapRel H ι h w) (s:Step H ι h w H' ι' h' w') (hr':HeapRel H' ι' h' w') (t:Step H' ι' h' w' H'' ι'' h'' w''):Step H ι h w H'' ι'' h'' w'' where
 size:=Nat.le_trans s.size t.size
 os:=t.os.trans s.os
 out:=t.out.trans s.out
 keep:=fun rb hlt hno=>by
  rw[t.keep rb (Nat.lt_of_lt_of_le hlt s.size) (fun ho=>?_),s.keep rb hlt hno];rcases s.owned hr ho with h1|h1
  . exact hno h1
  . omega
 kle:=s.kle.trans t.kle
 knew:=fun b hb=>by
  rcases t.knew b hb with h1|h1|h1
  . exact s.knew b h1
  . exact .inr (.inl (Nat.le_trans s.size h1))
  . rcases s.owned hr h1 with h2|h2
    . exact .inr (.inr h2)
    . exact .inr (.inl h2)
 lle:=s.lle.trans t.lle
 lframe:=fun b hb=>(t.lframe b (s.dom b hb)).trans (s.lframe b hb)
 newrb:=fun b r'' hb hsol=>by
  rcases t.newrb b r'' hb hsol with h1|h1|⟨r',h1,hs1,h2⟩
  . exact s.newrb b r'' h1 hsol
  . exact .inr (.inl (Nat.le_trans s.size h1))
  . rcases s.newrb b r' h1 hs1 with h3|h3|⟨r,h3,hs3,h4⟩
    . exact .inr (.inr ⟨r',h3,hs1,h2⟩)
    . exact .inr (.inl (h2▸h3))
    . exact .inr (.inr ⟨r,h3,hs3,h4.trans h2⟩)
 dom:=fun b hb=>t.dom b (s.dom b hb)
end Go.Proofs.YtmfihmkopmgelaaGreat.Sv
namespace Go.Proofs.YtmfihmkopmgelaaGreat.Sv
open Go
structure Sim(H:AJ)(ι:Bi)(s:An)(a:Act)(w:World):Prop where
  n:a.tmps.size=s.n
  d:a.defers=[]
  env:∀t x,s.env t=some x->∃v,a.tmps[t]?=some v/\Rel H ι x v
  heap:HeapRel H ι s.h w
def Post(H:AJ)(ι:Bi)(h:Ag)(w:World)(Q:Exit->An->Prop):Exit->Act->World->Prop:=fun e a' w'=>
  ∃s' H' ι',Q e s'/\Sim H' ι' s' a' w'/\Step H ι h w H' ι' s'.h w'
def AGo(P:Program)(c:Code)(s:An)(Q:Exit->An->Prop):Prop:=
  ∀H ι a w,Sim H ι s a w->c.wp P (Post H ι s.h w Q) a w
section
variable {P : Program} {Q : Exit -> An -> Prop} {s : An}
theorem Post.mono{H:AJ}{ι:Bi}{h:Ag}{w:World}{Q Q':Exit->An->Prop}{e:Exit}{a:Act}{w':World}(hp:Post H ι h w Q e a w')(hq:∀s,Q e s->Q' e s):Post H ι h w Q' e a w':=by
 obtain⟨s',H',ι',q,r⟩:=hp;exact⟨s',H',ι',hq _ q,r⟩
theorem Post.step{H:AJ}{ι:Bi}{h:Ag}{w:World}{H':AJ}{ι':Bi}{h':Ag}{w':World}(hr:HeapRel H ι h w)(hr':HeapRel H' ι' h' w')(st:Step H ι h w H' ι' h' w')
 {Q:Exit->An->Prop} {e:Exit} {a:Act} {w'':World} (hp:Post H' ι' h' w' Q e a w''):Post H ι h w Q e a w'':=by
 obtain⟨s',H'',ι'',q,r,t⟩:=hp;exact⟨s',H'',ι'',q,r,st.trans hr hr' t⟩
theorem AGo.mono{c:Code}{Q':Exit->An->Prop}(h:AGo P c s Q)(hq:∀e s,Q e s->Q' e s):AGo P c s Q':=
 fun H ι a w hs=>wp_mono (h H ι a w hs) fun e a' w' hp=>hp.mono (hq e)
theorem AGo.skip(h:Q .normal s):AGo P .skip s Q:=fun H ι a w hs=>wp_skip ⟨s,H,ι,h,hs,Step.refl _ _ _ _⟩
theorem AGo.exit{id:Nat}(h:Q (.exit id) s):AGo P (.exit id) s Q:=fun H ι a w hs=>wp_exit ⟨s,H,ι,h,hs,Step.refl _ _ _ _⟩
theorem AGo.ret(h:Q .ret s):AGo P .ret s Q:=fun H ι a w hs=>wp_ret ⟨s,H,ι,h,hs,Step.refl _ _ _ _⟩
def EY(K:An->Prop)(Q:Exit->An->Prop):Exit->An->Prop
  | .normal,s=>K s
  |e,s=>Q e s
theorem AGo.seq{x y:Code}(h:AGo P x s (EY (fun s'=>AGo P y s' Q) Q)):AGo P (.seq x y) s Q:=by
 intro H ι a w hs;refine wp_seq (wp_mono (h H ι a w hs) fun e a' w' hp=>?_)
 cases e with
 |normal=>
  obtain⟨s',H',ι',q,r,t⟩:=hp;exact wp_mono (q H' ι' a' w' r) fun e a'' w'' hp'=>Post.step hs.heap r.heap t hp'
 |_=>exact hp
theorem AGo.cond{c:Operand}{x y:Code}{t:Nat}{b:Bool}(hc:c=.tmp t)(he:s.env t=some (.bool b))(h1:b=true->AGo P x s Q)(h2:b=false->AGo P y s Q):AGo P (.cond c x y) s Q:=by
 intro H ι a w hs;subst hc;obtain⟨v,hv,hr⟩:=hs.env t _ he
 cases hr
 have hev:a.eval (.tmp t)=.bool b:=by simp[Act.eval,hv]
 exact wp_cond_split hev (fun e=>h1 e H ι a w hs) (fun e=>h2 e H ι a w hs)
theorem Nm{t:Nat}{x y:Code}(b:Bool)(he:s.env t=some (.bool b))(hb:b=true)(h:AGo P x s Q):AGo P (.cond (.tmp t) x y) s Q:=
 AGo.cond rfl he (fun _=>h) (fun h2=>by rw[hb]at h2;cases h2)
theorem Nd{t:Nat}{x y:Code}(b:Bool)(he:s.env t=some (.bool b))(hb:b=false)(h:AGo P y s Q):AGo P (.cond (.tmp t) x y) s Q:=
 AGo.cond rfl he (fun h2=>by rw[hb]at h2;cases h2) (fun _=>h)
def Uj(id:Nat)(Q:Exit->An->Prop):Exit->An->Prop
  | .exit id',s=>bif Nat.beq id' id then Q .normal s else Q (.exit id') s
  |e,s=>Q e s
theorem AGo.block{id:Nat}{c:Code}(h:AGo P c s (Uj id Q)):AGo P (.block id c) s Q:=by
 intro H ι a w hs;refine wp_block (wp_mono (h H ι a w hs) fun e a' w' hp=>?_)
 cases e with
 |exit id'=>
  obtain⟨s',H',ι',q,r⟩:=hp;simp only[Exit.inBlock];simp only[Uj]at q
  by_cases hid:id'=id
  . subst hid;simp only[Nat.beq_refl,cond_true]at q;rw[if_pos rfl];exact⟨s',H',ι',q,r⟩
  . rw[if_neg hid];rw[Ay hid]at q;exact⟨s',H',ι',q,r⟩
 |_=>exact hp
theorem AGo.loop{γ:Type}{c:Code}(I:γ->An->Prop)(μ:γ->Nat)(g0:γ)(h0:I g0 s)
 (round:∀g s,I g s->AGo P c s (EY (fun s'=>∃g',I g' s'/\μ g'<μ g) Q)):AGo P (.loop c) s Q:=by
 intro H ι a w hs b k cs;have key:∀n g s1 H1 ι1 a1 w1,μ g=n->I g s1->Sim H1 ι1 s1 a1 w1->Step H ι s.h w H1 ι1 s1.h w1->
  ∃e a' w',Post H ι s.h w Q e a' w'/\Arrives P (lone (b.at a1 (.code c:: .inLoop c::k)) cs w1) b k cs e a' w':=by
  intro n
  induction n using Nat.strongRecOn with
  |_ n ih=>
   intro g s1 H1 ι1 a1 w1 hn hI hs1 hst;obtain⟨e,a₂,w₂,hq,harr⟩:=round g s1 hI H1 ι1 a1 w1 hs1 b (.inLoop c::k) cs;obtain⟨s2,H2,ι2,q,r,t⟩:=hq;have t':=hst.trans hs.heap hs1.heap t
   cases e with
   |normal=>
    obtain⟨g',hI',hlt⟩:=q;obtain⟨e₂,a₃,w₃,hq₂,harr₂⟩:=ih (μ g') (hn▸hlt) g' s2 H2 ι2 a₂ w₂ rfl hI' r t';exact⟨e₂,a₃,w₃,hq₂,.of_steps (Steps.trans harr (.one step_inLoop)) harr₂⟩
   |exit id=>exact⟨_,a₂,w₂,⟨s2,H2,ι2,q,r,t'⟩,.pass (x:=.inLoop c) rfl (fun _ _=>.inl At) harr⟩
   |goto l=>exact⟨_,a₂,w₂,⟨s2,H2,ι2,q,r,t'⟩,.pass (x:=.inLoop c) rfl (fun _ _=>.inl At) harr⟩
   |ret=>exact⟨_,a₂,w₂,⟨s2,H2,ι2,q,r,t'⟩,.pass (x:=.inLoop c) rfl (fun _ _=>.inl At) harr⟩
   |panic ch=>exact⟨_,a₂,w₂,⟨s2,H2,ι2,q,r,t'⟩,.pass (x:=.inLoop c) rfl (fun _ _=>.inl At) harr⟩
   |outgrown=>exact⟨_,a₂,w₂,⟨s2,H2,ι2,q,r,t'⟩,.pass (x:=.inLoop c) rfl (fun _ _=>.inl At) harr⟩
 obtain⟨e,a',w',hq,harr⟩:=key _ g0 s H ι a w rfl h0 hs (Step.refl _ _ _ _);exact⟨e,a',w',hq,.of_steps (.one step_loop) harr⟩
def Sub(s s':An):Prop:=s.n=s'.n/\(∀t x,s.env t=some x->s'.env t=some x)/\(∀b o,s.h b=some o->s'.h b=some o)
theorem HeapRel.sub{H:AJ}{ι:Bi}{h h':Ag}{w:World}(hr:HeapRel H ι h' w)(hs:∀b o,h b=some o->h' b=some o):HeapRel H ι h w where
 know:=hr.know
 glob:=hr.glob
 free:=fun b e=>hr.free b (hs _ _ e)
 obj:=fun b o e ea=>hr.obj b o (hs _ _ e) ea
 inj:=fun b b' o o' r r' h1 h2 h3 h4=>hr.inj b b' o o' r r' (hs _ _ h1) h2 (hs _ _ h3) h4
theorem Sim.sub{H:AJ}{ι:Bi}{s s':An}{a:Act}{w:World}(h:Sim H ι s' a w)(hs:Sub s s'):Sim H ι s a w where
 n:=h.n.trans hs.1.symm
 d:=h.d
 env:=fun t x e=>h.env t x (hs.2.1 t x e)
 heap:=h.heap.sub hs.2.2
end
end Go.Proofs.YtmfihmkopmgelaaGreat.Sv
namespace Go.Proofs.YtmfihmkopmgelaaGreat.Sv
open Go
inductive TK where
  |bool|int (k:IntKind)|string|slice (e:Nat)|struct (fs:List (Nat×Nat))|array (n e:Nat)|ptr (e:Nat)|map (k e:Nat)|fn|other
structure AD where
  k:TK
  size:Nat
  bytes:Nat
  zero:List AV
def Ps:Value->Option AV
  | .bool b=>some (.bool b)
  | .int k n=>some (.int k n)
  | .string s=>some (.str s)
  | .slice none 0 0=>some .nil
  | .pointer none=>some .nilp
  | .nilFunc=>some (.val .nilFunc)
  | .nilIface=>some (.val .nilIface)
  | .map none=>some (.val (.map none))
  |_=>none
def allAV:List Value->Option (List AV)
  | []=>some []
  |v::vs=>match Ps v,allAV vs with
    |some x,some xs=>some (x::xs)
    |_,_=>none
def Jf(P:Program):TypeDesc->TK
  | .bool=>.bool
  | .int k=>.int k
  | .string=>.string
  | .slice e=>.slice e
  | .struct fs=>bif fs.all (fun f=>P.cellsOf f.type !=0)then .struct (fs.toList.map fun f=>(f.offset,f.type))else .other
  | .array n e=>.array n e
  | .pointer e=>.ptr e
  | .map k e=>.map k e
  | .func .. =>.fn
  |_=>.other
def UD(P:Program)(t:Nat):Option AD:=
  match P.info? t,P.underlying t with
  |some i,some d=>some {k:=Jf P d,size:=i.size,bytes:=i.bytes,zero:=((i.zero.bind fun z=>allAV z.cells.toList).getD [])}
  |_,_=>none
def DP(P:Program)(T:Nat->Option AD):Prop:=∀t i,T t=some i->UD P t=some i
theorem MS{H:AJ}{ι:Bi}{v:Value}{x:AV}(h:Ps v=some x):Rel H ι x v:=by
 unfold Ps at h;split at h<;>simp at h<;>subst h
 . exact .bool _ _
 . exact .int _ _ _
 . exact .str _ _
 . exact .nil _
 . exact .nilp _
 . exact .val _ _ rfl
 . exact .val _ _ rfl
 . exact .val _ _ rfl
theorem ED{H:AJ}{ι:Bi}:∀{vs:List Value} {xs:List AV},allAV vs=some xs->xs.length=vs.length/\∀(j:Nat) (x:AV) (v:Value),xs[j]?=some x->vs[j]?=some v->Rel H ι x v
 | [],xs,h=>by
  simp[allAV]at h;subst h;exact⟨rfl,fun j x v h1=>by simp at h1⟩
 |v::vs,xs,h=>by
  unfold allAV at h;split at h
  . rename_i x ys h1 h2;simp at h;subst h;have ih:=ED (H:=H) (ι:=ι) h2;refine⟨by simp[ih.1],fun j y u e1 e2=>?_⟩
    cases j with
    |zero=>simp at e1 e2;subst e1;subst e2;exact MS h1
    |succ j=>simp at e1 e2;exact ih.2 j y u e1 e2
  . cases h
theorem Av{P:Program}{t:Nat}{i:AD}(h:UD P t=some i):∃info d,P.info? t=some info/\P.underlying t=some d/\i.k=Jf P d/\info.size=i.size/\info.bytes=i.bytes/\
 i.zero=((info.zero.bind fun z=>allAV z.cells.toList).getD []):=by
 unfold UD at h;split at h
 . rename_i info d h1 h2;simp at h;subst h;exact⟨info,d,h1,h2,rfl,rfl,rfl,rfl⟩
 . cases h
theorem Fb{info:TypeInfo}{i:AD}(hz:i.zero=((info.zero.bind fun z=>allAV z.cells.toList).getD []))(hl:i.zero.length=i.size)(hp:0<i.size):
 ∃z,info.zero=some z/\allAV z.cells.toList=some i.zero:=by
 cases e:info.zero with
 |none=>rw[e]at hz;simp at hz;rw[hz]at hl;simp at hl;omega
 |some z=>
  rw[e]at hz;simp only[Option.bind_some]at hz
  cases e2:allAV z.cells.toList with
  |none=>rw[e2]at hz;simp at hz;rw[hz]at hl;simp at hl;omega
  |some xs=>rw[e2]at hz;simp at hz;exact⟨z,rfl,by rw[e2,hz]⟩
def Po:Value->Option AV
  | .agg cs=>match allAV cs.toList with
    |some xs=>some (.agg xs)
    |none=>none
  |v=>Ps v
theorem Rd{H:AJ}{ι:Bi}{v:Value}{x:AV}(h:Po v=some x):Rel H ι x v:=by
 unfold Po at h;split at h
 . rename_i cs;split at h
   . rename_i xs e;simp at h;subst h;have:=ED (H:=H) (ι:=ι) e;exact .agg _ _ _ (by simpa using this.1) (fun j x v h1 h2=>this.2 j x v h1 (by simpa using h2))
   . cases h
 . exact MS h
def AA(env:AN):Operand->Option AV
  | .tmp t=>env t
  | .const v=>Po v
  | .func f=>some (.fn (.func f) [] [])
  | .global g=>(cb g).map XJ
theorem AH{H:AJ}{ι:Bi}{s:An}{a:Act}{w:World}(hs:Sim H ι s a w){o:Operand}{x:AV}(h:AA s.env o=some x):Rel H ι x (a.eval o):=by
 cases o with
 |tmp t=>
  obtain⟨v,hv,hr⟩:=hs.env t x h;simpa[Act.eval,hv]using hr
 |const v=>exact Rd h
 |func f=>
  simp only[AA,Option.some.injEq]at h;subst h;exact .fn _ _ _ _ _ _ rfl rfl (fun j x v h1=>by simp at h1) (fun j x v h1=>by simp at h1)
 |global g=>
  simp only[AA,Option.map_eq_some_iff]at h;obtain⟨l,hl,rfl⟩:=h;exact(hs.heap.glob g l hl).mono (KLe.refl _) (LLe.none ι)
def BP(op:BinOp)(k:IntKind)(a b:Int):Option AV:=
  match op with
  | .add=>some (.int k (k.wrap (a+b)))
  | .sub=>some (.int k (k.wrap (a-b)))
  | .mul=>some (.int k (k.wrap (a*b)))
  | .quo=>if b=0 then none else some (.int k (k.wrap (a.tdiv b)))
  | .rem=>if b=0 then none else some (.int k (a.tmod b))
  | .and=>some (.int k (k.wrap ((BitVec.ofInt k.bits a&&&BitVec.ofInt k.bits b).toNat)))
  | .or=>some (.int k (k.wrap ((BitVec.ofInt k.bits a|||BitVec.ofInt k.bits b).toNat)))
  | .xor=>some (.int k (k.wrap ((BitVec.ofInt k.bits a^^^BitVec.ofInt k.bits b).toNat)))
  | .andNot=>some (.int k (k.wrap ((BitVec.ofInt k.bits a&&& ~~~BitVec.ofInt k.bits b).toNat)))
  | .shl=>if b<0 then none else some (.int k (k.wrap (a*2^(min b.toNat k.bits))))
  | .shr=>if b<0 then none else some (.int k (a.fdiv (2^(min b.toNat k.bits))))
  | .eql=>some (.bool (a==b))
  | .neq=>some (.bool (a !=b))
  | .lss=>some (.bool (decide (a<b)))
  | .leq=>some (.bool (decide (a<=b)))
  | .gtr=>some (.bool (decide (a>b)))
  | .geq=>some (.bool (decide (a>=b)))
def isShift:BinOp->Bool
  | .shl| .shr=>true
  |_=>false
def eqCell:AV->AV->Option Bool
  | .int k a,.int k' b=>if k=k' then some (a==b)else none
  | .bool a,.bool b=>some (a==b)
  | .str a,.str b=>some (a.toList==b.toList)
  |_,_=>none
def eqCells:List AV->List AV->Option Bool
  | [],[]=>some true
  |x::xs,y::ys=>match eqCell x y,eqCells xs ys with
    |some p,some q=>some (p&&q)
    |_,_=>none
  |_,_=>none
def Bh(op:BinOp)(x y:AV):Option AV:=
  match x,y with
  | .int k a,.int k' b=>bif isShift op then BP op k a b else if k=k' then BP op k a b else none
  | .str a,.str b=>match op with
    | .eql=>some (.bool (a.toList==b.toList))
    | .neq=>some (.bool (!(a.toList==b.toList)))
    |_=>none
  |_,_=>none
theorem Qg{P:Program}{w:World}{H:AJ}{ι:Bi}{op:BinOp}{T:TypeId}{k k':IntKind}{a b:Int}{r:AV}(hk:isShift op=true\/k=k')(h:BP op k a b=some r):
 ∃v,Rel H ι r v/\(binOp op T (.int k a) (.int k' b)).run P w=.ok v w:=by
 cases op<;>simp only[BP,Option.some.injEq]at h
 case quo=>split at h;cases h;(rename_i hb;rcases hk with hk|rfl;· cases hk);simp at h;subst h;exact⟨_,.int _ _ _,by simp[binOp,Op.intDiv,hb]⟩
 case rem=>split at h;cases h;(rename_i hb;rcases hk with hk|rfl;· cases hk);simp at h;subst h;exact⟨_,.int _ _ _,by simp[binOp,Op.intDiv,hb]⟩
 case shl=>split at h;cases h;rename_i hb;simp at h;subst h;exact⟨_,.int _ _ _,by simp[binOp,Op.shift,hb]⟩
 case shr=>split at h;cases h;rename_i hb;simp at h;subst h;exact⟨_,.int _ _ _,by simp[binOp,Op.shift,hb]⟩
 all_goals
  rcases hk with hk|rfl
  . cases hk
  subst h
  first
   |exact⟨_,.int _ _ _,by simp[binOp,Op.intArith,Op.intBits,Op.intCmp]⟩
   |exact⟨_,.bool _ _,by simp[binOp,Op.intArith,Op.intBits,Op.intCmp]⟩
theorem Qh{P:Program}{w:World}{H:AJ}{ι:Bi}{op:BinOp}{T:TypeId}{xo yo:Operand}{x y r:AV}{u v:Value}(hx:Rel H ι x u)(hy:Rel H ι y v)(h:Bh op x y=some r):
 ∃z,Rel H ι r z/\(do eqGuard op T xo yo u v;binOp op T u v:Sem Value).run P w=.ok z w:=by
 unfold Bh at h;split at h
 . rename_i k a k' b
   cases hx;cases hy
   have hk:(isShift op=true\/k=k')/\BP op k a b=some r:=by
    cases e:isShift op with
    |true=>rw[e]at h;exact⟨.inl rfl,h⟩
    |false=>
     rw[e]at h;simp only[cond_false]at h;split at h
     . exact⟨.inr CO,h⟩
     . cases h
   obtain⟨z,h1,h2⟩:=Qg (P:=P) (w:=w) (H:=H) (ι:=ι) (T:=T) hk.1 hk.2;refine⟨z,h1,?_⟩;have hg:(eqGuard op T xo yo (.int k a) (.int k' b)).run P w=.ok () w:=by unfold eqGuard;cases op<;>simp
   rw[Sem.run_bind,hg];exact h2
 . rename_i a b
   cases hx;cases hy
   have hg:(eqGuard op T xo yo (.string a) (.string b)).run P w=.ok () w:=by unfold eqGuard;cases op<;>simp
   split at h
   . simp at h;subst h;exact⟨_,.bool _ _,by rw[Sem.run_bind,hg,Result.andThen_ok,binOp_string_eql];rfl⟩
   . simp at h;subst h;exact⟨_,.bool _ _,by rw[Sem.run_bind,hg,Result.andThen_ok,binOp_string_neq];rfl⟩
   . cases h
 . cases h
end Go.Proofs.YtmfihmkopmgelaaGreat.Sv
