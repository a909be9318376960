/-
  WALKS OF THE FORWARDING PASS (2): a register is a copy. Own work.
-/
import Derived.Test.YtbbfelelocccmaaGreatPOptimizeMeans6
import Derived.Test.YtbbfelelocccmaaGreatPOptimizeMeans4
import Derived.Test.YtbbfelelocccmaaGreatPOptimizeMeans3
import Derived.Test.YtbbfelelocccmaaGreatPOptimizeMeans2
import Derived.Test.YtbbfelelocccmaaGreatPOptimizeMeans5
import Derived.RangeFuncFrom
import Derived.TacticsIn
import Derived.RangeFuncLeaves
import Derived.RangeFuncKeeps
import Derived.Shelf.Abstract
import Derived.WalkKit
import Derived.OwnWalkIn
import Derived.TacticsInMore
import Derived.LoopNIn
import Derived.LoopIn
set_option linter.unusedVariables false
set_option linter.unusedSimpArgs false
set_option maxRecDepth 100000
set_option maxHeartbeats 2000000
namespace Go.Proofs.YtbbfelelocccmaaGreat.Sv
open Go
set_option maxRecDepth 100000
theorem Wi(h:Ac){R:Nat}{fr:List Int}{to:List (Option Nat)}{maps:List (List Int)}(hI:FwI R fr to maps){d a:Nat}(hd:d<R)(ha:a<R)(hne:a≠d)(hs:rget fr d=d)(hn:to[d]?=some none)(hra:rget fr a=a):
 ACall Tryz.prog 79 [.ptr 2 1 0 0,.int .i64 (d:Int),.int .i64 (a:Int)] (FH h R fr to maps) (fun r h'=>r= .tup []/\∃to' maps',FwI R (AS fr (d:Int) a) to' maps'/\HSub (FH h R (AS fr (d:Int) a) to' maps') h'):=by
 refine ACall.of_body (n:=36) Ag Tryz.func79 rfl rfl ?_;have hdf:(0:Int)<=(d:Int)/\(d:Int)<fr.length:=by rw[hI.lenF];omega
 obtain⟨o,ho⟩:=hI.to_of ha;refine wk 8 ?_;refine aq 12 (Ab Ag rfl rfl rfl rfl rfl rfl rfl (by rw[B5,hI.lenF]) rfl hdf.1 (by omega)) ?_;refine AOps.w rfl rfl (o_store Ag rfl rfl rfl rfl rfl rfl (by rw[B5,hI.lenF]) (K2 hdf) rfl (by decide) rfl (by intro h;rfl)) ?_;refine wk 1 ?_;refine AGo.sub (s':=⟨36,Aa (Aa (Aa A9 0 (.ptr 2 1 0 0)) 1 (.int .i64 (d:Int))) 2 (.int .i64 (a:Int)),FH h R (AS fr (d:Int) a) to maps⟩) (Sub.mk' Cf ?_) ?_
 . show HSub _ (hput (FH h R fr to maps) 3 (.row true 1 ((Gu fr).set (0+((d:Nat):Int).toNat) [.int .i64 (a:Int)])));rw[JB,Nc];exact HSub.refl _
 have hidx:(0:Int)<=(a:Int)/\(a:Int)<R:=by omega
 rcases hI.copied hd ha hne hs hn hra with⟨j,ks,k1,k2,k3,k4⟩ |⟨k1,k4⟩
 .
  have hjl:j<maps.length:=(List.getElem?_eq_some_iff.1 k2).1;refine wk 8 ?_;refine aq 18 (Ab Ag rfl rfl rfl rfl rfl rfl rfl (by rw[List.length_map,hI.lenT]) rfl hidx.1 (by omega)) ?_;refine aq 19 (At Ag rfl rfl rfl (.ptr _ _ _ _ _ _ _ _ rfl (by rw[List.length_map,hI.lenT]) (IR k1)) rfl) ?_;refine aq 20 (Tr Ag (r:=false) (.inr ⟨⟨j+16,rfl⟩,rfl⟩) rfl rfl) ?_;refine wk 9 ?_;refine aq 33 (Ab Ag rfl rfl rfl rfl rfl rfl rfl (by rw[List.length_map,hI.lenT]) rfl hidx.1 (by omega)) ?_;refine aq 34 (At Ag rfl rfl rfl (.ptr _ _ _ _ _ _ _ _ rfl (by rw[List.length_map,hI.lenT]) (IR k1)) rfl) ?_;refine wk 1 ?_;refine AOps.w rfl rfl (o_mapUpdate Ag rfl rfl rfl rfl rfl rfl (by rw[I8,HY k2]) rfl rfl rfl rfl) ?_;refine wk 1 ?_;refine⟨[],trivial,rfl,to,_,k4,?_⟩;show HSub _ (hput (FH h R (AS fr (d:Int) a) to maps) (j+16) (.map (kvs .i64 (JH (d:Int) (.bool true) (SL ks)))));rw[Ov k3,WC _ hjl]
  exact HSub.refl _
 refine wk 8 ?_;refine aq 18 (Ab Ag rfl rfl rfl rfl rfl rfl rfl (by rw[List.length_map,hI.lenT]) rfl hidx.1 (by omega)) ?_;refine aq 19 (At Ag rfl rfl rfl (.ptr _ _ _ _ _ _ _ _ rfl (by rw[List.length_map,hI.lenT]) (IR k1)) rfl) ?_;refine aq 20 (Tr Ag (r:=true) (.inl ⟨rfl,rfl⟩) rfl rfl) ?_;refine wk 8 ?_;refine ax 26 (Js .i64 (maps.length+16) rfl (by rw[I8,ZC])) ?_;refine aq 27 (Ab (p:=false) (sz:=1) (es:=to.map ML) Ag rfl rfl rfl rfl rfl rfl rfl (by rw[List.length_map,hI.lenT]) rfl hidx.1 (by omega)) ?_;refine AOps.w rfl rfl (o_store (p:=false) (sz:=1) (es:=to.map ML) Ag rfl rfl rfl rfl rfl rfl (by rw[List.length_map,hI.lenT]) (IR k1) rfl (by decide) rfl (by intro h;cases h)) ?_;refine wk 1 ?_;refine AGo.sub (s':=⟨36,Aa (Aa (Aa A9 0 (.ptr 2 1 0 0)) 1 (.int .i64 (d:Int))) 2 (.int .i64 (a:Int)),FH h R (AS fr (d:Int) a) (to.set a (some maps.length)) (maps++[[]])⟩) (Sub.mk' Cf ?_) ?_
 . show HSub _ (hput (hput (FH h R (AS fr (d:Int) a) to maps) (maps.length+16) (.map (kvs .i64 (SL [])))) 4 (.row false 1 ((to.map ML).set (0+((a:Nat):Int).toNat) (ML (some maps.length)))));rw[OE,lW,jq];exact HSub.refl _
 have hto:(to.set a (some maps.length))[a]?=some (some maps.length):=List.getElem?_set_self (by rw[hI.lenT];exact ha);have hmp:(maps++[[]])[maps.length]?=some ([]:List Int):=by rw[List.getElem?_append_right (Nat.le_refl _)];simp
 refine wk 6 ?_;refine aq 33 (Ab Ag rfl rfl rfl rfl rfl rfl rfl (by rw[List.length_map,List.length_set,hI.lenT]) rfl hidx.1 (by omega)) ?_;refine aq 34 (At Ag rfl rfl rfl (.ptr _ _ _ _ _ _ _ _ rfl (by rw[List.length_map,List.length_set,hI.lenT]) (IR hto)) rfl) ?_;refine wk 1 ?_;refine AOps.w rfl rfl (o_mapUpdate Ag rfl rfl rfl rfl rfl rfl (by rw[I8,HY hmp]) rfl rfl rfl rfl) ?_;refine wk 1 ?_;refine⟨[],trivial,rfl,_,_,k4,?_⟩;show HSub _ (hput (FH h R (AS fr (d:Int) a) (to.set a (some maps.length)) (maps++[[]])) (maps.length+16) (.map (kvs .i64 (JH (d:Int) (.bool true) (SL [])))));rw[Ov (by simp),WC _ (by simp)];have h9:(maps++[([]:List Int)]).set maps.length ([]++[(d:Int)])=maps++[[(d:Int)]]:=by simp
 rw[h9];exact HSub.refl _
end Go.Proofs.YtbbfelelocccmaaGreat.Sv
namespace Go.Proofs.YtbbfelelocccmaaGreat.Sv
open Go
theorem Wu(op:Int):APure Tryz.prog 64 [.int .i64 op] (fun r=>r= .bool (setsOp op)):=by
 refine APure.of_body (n:=11) Ag Tryz.func64 rfl rfl ?_;refine wk 16 ?_;refine asp 4 (fun hb1=>?_) fun hb1=>?_
 .
  refine wk 7 ?_;exact U5
 refine wk 6 ?_;refine asp 4 (fun hb2=>?_) fun hb2=>?_
 .
  refine wk 7 ?_;exact U5
 refine wk 6 ?_;refine asp 4 (fun hb3=>?_) fun hb3=>?_
 .
  refine wk 7 ?_;exact U5
 refine wk 6 ?_;refine asp 4 (fun hb4=>?_) fun hb4=>?_
 .
  refine wk 7 ?_;exact U5
 refine wk 6 ?_;refine asp 4 (fun hb5=>?_) fun hb5=>?_
 .
  refine wk 7 ?_;exact U5
 refine wk 5 ?_;refine asp 4 (fun hb6=>?_) fun hb6=>?_
 .
  refine wk 5 ?_;exact U5
 refine wk 6 ?_;exact U5
theorem Z0(op:Int):APure Tryz.prog 65 [.int .i64 op] (fun r=>r= .int .i64 (Vx op)):=by
 refine APure.of_body (n:=12) Ag Tryz.func65 rfl rfl ?_;refine wk 16 ?_;refine asp 4 (fun hb1=>?_) fun hb1=>?_
 .
  refine wk 7 ?_;exact U8
 refine wk 6 ?_;refine asp 4 (fun hb2=>?_) fun hb2=>?_
 .
  refine wk 7 ?_;exact U8
 refine wk 6 ?_;refine asp 4 (fun hb3=>?_) fun hb3=>?_
 .
  refine wk 7 ?_;exact U8
 refine wk 5 ?_;refine asp 4 (fun hb4=>?_) fun hb4=>?_
 .
  refine wk 5 ?_;exact U8
 refine wk 7 ?_;refine asp 9 (fun hb5=>?_) fun hb5=>?_
 .
  refine wk 7 ?_;exact U8
 refine wk 5 ?_;refine asp 9 (fun hb6=>?_) fun hb6=>?_
 .
  refine wk 5 ?_;exact U8
 refine wk 6 ?_;exact U8
theorem O9(t:Tac):APure Tryz.prog 81 [.agg t.cells] (fun r=>r=A0 t.uses):=by
 refine APure.of_body (n:=18) Ag Tryz.func81 rfl rfl ?_;refine MJ ?_;refine ax 1 (GJ 8 0) ?_;refine wk 7 ?_;refine ax 5 (DQ Tryz.func65 (Z0 _)) ?_;refine wk 7 ?_;refine asp 6 (fun hb1=>?_) fun hb1=>?_
 .
  refine wk 5 ?_;refine ax 10 (Cn Ag rfl rfl rfl rfl rfl rfl (by decide) rfl rfl rfl rfl rfl rfl) ?_;refine wk 2 ?_;exact jH
 refine wk 6 ?_;refine asp 11 (fun hb2=>?_) fun hb2=>?_
 .
  refine wk 7 ?_;refine ax 17 (Cn Ag rfl rfl rfl rfl rfl rfl (by decide) rfl rfl rfl rfl rfl rfl) ?_;refine wk 2 ?_;exact jH
 refine wk 6 ?_;refine AGo.ghost (.empty 2 rfl) ?_;exact jH
theorem La(t:Tac):APure Tryz.prog 77 [.agg t.cells] (fun r=>r= .int .i64 t.sets):=by
 refine APure.of_body (n:=8) Ag Tryz.func77 rfl rfl ?_;refine MJ ?_;refine ax 1 (GJ 8 0) ?_;refine wk 7 ?_;refine ax 5 (DQ Tryz.func64 (Wu _)) ?_;refine an ?_;refine asp 5 (fun hb1=>?_) fun hb1=>?_
 .
  refine wk 7 ?_;refine FZ ⟨[_],⟨rfl,trivial⟩,?_,rfl⟩;show AV.int .i64 _=AV.int .i64 _;congr 1;simp_all[Tac.sets]
 refine wk 6 ?_;refine FZ ⟨[_],⟨rfl,trivial⟩,?_,rfl⟩;show AV.int .i64 _=AV.int .i64 _;congr 1;simp_all[Tac.sets]
set_option maxRecDepth 100000
def GT(R q:Nat):List Int:=(List.range R).map fun v=>if v<q then(v:Int)else 0
theorem LW(R q:Nat):(GT R q).length=R:=by simp[GT]
theorem Wh{R q:Nat}(h:q<R):AS (GT R q) (q:Int) q=GT R (q+1):=by
 unfold AS GT;apply List.ext_getElem?;intro v;rw[show((q:Nat):Int).toNat=q from rfl,List.getElem?_set,List.getElem?_map,List.getElem?_map]
 by_cases e:q=v
 . subst e;rw[if_pos rfl];simp[h]
 . rw[if_neg e]
   by_cases hv:v<R
   . simp[hv]
     by_cases h1:v<q
     . rw[if_pos h1,if_pos (by omega)]
     . rw[if_neg h1,if_neg (by omega)]
   . simp[hv]
theorem ZB(R:Nat):GT R R=KU R:=by
 unfold GT KU;apply List.map_congr_left;intro v hv;rw[if_pos (List.mem_range.1 hv)]
theorem ew{R:Nat}{l:List Tac}{i:Nat}{t:Tac}(hx:l[i]?=some t):(Dn R l i)[0+((i:Nat):Int).toNat]?=some [.int .i64 0,.int .i64 0,.int .i64 0,.int .i64 0,.int .i64 0,.int .i64 0,.int .i64 0,.int .u32 0]:=by
 have hi:i<l.length:=(List.getElem?_eq_some_iff.1 hx).1;rw[Nat.zero_add,show((i:Nat):Int).toNat=i from rfl];unfold Dn;rw[List.getElem?_append_right (by rw[List.length_map,Gx,List.length_take];omega),List.length_map,Gx,List.length_take,show i-min i l.length=0 by omega,List.getElem?_replicate,if_pos (by omega)]
theorem Ui(k:Nat->Bool)(l:List Tac):(Ea l).avoid k=true:=by
 rfl
theorem L4(b:Block):(AObj.row false 5 [b.cells]).avoid k6=true:=by
 rfl
theorem IY(R:Nat)(l:List Tac)(i:Nat):(AObj.row true 8 (Dn R l i)).avoid k6=true:=by
 rfl
theorem gk{t:Tac}(h:decide (t.sets>=0)=true):setsOp t.op=true/\t.sets=t.d:=by
 unfold Tac.sets at h |-
 cases e:setsOp t.op with
 | true=>exact⟨rfl,rfl⟩
 | false=>rw[e]at h;cases h
theorem Sh(b:Block)(R:Nat)(hR:R<=4000)(hlen:b.ins.length<=1000000000)(hins: ∀t∈b.ins,fp R t)(hv:b.fin=2->0<=b.v/\b.v<R):APure Tryz.prog 57 [.agg b.cells,.int .i64 (R:Int)] (fun r=>r= .agg (b.forward R).cells):=by
 refine APure.of_body (n:=108) Ag Tryz.func57 rfl rfl ?_;refine wk 2 ?_;refine ax 2 (GJ 5 0) ?_;refine ax 4 (EO Ag 1) ?_;refine wk 4 ?_;refine dx 12 (AA Ag (n:=R) (m:=R) 3 true rfl rfl rfl rfl rfl rfl rfl rfl rfl rfl (Nat.zero_lt_succ _) rfl (Nat.le_refl _) (by show 8*R<=_;omega) (by simp only[maxLen];omega)) ?_;refine wk 1 ?_;refine dx 14 (AA Ag (n:=R) (m:=R) 4 false rfl rfl rfl rfl rfl rfl rfl rfl rfl rfl (Nat.zero_lt_succ _) rfl (Nat.le_refl _) (by show 8*R<=_;omega) (by simp only[maxLen];omega)) ?_;refine wk 1 ?_;refine dx 5 (EO Ag 2) ?_;refine wk 2 ?_;refine AGo.sub (s':=⟨108,Aa (Aa (Aa (Aa A9 1 (.int .i64 (R:Int))) 2 (.ptr 0 1 0 0)) 4 (.ptr 1 1 0 0)) 5 (.ptr 2 1 0 0),FH (WB b .free .free) R (GT R 0) (List.replicate R none) []⟩) (Sub.mk' Cf (L9 rfl rfl rfl (congrArg (fun es=>some (AObj.row true 1 es)) (by simp[Gu,GT,List.map_const'])) (congrArg (fun es=>some (AObj.row false 1 es)) (by simp[ML])) rfl rfl (fun j=>rfl))) ?_
 refine wk 40 ?_;refine AGo.loopI (γ:=Nat) (fun q=>⟨108,Aa (Aa (Aa (Aa (Aa (Aa (Aa A9 1 (.int .i64 (R:Int))) 2 (.ptr 0 1 0 0)) 4 (.ptr 1 1 0 0)) 5 (.ptr 2 1 0 0)) 17 (.ref 3 R 0 R)) 18 (.int .i64 (R:Int))) 19 (.int .i64 (q:Int)),FH (WB b .free .free) R (GT R q) (List.replicate R none) []⟩) (fun q=>q<=R) (fun q=>R-q) 0 (Sub.mk' Cf (HSub.refl _)) (Nat.zero_le _) ?_
 intro q hq
 refine wk 40 ?_;refine asp 20 (fun hb1=>?_) fun hb1=>?_
 .
  have hqR:q<R:=by have:=hb1;simp at this;exact this
  have hqz:(0:Int)<=(q:Int)/\(q:Int)<(GT R q).length:=by rw[LW];omega
  refine wk 40 ?_;refine aq 26 (Ab Ag rfl rfl rfl rfl rfl rfl rfl (by rw[B5,LW]) rfl hqz.1 (by omega)) ?_;refine AOps.w rfl rfl (o_store Ag rfl rfl rfl rfl rfl rfl (by rw[B5,LW]) (K2 hqz) rfl (by decide) rfl (by intro h;rfl)) ?_;refine wk 40 ?_;refine⟨q+1,Sub.mk' (by repeat(first | exact ESub.new _ | refine ESub.put ?_ (by first | rfl | exact congrArg (fun x=>some (AV.int .i64 x)) (Jb hqR (by simp only[maxLen];omega))))) ?_,hqR,by omega⟩
  show HSub _ (hput (FH (WB b .free .free) R (GT R q) (List.replicate R none) []) 3 (.row true 1 ((Gu (GT R q)).set (0+((q:Nat):Int).toNat) [.int .i64 (q:Int)])))
  rw[JB,Wh hqR,Nc]
  exact HSub.refl _
 have hqR:q=R:=by have:=hb1;simp at this;omega
 refine wk 40 ?_;refine ax 31 (AA Ag (n:=b.ins.length) (m:=b.ins.length) 5 true rfl rfl rfl (congrArg (fun(m:Nat)=>(m:Int)) (List.length_map _)) (congrArg (fun(m:Nat)=>(m:Int)) (List.length_map _)) rfl rfl rfl rfl rfl (Nat.zero_lt_succ _) rfl (Nat.le_refl _) (by show 64*b.ins.length<=_;omega) (by simp only[maxLen];omega)) ?_;refine wk 40 ?_
 rw[hqR]
 refine Bb (γ:=Nat×List Int×List (Option Nat)×List (List Int)) k6 (fun g=>⟨108,Aa (Aa (Aa (Aa (Aa (Aa (Aa A9 2 (.ptr 0 1 0 0)) 4 (.ptr 1 1 0 0)) 5 (.ptr 2 1 0 0)) 7 (.ref 5 b.ins.length 0 b.ins.length)) 33 (Ea b.ins)) 34 (.int .i64 (b.ins.length:Int))) 35 (.int .i64 (g.1:Int)),FH (WB b (.row true 8 (Dn R b.ins g.1)) .free) R g.2.1 g.2.2.1 g.2.2.2⟩) (fun g=>uf R b.ins g.1 g.2.1 g.2.2.1 g.2.2.2) (fun g=>b.ins.length-g.1) (0,KU R,List.replicate R none,[]) (Sub.mk' (by repeat(first | exact ESub.new _ | refine ESub.put ?_ (by first | rfl | exact congrArg (fun(m:Nat)=>some (AV.int .i64 (m:Int))) (List.length_map _)))) ?_) ⟨Nat.zero_le _,rfl,lz R⟩ (fun g x hx=>?_) ?_
 . exact L9 rfl rfl rfl (by show some (AObj.row true 1 (Gu (GT R R)))=some (AObj.row true 1 (Gu (KU R)));rw[ZB]) rfl (by show some (AObj.row true 8 (List.replicate b.ins.length ty91.zero))=some (AObj.row true 8 (Dn R b.ins 0));rw[Wn]) rfl (fun _=>rfl)
 . have:x=6:=by unfold k6 at hx;exact Nat.eq_of_beq_eq_true (by simpa using hx)
   subst this;rfl
 rintro⟨i,fr,to,maps⟩ hF
 dsimp only at hF |-
 refine wk 40 ?_;refine asp 36 (fun hb2=>?_) fun hb2=>?_
 .
  have hil:i<b.ins.length:=by have:=hb2;simp at this;exact this
  obtain⟨t,ht⟩:=Ae hil
  have hT:=hins t (List.mem_of_getElem? ht)
  have hI:=hF.inv
  have gg: ∀{z:Int},0<=z/\z<R->(0:Int)<=z/\z<fr.length:=fun h=>by rw[hI.lenF];exact h
  refine wk 40 ?_;refine aq 38 (MH Ag (AM ht)) ?_;refine wk 1 ?_;refine ax 9 (EO Ag 6) ?_;refine wk 9 ?_;refine AGo.sub (s':=⟨108,Aa (Aa (Aa (Aa (Aa (Aa (Aa (Aa (Aa (Aa A9 2 (.ptr 0 1 0 0)) 4 (.ptr 1 1 0 0)) 5 (.ptr 2 1 0 0)) 7 (.ref 5 b.ins.length 0 b.ins.length)) 33 (Ea b.ins)) 34 (.int .i64 (b.ins.length:Int))) 35 (.int .i64 (i:Int))) 8 (.int .i64 (i:Int))) 9 (.ptr 6 1 0 0)) 41 (.int .i64 t.op),FH (WB b (.row true 8 (Dn R b.ins i)) (.row false 8 [t.cells])) R fr to maps⟩) (Sub.mk' Cf (L9 rfl rfl rfl rfl rfl rfl rfl (fun _=>rfl))) ?_;refine AGo.join (γ:=Unit) (fun _=>⟨108,(Aa (Aa (Aa (Aa (Aa (Aa (Aa (Aa (Aa A9 2 (.ptr 0 1 0 0)) 4 (.ptr 1 1 0 0)) 5 (.ptr 2 1 0 0)) 7 (.ref 5 b.ins.length 0 b.ins.length)) 33 (Ea b.ins)) 34 (.int .i64 (b.ins.length:Int))) 35 (.int .i64 (i:Int))) 8 (.int .i64 (i:Int))) 9 (.ptr 6 1 0 0)),FH (WB b (.row true 8 (Dn R b.ins i)) (.row false 8 [(subT fr t).cells])) R fr to maps⟩) (fun _=>True) ?_ ?_
  .
   refine wk 2 ?_;refine AGo.join (γ:=Unit) (fun _=>⟨108,Aa (Aa (Aa (Aa (Aa (Aa (Aa (Aa (Aa (Aa (Aa A9 2 (.ptr 0 1 0 0)) 4 (.ptr 1 1 0 0)) 5 (.ptr 2 1 0 0)) 7 (.ref 5 b.ins.length 0 b.ins.length)) 33 (Ea b.ins)) 34 (.int .i64 (b.ins.length:Int))) 35 (.int .i64 (i:Int))) 8 (.int .i64 (i:Int))) 9 (.ptr 6 1 0 0)) 41 (.int .i64 t.op)) 42 (.bool (use1 t.op)),FH (WB b (.row true 8 (Dn R b.ins i)) (.row false 8 [t.cells])) R fr to maps⟩) (fun _=>True) ?_ ?_
   .
    refine wk 40 ?_;refine asp 42 (fun hc1=>?_) fun hc1=>?_
    . refine wk 40 ?_
      have hu:use1 t.op=true:=by unfold use1;simp at hc1;simp[hc1]
      exact X5
    refine wk 40 ?_;refine asp 42 (fun hc2=>?_) fun hc2=>?_
    . refine wk 40 ?_
      have hu:use1 t.op=true:=by unfold use1;simp at hc2;simp[hc2]
      exact X5
    refine wk 40 ?_;refine asp 42 (fun hc3=>?_) fun hc3=>?_
    . refine wk 40 ?_
      have hu:use1 t.op=true:=by unfold use1;simp at hc3;simp[hc3]
      exact X5
    refine wk 40 ?_
    have hu:use1 t.op=(t.op==9):=by show(t.op==2||(t.op==5||(t.op==6||t.op==9)))=_;rw[show(t.op==2)=false by simpa using hc1,show(t.op==5)=false by simpa using hc2,show(t.op==6)=false by simpa using hc3];rfl
    exact X5
   intro _ _
   refine asp 42 (fun hu=>?_) fun hu=>?_
   .
    have ha:=hT.u1 hu
    have hs:subT fr t={t with a:=rget fr t.a}:=by unfold subT;rw[hu];rfl
    refine wk 40 ?_;refine aq 51 (Ab Ag rfl rfl rfl rfl rfl rfl rfl (by rw[B5,hI.lenF]) rfl ha.1 ha.2) ?_;refine aq 52 (At Ag rfl rfl rfl (.ptr _ _ _ _ _ _ _ _ rfl (by rw[B5,hI.lenF]) (K2 (gg ha))) rfl) ?_;exact iY
   refine wk 1 ?_;refine wk 1 ?_;refine AGo.join (γ:=Unit) (fun _=>⟨108,Aa (Aa (Aa (Aa (Aa (Aa (Aa (Aa (Aa (Aa A9 2 (.ptr 0 1 0 0)) 4 (.ptr 1 1 0 0)) 5 (.ptr 2 1 0 0)) 7 (.ref 5 b.ins.length 0 b.ins.length)) 33 (Ea b.ins)) 34 (.int .i64 (b.ins.length:Int))) 35 (.int .i64 (i:Int))) 8 (.int .i64 (i:Int))) 9 (.ptr 6 1 0 0)) 54 (.bool (use2 t.op)),FH (WB b (.row true 8 (Dn R b.ins i)) (.row false 8 [t.cells])) R fr to maps⟩) (fun _=>True) ?_ ?_
   .
    refine wk 40 ?_;refine asp 54 (fun hc1=>?_) fun hc1=>?_
    . refine wk 40 ?_
      have hu:use2 t.op=true:=by unfold use2;simp at hc1;simp[hc1]
      exact X5
    refine wk 40 ?_
    have hu:use2 t.op=(t.op==7):=by show(t.op==3||t.op==7)=_;rw[show(t.op==3)=false by simpa using hc1];rfl
    exact X5
   intro _ _
   refine asp 54 (fun hu2=>?_) fun hu2=>?_
   .
    obtain⟨ha,hb⟩:=hT.u2 hu2
    have hs:subT fr t={t with a:=rget fr t.a,b:=rget fr t.b}:=by unfold subT;rw[hu,hu2];rfl
    refine wk 40 ?_;refine dq 61 (Ab Ag rfl rfl rfl rfl rfl rfl rfl (by rw[B5,hI.lenF]) rfl ha.1 ha.2) ?_;refine dq 62 (At Ag rfl rfl rfl (.ptr _ _ _ _ _ _ _ _ rfl (by rw[B5,hI.lenF]) (K2 (gg ha))) rfl) ?_;refine wk 40 ?_;refine dq 67 (Ab Ag rfl rfl rfl rfl rfl rfl rfl (by rw[B5,hI.lenF]) rfl hb.1 hb.2) ?_;refine dq 68 (At Ag rfl rfl rfl (.ptr _ _ _ _ _ _ _ _ rfl (by rw[B5,hI.lenF]) (K2 (gg hb))) rfl) ?_;exact iY
   have hs:subT fr t=t:=by unfold subT;rw[hu,hu2];rfl
   refine wk 40 ?_;exact⟨(),Sub.mk' Cf (by rw[hs];exact HSub.refl _),trivial⟩
  intro _ _
  refine wk 40 ?_;refine aq 74 (Ab Ag rfl rfl rfl rfl rfl rfl rfl (JD hF.le).symm rfl (Int.natCast_nonneg _) (by omega)) ?_;refine AOps.w rfl rfl (o_store Ag rfl rfl rfl rfl rfl rfl (JD hF.le).symm (ew ht) rfl (by decide) rfl (by intro h;rfl)) ?_;refine wk 1 ?_
  have hnx:(Dn R b.ins i).set (0+((i:Nat):Int).toNat) (subT fr t).cells=Dn R b.ins (i+1):=by have:=Wo (R:=R) ht;rw[hF.pre]at this;exact this
  refine AGo.sub (s':=⟨108,(Aa (Aa (Aa (Aa (Aa (Aa (Aa (Aa (Aa A9 2 (.ptr 0 1 0 0)) 4 (.ptr 1 1 0 0)) 5 (.ptr 2 1 0 0)) 7 (.ref 5 b.ins.length 0 b.ins.length)) 33 (Ea b.ins)) 34 (.int .i64 (b.ins.length:Int))) 35 (.int .i64 (i:Int))) 8 (.int .i64 (i:Int))) 9 (.ptr 6 1 0 0)),FH (WB b (.row true 8 (Dn R b.ins (i+1))) (.row false 8 [(subT fr t).cells])) R fr to maps⟩) (Sub.mk' Cf (L9 rfl rfl rfl rfl rfl (congrArg (fun es=>some (AObj.row true 8 es)) hnx) rfl (fun _=>rfl))) ?_;refine wk 40 ?_;refine ax 76 (DQ Tryz.func77 (La (subT fr t))) ?_;refine wk 40 ?_
  have hst:=(Rq fr t).2.2
  have hop:=(Rq fr t).1
  refine asp 78 (fun hs1=>?_) fun hs1=>?_
  .
   obtain⟨hsp,hsd'⟩:=gk hs1
   have hsd:(subT fr t).sets=t.d:=by rw[hsd',(Rq fr t).2.1]
   have hd:=hT.d (by rw[<-hop];exact hsp)
   obtain⟨d,hdd⟩: ∃d:Nat,t.d=d:=⟨t.d.toNat,by omega⟩
   have hdR:d<R:=by omega
   have hsn:(subT fr t).sets=(d:Int):=by rw[hsd,hdd]
   refine wk 40 ?_
   rw[hsn]
   refine AOps.inn 80 rfl rfl rfl ?_;refine qA rfl Tryz.func78 (by kernel_rfl) rfl rfl ?_;refine(iq (WB b (.row true 8 (Dn R b.ins (i+1))) (.row false 8 [(subT fr t).cells])) hI hdR).mono ?_
   rintro r h' ⟨rfl,maps',hI',hml,hsub⟩
   refine wk 1 ?_;refine AGo.sub (s':=⟨108,Aa (Aa (Aa (Aa (Aa (Aa (Aa (Aa (Aa (Aa A9 2 (.ptr 0 1 0 0)) 4 (.ptr 1 1 0 0)) 5 (.ptr 2 1 0 0)) 7 (.ref 5 b.ins.length 0 b.ins.length)) 33 (Ea b.ins)) 34 (.int .i64 (b.ins.length:Int))) 35 (.int .i64 (i:Int))) 8 (.int .i64 (i:Int))) 9 (.ptr 6 1 0 0)) 10 (.int .i64 (d:Int)),FH (WB b (.row true 8 (Dn R b.ins (i+1))) (.row false 8 [(subT fr t).cells])) R (Cl (d:Int) fr) (to.set d none) maps'⟩) (Sub.mk' Cf hsub) ?_;refine wk 40 ?_
   have hdf:(d:Int)<fr.length:=by rw[hI.lenF];omega
   refine EP 84 (fun hc=>?_) fun hc=>?_
   .
    have hu1 : use1 t.op = true := by have:t.op=2:=by {rw[<-hop];simpa using hc}
                                      unfold use1;rw[this];rfl
    have ha:=hT.u1 hu1
    have hsa:(subT fr t).a=rget fr t.a:=by unfold subT;rw[hu1];rfl
    obtain⟨a0,ha0⟩: ∃a0:Nat,t.a=a0:=⟨t.a.toNat,by omega⟩
    have ha1:=hI.ran a0 (by omega)
    obtain⟨a,haa⟩: ∃a:Nat,rget fr t.a=a:=⟨(rget fr t.a).toNat,by rw[ha0];omega⟩
    have haR:a<R:=by rw[ha0]at haa;omega
    have hra:rget fr a=a:=by have:=hI.root a0 (by omega);rw[<-ha0,haa]at this;exact this
    have hsa':(subT fr t).a=(a:Int):=by rw[hsa,haa]
    refine wk 40 ?_;refine asp 89 (fun hc2=>?_) fun hc2=>?_
    .
     have hne : a ≠ d := by rw[hsa']at hc2;have:(a:Int)≠d:=by simpa using hc2
                            omega
     have hn:DR fr (subT fr t)=AS (Cl (d:Int) fr) (d:Int) a:=by unfold DR;rw[hs1,hsn,hsa',show((subT fr t).op==2)=true from hc,show((a:Int) !=(d:Int))=true from by simp;omega];rfl
     refine wk 40 ?_
     rw[hsa']
     refine AOps.inn 93 rfl rfl rfl ?_;refine qA rfl Tryz.func79 (by kernel_rfl) rfl rfl ?_;refine(Wi (WB b (.row true 8 (Dn R b.ins (i+1))) (.row false 8 [(subT fr t).cells])) hI' hdR haR hne (by rw[Df (by omega)];simp) (List.getElem?_set_self (by rw[hI.lenT];exact hdR)) (by rw[Df (by rw[hI.lenF];exact haR),hra];cases ((a:Int)==(d:Int)||(a:Int)==(d:Int))<;>rfl)).mono ?_
     rintro r h2 ⟨rfl,to2,maps2,hI2,hsub2⟩
     refine wk 1 ?_;refine AGo.sub (s':=⟨108,(Aa (Aa (Aa (Aa (Aa (Aa (Aa (Aa (Aa A9 2 (.ptr 0 1 0 0)) 4 (.ptr 1 1 0 0)) 5 (.ptr 2 1 0 0)) 7 (.ref 5 b.ins.length 0 b.ins.length)) 33 (Ea b.ins)) 34 (.int .i64 (b.ins.length:Int))) 35 (.int .i64 (i:Int))) 8 (.int .i64 (i:Int))) 9 (.ptr 6 1 0 0)),FH (WB b (.row true 8 (Dn R b.ins (i+1))) (.row false 8 [(subT fr t).cells])) R (AS (Cl (d:Int) fr) (d:Int) a) to2 maps2⟩) (Sub.mk' Cf hsub2) ?_;refine wk 40 ?_;exact⟨(i+1,AS (Cl (d:Int) fr) (d:Int) a,to2,maps2),DropK.mk' jX (SG (o6:=.free) (L4 b) rfl rfl rfl rfl rfl rfl (IY _ _ _) (fun _=>rfl)),⟨hil,by rw[Ll ht,hF.pre,hn],hI2⟩,by show b.ins.length-(i+1)<b.ins.length-i;omega⟩
    have hn:DR fr (subT fr t)=Cl (d:Int) fr:=by unfold DR;rw[hs1,hsn,show((subT fr t).a !=(d:Int))=false from hc2];cases ((subT fr t).op==2)<;>rfl
    exact mH
   have hn:DR fr (subT fr t)=Cl (d:Int) fr:=by unfold DR;rw[hs1,hsn,show((subT fr t).op==2)=false from hc];rfl
   exact mH
  have hn:DR fr (subT fr t)=fr:=by unfold DR;rw[show decide ((subT fr t).sets>=0)=false from hs1];rfl
  refine wk 40 ?_;exact⟨(i+1,fr,to,maps),DropK.mk' jX (SG (o6:=.free) (L4 b) rfl rfl rfl rfl rfl rfl (IY _ _ _) (fun _=>rfl)),⟨hil,by rw[Ll ht,hF.pre,hn],hI⟩,by show b.ins.length-(i+1)<b.ins.length-i;omega⟩
 have hin:i=b.ins.length:=by have:=hb2;simp at this;have:=hF.le;omega
 have hfr:(DC (KU R) b.ins).2=fr:=by have:=hF.pre;rw[hin,List.take_length]at this;exact this
 have hgg: ∀{z:Int},0<=z/\z<R->(0:Int)<=z/\z<fr.length:=fun h=>by rw[hF.inv.lenF];exact h
 refine wk 2 ?_;refine AGo.ghost (Ghost.freeze 7 5 rfl rfl (JD hF.le).symm) ?_
 rw[List.drop_zero,List.take_of_length_le (Nat.le_of_eq (JD hF.le)),hin,ZI]
 refine wk 40 ?_;refine asp 99 (fun hc=>?_) fun hc=>?_
 .
  have hz:=hv (by simpa using hc)
  refine wk 40 ?_;refine aq 104 (Ab Ag rfl rfl rfl rfl rfl rfl rfl (by rw[B5,hF.inv.lenF]) rfl hz.1 hz.2) ?_;refine aq 105 (At Ag rfl rfl rfl (.ptr _ _ _ _ _ _ _ _ rfl (by rw[B5,hF.inv.lenF]) (K2 (hgg hz))) rfl) ?_;refine wk 40 ?_;refine⟨[_],⟨⟨_,_,_,_,rfl,rfl,.ptr _ _ _ _ _ _ _ _ rfl rfl rfl,rfl⟩,trivial⟩,?_,rfl⟩
  unfold Block.forward
  rw[hfr,show(b.fin==2)=true from hc];rfl
 refine wk 40 ?_;refine⟨[_],⟨⟨_,_,_,_,rfl,rfl,.ptr _ _ _ _ _ _ _ _ rfl rfl rfl,rfl⟩,trivial⟩,?_,rfl⟩
 unfold Block.forward
 rw[hfr,show(b.fin==2)=false from hc];rfl
end Go.Proofs.YtbbfelelocccmaaGreat.Sv
namespace Go.Proofs.YtbbfelelocccmaaGreat.Sv
open Go
set_option maxRecDepth 100000
structure tE(f:BFunc):Prop where
  r0:0<=f.regs
  r1:f.regs<=4000
  n:f.blocks.length<=1048576
  i: ∀x∈f.blocks,x.ins.length<=1048576
  t: ∀x∈f.blocks,∀t∈x.ins,fp f.regs.toNat t
  v: ∀x∈f.blocks,x.fin=2->0<=x.v/\x.v<f.regs.toNat
theorem forwardOf_ok(f:BFunc)(hf:tE f):APure Tryz.prog 42 [.agg f.cells] (fun r=>r= .tup [.agg f.forward.cells,.agg f.fcert.cells]):=by
 refine APure.of_body (n:=58) Ag Tryz.func42 rfl rfl ?_;have hn:=hf.n;have hr0:=hf.r0;have hr1:=hf.r1;refine wk 40 ?_;refine ax 1 (GJ 2 0) ?_;refine ax 2 (EO Ag 1) ?_;refine ax 3 (EO Ag 2) ?_;refine wk 40 ?_;refine dx 15 (AA Ag (n:=f.blocks.length) (m:=f.blocks.length) 3 true rfl rfl rfl (by simp) (by simp) rfl rfl rfl rfl rfl (Nat.zero_lt_succ _) rfl (Nat.le_refl _) (by show 56*f.blocks.length<=_;omega) (by simp only[maxLen];omega)) ?_;refine wk 40 ?_;refine dx 4 (EO Ag 4) ?_;refine wk 40 ?_;refine ax 20 (AA Ag (n:=f.blocks.length) (m:=f.blocks.length) 5 true rfl rfl rfl (by simp) (by simp) rfl rfl rfl rfl rfl (Nat.zero_lt_succ _) rfl (Nat.le_refl _) (by show 24*f.blocks.length<=_;omega) (by simp only[maxLen];omega)) ?_;refine wk 40 ?_;refine ax 5 (EO Ag 6) ?_;refine wk 40 ?_;refine Bh (γ:=Nat) 7 (fun k=>⟨58,(Aa (Aa (Aa (Aa (Aa (Aa (Aa (Aa A9 1 (.ptr 0 1 0 0)) 2 (.ptr 1 1 0 0)) 3 (.ptr 2 1 0 0)) 4 (.ptr 4 1 0 0)) 5 (.ptr 6 1 0 0)) 23 (B6 f.blocks)) 24 (.int .i64 (f.blocks.length:Int))) 25 (.int .i64 (k:Int))),(hput (hput (hput (hput (hput (hput (hput (BK 7) 0 (.row false 2 [f.cells])) 1 (.row false 2 [[.int .i64 0,.nil]])) 2 (.row false 1 [[.nil]])) 4 (.row false 2 [[.int .i64 f.regs,.ref 3 f.blocks.length 0 f.blocks.length]])) 6 (.row false 1 [[.ref 5 f.blocks.length 0 f.blocks.length]])) 3 (.row true 5 (((((f.blocks.map (Block.forward f.regs.toNat)).take (k)).map Block.cells)++List.replicate (f.blocks.length-(k)) [.nil,.int .i64 0,.int .i64 0,.int .i64 0,.int .i64 0])))) 5 (.row true 1 (((((List.replicate f.blocks.length (List.replicate f.regs.toNat true)).take (k)).map CW)++List.replicate (f.blocks.length-(k)) [.nil]))))⟩) (fun k=>k<=f.blocks.length) (fun k=>f.blocks.length-k) 0 (Sub.mk' Et Rc) (Nat.zero_le _) (fun _=>(Ah (Ah (Ah (Ah (Ah (Ah (Ah (fun b hb=>A8 hb) rfl) rfl) rfl) rfl) rfl) rfl) rfl)) ?_
 intro k hk;refine wk 40 ?_;refine asp 26 (fun hb1=>?_) fun hb1=>?_
 .
  have hkl:k<f.blocks.length:=by simpa using hb1
  obtain⟨x,hx⟩:=Ae hkl;have hxm:=List.mem_of_getElem? hx;have hxf:(f.blocks.map (Block.forward f.regs.toNat))[k]?=some (x.forward f.regs.toNat):=by simp[hx]
  refine wk 40 ?_;refine aq 28 (MH Ag (AM hx)) ?_;refine wk 1 ?_;refine ax 7 (EO Ag 7) ?_;refine wk 40 ?_;have hfw:=Sh x f.regs.toNat (by omega) (by have:=hf.i x hxm;omega) (hf.t x hxm) (hf.v x hxm);rw[show((f.regs.toNat:Nat):Int)=f.regs by omega]at hfw;refine DOps.x 36 rfl rfl rfl (DQ Tryz.func57 hfw) ?_;refine dq 37 (Ab Ag rfl rfl rfl rfl rfl rfl rfl (AC (by simp:(f.blocks.map (Block.forward f.regs.toNat)).length=f.blocks.length) (Nat.le_of_lt hkl)) rfl (Int.natCast_nonneg _) (by omega)) ?_;refine DOps.w rfl rfl (o_store Ag rfl rfl rfl rfl rfl rfl (AC (by simp:(f.blocks.map (Block.forward f.regs.toNat)).length=f.blocks.length) (Nat.le_of_lt hkl)) (fill_get (by simp:(f.blocks.map (Block.forward f.regs.toNat)).length=f.blocks.length) hkl) rfl (by decide) rfl Dy) ?_;refine wk 40 ?_;refine ax 40 (AA Ag (n:=f.regs.toNat) (m:=f.regs.toNat) 8 true rfl rfl rfl (by omega) (by omega) rfl rfl rfl rfl rfl (Nat.zero_lt_succ _) rfl (Nat.le_refl _) (by show 1*f.regs.toNat<=_;omega) (by simp only[maxLen];omega)) ?_;refine wk 40 ?_;refine Bh (γ:=Nat) 9 (fun j=>⟨58,(Aa (Aa (Aa (Aa (Aa (Aa (Aa (Aa (Aa (Aa (Aa (Aa A9 1 (.ptr 0 1 0 0)) 2 (.ptr 1 1 0 0)) 3 (.ptr 2 1 0 0)) 4 (.ptr 4 1 0 0)) 5 (.ptr 6 1 0 0)) 23 (B6 f.blocks)) 24 (.int .i64 (f.blocks.length:Int))) 25 (.int .i64 (k:Int))) 6 (.int .i64 (k:Int))) 8 (.ref 8 f.regs.toNat 0 f.regs.toNat)) 42 (.int .i64 (f.regs.toNat:Int))) 43 (.int .i64 (j:Int))),hput (hput (hput (hput (hput (hput (hput (hput (BK 9) 0 (.row false 2 [f.cells])) 1 (.row false 2 [[.int .i64 0,.nil]])) 2 (.row false 1 [[.nil]])) 4 (.row false 2 [[.int .i64 f.regs,.ref 3 f.blocks.length 0 f.blocks.length]])) 6 (.row false 1 [[.ref 5 f.blocks.length 0 f.blocks.length]])) 3 (.row true 5 (((((f.blocks.map (Block.forward f.regs.toNat)).take (k+1)).map Block.cells)++List.replicate (f.blocks.length-(k+1)) [.nil,.int .i64 0,.int .i64 0,.int .i64 0,.int .i64 0])))) 5 (.row true 1 (((((List.replicate f.blocks.length (List.replicate f.regs.toNat true)).take (k)).map CW)++List.replicate (f.blocks.length-(k)) [.nil])))) 8 (.row true 1 ((((List.replicate f.regs.toNat true).take (j)).map A5)++List.replicate (f.regs.toNat-(j)) [.bool false]))⟩) (fun j=>j<=f.regs.toNat) (fun j=>f.regs.toNat-j) 0 (Sub.mk' Cf (by repeat(first | exact HSub.none _ | exact AG _ | exact AE (by decide) | refine HSub.put ?_ (by first | rfl | exact congrArg (fun es=>some (AObj.row true 5 es)) (BR (f:=Block.cells) (by simp:(f.blocks.map (Block.forward f.regs.toNat)).length=f.blocks.length) hxf)) | refine AF ?_ (by decide)))) (Nat.zero_le _) (fun _=>(Ah (Ah (Ah (Ah (Ah (Ah (Ah (Ah (fun b hb=>A8 hb) rfl) rfl) rfl) rfl) rfl) rfl) rfl) rfl)) ?_
  intro j hj;refine wk 40 ?_;refine asp 44 (fun hb2=>?_) fun hb2=>?_
  .
   have hjl:j<f.regs.toNat:=by have h:=hb2;simp at h;omega
   refine wk 40 ?_;refine aq 48 (Ab Ag rfl rfl rfl rfl rfl rfl rfl (AC (by simp:(List.replicate f.regs.toNat true).length=f.regs.toNat) (Nat.le_of_lt hjl)) rfl (Int.natCast_nonneg _) (by omega)) ?_;refine AOps.w rfl rfl (o_store Ag rfl rfl rfl rfl rfl rfl (AC (by simp:(List.replicate f.regs.toNat true).length=f.regs.toNat) (Nat.le_of_lt hjl)) (fill_get (by simp:(List.replicate f.regs.toNat true).length=f.regs.toNat) hjl) rfl (by decide) rfl Dy) ?_;refine wk 2 ?_;refine aq 49 (Bj rfl rfl hjl (by simp only[maxLen];omega)) ?_;refine wk 40 ?_;exact mx
  have hge2:f.regs.toNat<=j:=by have h:=hb2;simp at h;omega
  refine wk 2 ?_;refine AGo.ghost (.freeze 8 8 rfl rfl (AC (by simp:(List.replicate f.regs.toNat true).length=f.regs.toNat) hj)) ?_;refine wk 40 ?_;refine aq 54 (Ab Ag rfl rfl rfl rfl rfl rfl rfl (AC (by simp:(List.replicate f.blocks.length (List.replicate f.regs.toNat true)).length=f.blocks.length) (Nat.le_of_lt hkl)) rfl (Int.natCast_nonneg _) (by omega)) ?_;refine AOps.w rfl rfl (o_store Ag rfl rfl rfl rfl rfl rfl (AC (by simp:(List.replicate f.blocks.length (List.replicate f.regs.toNat true)).length=f.blocks.length) (Nat.le_of_lt hkl)) (fill_get (by simp:(List.replicate f.blocks.length (List.replicate f.regs.toNat true)).length=f.blocks.length) hkl) rfl (by decide) rfl Dy) ?_;refine wk 2 ?_;refine aq 55 (Bj rfl rfl hkl (by simp only[maxLen];omega)) ?_;refine wk 40 ?_;have hcr:=CQ (f:=A5) (z:=[.bool false]) (by simp:(List.replicate f.regs.toNat true).length=f.regs.toNat) hge2
  have hrow:=BR (f:=CW) (z:=[.nil]) (x:=List.replicate f.regs.toNat true) (by simp:(List.replicate f.blocks.length (List.replicate f.regs.toNat true)).length=f.blocks.length) (by simp[hkl]:(List.replicate f.blocks.length (List.replicate f.regs.toNat true))[k]?=some (List.replicate f.regs.toNat true));exact⟨k+1,Drop.mk' Ra (by repeat(first | exact HDrop.none _ _ | exact HDrop.tail _ _ | refine HDrop.put ?_ (by first | rfl | exact congrArg (fun es=>some (AObj.row true 1 es)) (by rw[<-hrow];exact congrArg (fun b=>List.set _ _ [AV.lst false b]) hcr)) rfl rfl)),hkl,by omega⟩
 have hge:f.blocks.length<=k:=by simpa using hb1
 refine wk 2 ?_;refine AGo.ghost (.freezeCell 4 0 1 3 rfl rfl rfl rfl (AC (by simp:(f.blocks.map (Block.forward f.regs.toNat)).length=f.blocks.length) hk) (by decide)) ?_;refine AGo.ghost (.freezeCell 6 0 0 5 rfl rfl rfl rfl (AC (by simp:(List.replicate f.blocks.length (List.replicate f.regs.toNat true)).length=f.blocks.length) hk) (by decide)) ?_;refine wk 40 ?_;refine⟨[_,_],⟨⟨_,_,_,_,rfl,rfl,.ptr _ _ _ _ _ _ _ _ rfl rfl rfl,rfl⟩,⟨_,_,_,_,rfl,rfl,.ptr _ _ _ _ _ _ _ _ rfl rfl rfl,rfl⟩,trivial⟩,?_,rfl⟩;have e1:=CQ (f:=Block.cells) (z:=[.nil,.int .i64 0,.int .i64 0,.int .i64 0,.int .i64 0]) (by simp:(f.blocks.map (Block.forward f.regs.toNat)).length=f.blocks.length) hge;exact md
end Go.Proofs.YtbbfelelocccmaaGreat.Sv
namespace Go.Proofs.YtbbfelelocccmaaGreat.Sv
open Go
theorem S9(f:BFunc)(hc:f.count<=1000000000):APure Tryz.prog 35 [.agg f.cells] (fun r=>r= .int .i64 (f.count:Int)):=by
 have hs3:=DW f;refine APure.of_body (n:=25) Ag Tryz.func35 rfl rfl ?_;refine asq ?_;refine I9 0 rfl (fun H ι v=>PT) (fun hfit=>?_);refine XT ?_;refine ax 1 (GJ 2 0) ?_;refine wk 15 ?_;refine Bh (γ:=Nat) 1 (fun j=>⟨25,(Aa (Aa (Aa A9 1 (.ptr 0 1 0 0)) 3 (.int .i64 ((f.blocks.length+Dh (f.blocks.take j):Nat):Int))) 4 (.int .i64 (j:Int))),(hput (BK 1) 0 (.row false 2 [f.cells]))⟩) (fun j=>True) (fun j=>f.blocks.length-j) 0 (Sub.mk' (by repeat(first | exact ESub.new _ | refine ESub.put ?_ (by first | rfl | exact congrArg (fun(n:Nat)=>some (AV.int .i64 (n:Int))) (by show(List.map Block.cells f.blocks).length=f.blocks.length+0;simp)))) Fz) trivial (fun _=>Ah (fun b hb=>A8 hb) rfl) ?_;intro j _;refine wk 9 ?_;refine asp 12 (fun hb1=>?_) fun hb1=>?_
 .
  refine act ?_;have hjl:j<f.blocks.length:=by simpa using hb1
  obtain⟨x,hx⟩:=Ae hjl;have hs4:=Sb hx;have hs5:=Sa (l:=f.blocks) (k:=j+1);refine wk 8 ?_;refine aq 19 (Au Ag rfl rfl rfl rfl rfl rfl (Int.natCast_nonneg _) (AM (by assumption)) rfl) ?_;refine wk 3 ?_;refine aq 23 (AU (r:=.int .i64 (((f.blocks.length+Dh (f.blocks.take j))+x.ins.length:Nat):Int)) rfl rfl rfl (by simp only[AI,Bm,isShift,cond_false,if_true];rw[List.length_map,BD (by omega) (by omega)];rfl)) ?_;refine wk 4 ?_;refine aq 14 (Bj rfl rfl hjl hfit.1) ?_;refine wk 2 ?_;exact⟨j+1,Drop.mk' (by repeat(first | exact EDrop.new _ _ | refine EDrop.put ?_ (by first | rfl | exact congrArg (fun(n:Nat)=>some (AV.int .i64 (n:Int))) (by rw[hs4];omega)) (by first | rfl | exact B9 _ rfl | exact Hc _ rfl))) Re,trivial,by omega⟩
 refine acf ?_;have hje:Dh (f.blocks.take j)=Dh f.blocks:=by rw[List.take_of_length_le (by simpa using hb1)]
 refine wk 6 ?_;refine FZ ⟨[_],⟨rfl,trivial⟩,?_,rfl⟩;show AV.int .i64 _=AV.int .i64 _;congr 1;rw[hje,hs3]
theorem Ti(b:Blocks)(hc:b.count<=1000000000):APure Tryz.prog 27 [.agg b.cells] (fun r=>r= .int .i64 (b.count:Int)):=by
 refine APure.of_body (n:=21) Ag Tryz.func27 rfl rfl ?_;refine asq ?_;refine I9 0 rfl (fun H ι v=>NM) (fun hfit=>?_);refine XT ?_;refine ax 1 (GJ 2 0) ?_;refine wk 12 ?_;refine Bh (γ:=Nat) 1 (fun k=>⟨21,(Aa (Aa (Aa A9 1 (.ptr 0 1 0 0)) 3 (.int .i64 ((((b.funcs.take k).map BFunc.count).sum:Nat):Int))) 4 (.int .i64 (k:Int))),(hput (BK 1) 0 (.row false 2 [b.cells]))⟩) (fun k=>True) (fun k=>b.funcs.length-k) 0 (Sub.mk' Et Fz) trivial (fun _=>Ah (fun b hb=>A8 hb) rfl) ?_;intro k _;refine wk 9 ?_;refine asp 9 (fun hb1=>?_) fun hb1=>?_
 .
  refine act ?_;have hkl:k<b.funcs.length:=by simpa using hb1
  obtain⟨f,hf⟩:=Ae hkl;have hs1:=sum_succ (p:=BFunc.count) hf;have hs2:_<=b.count:=Mf (l:=b.funcs) (p:=BFunc.count) (k:=k+1);have hs3:=DW f;refine wk 8 ?_;refine aq 16 (Au Ag rfl rfl rfl rfl rfl rfl (Int.natCast_nonneg _) (AM (by assumption)) rfl) ?_;refine wk 1 ?_;refine ax 18 (DQ Tryz.func35 (S9 f (by omega))) ?_;refine aq 19 (AU (r:=.int .i64 ((((b.funcs.take k).map BFunc.count).sum+f.count:Nat):Int)) rfl rfl rfl (by simp only[AI,Bm,isShift,cond_false,if_true];rw[BD (by omega) (by omega)];rfl)) ?_;refine wk 4 ?_;refine aq 11 (Bj rfl rfl hkl hfit.1) ?_;refine wk 2 ?_;exact⟨k+1,Drop.mk' (by repeat(first | exact EDrop.new _ _ | refine EDrop.put ?_ (by first | rfl | exact congrArg (fun(n:Nat)=>some (AV.int .i64 (n:Int))) (by rw[hs1])) (by first | rfl | exact B9 _ rfl | exact Hc _ rfl))) Re,trivial,by omega⟩
 refine acf ?_;have hke:((b.funcs.take k).map BFunc.count).sum=b.count:=ge (by simpa using hb1);refine wk 6 ?_;refine FZ ⟨[_],⟨rfl,trivial⟩,?_,rfl⟩;show AV.int .i64 _=AV.int .i64 _;congr 1;rw[hke]
theorem gj(t:Tac):APure Tryz.prog 74 [.agg t.cells] (fun r=>r= .int .i64 t.sets):=by
 refine APure.of_body (n:=14) Ag Tryz.func74 rfl rfl ?_;refine MJ ?_;refine ax 1 (GJ 8 0) ?_;refine wk 15 ?_;refine asp 5 (fun hb1=>?_) fun hb1=>?_
 .
  refine wk 9 ?_;exact U7
 refine wk 6 ?_;refine asp 5 (fun hb2=>?_) fun hb2=>?_
 .
  refine wk 9 ?_;exact U7
 refine wk 6 ?_;refine asp 5 (fun hb3=>?_) fun hb3=>?_
 .
  refine wk 9 ?_;exact U7
 refine wk 6 ?_;refine asp 5 (fun hb4=>?_) fun hb4=>?_
 .
  refine wk 9 ?_;exact U7
 refine wk 6 ?_;refine asp 5 (fun hb5=>?_) fun hb5=>?_
 .
  refine wk 9 ?_;exact U7
 refine wk 5 ?_;refine asp 5 (fun hb6=>?_) fun hb6=>?_
 .
  refine wk 7 ?_;exact U7
 refine wk 6 ?_;exact U7
theorem f8(t:Tac):APure Tryz.prog 75 [.agg t.cells] (fun r=>r=A0 t.uses):=by
 refine APure.of_body (n:=21) Ag Tryz.func75 rfl rfl ?_;refine MJ ?_;refine ax 1 (GJ 8 0) ?_;refine wk 15 ?_;refine asp 5 (fun hb1=>?_) fun hb1=>?_
 .
  refine wk 7 ?_;exact fL
 refine wk 6 ?_;refine asp 5 (fun hb2=>?_) fun hb2=>?_
 .
  refine wk 7 ?_;exact fL
 refine wk 6 ?_;refine asp 5 (fun hb3=>?_) fun hb3=>?_
 .
  refine wk 7 ?_;exact fL
 refine wk 5 ?_;refine asp 5 (fun hb4=>?_) fun hb4=>?_
 .
  refine wk 5 ?_;exact fL
 refine wk 7 ?_;refine asp 13 (fun hb5=>?_) fun hb5=>?_
 .
  refine wk 9 ?_;refine ax 20 (Cn Ag rfl rfl rfl rfl rfl rfl (by decide) rfl rfl rfl rfl rfl rfl) ?_;refine wk 2 ?_;exact fN
 refine wk 5 ?_;refine asp 13 (fun hb6=>?_) fun hb6=>?_
 .
  refine wk 7 ?_;refine ax 20 (Cn Ag rfl rfl rfl rfl rfl rfl (by decide) rfl rfl rfl rfl rfl rfl) ?_;refine wk 2 ?_;exact fN
 refine wk 6 ?_;refine AGo.ghost (.empty 2 rfl) ?_;exact fN
theorem B8(i j:Int):APure Tryz.prog 73 [.int .i64 i,.int .i64 j] (fun r=>r= .bool (AT i j)):=by
 refine APure.of_body (n:=12) Ag Tryz.func73 rfl rfl ?_;refine wk 9 ?_;refine EP 7 (fun hb1=>?_) fun hb1=>?_
 .
  refine wk 6 ?_;refine FZ ⟨[_],⟨rfl,trivial⟩,?_,rfl⟩;refine bc ?_;simp_all[AT]<;>omega
 refine wk 6 ?_;refine FZ ⟨[_],⟨rfl,trivial⟩,?_,rfl⟩;refine bc ?_;simp_all[AT]<;>omega
theorem iz(b:Block)(blocks regs:Int):APure Tryz.prog 54 [.agg b.cells,.int .i64 blocks,.int .i64 regs] (fun r=>r= .bool (b.ends blocks regs)):=by
 refine APure.of_body (n:=61) Ag Tryz.func54 rfl rfl ?_;refine MJ ?_;refine ax 3 (GJ 5 0) ?_;refine wk 14 ?_;refine asp 9 (fun hb1=>?_) fun hb1=>?_
 .
  refine wk 6 ?_;refine ax 14 (DQ Tryz.func73 (B8 _ _)) ?_;refine wk 1 ?_;refine EP 15 (fun hb2=>?_) fun hb2=>?_
  .
   refine wk 5 ?_;refine EP 20 (fun hb3=>?_) fun hb3=>?_
   .
    refine wk 6 ?_;exact Pr
   refine wk 6 ?_;exact Pr
  refine wk 11 ?_;exact Pr
 refine wk 6 ?_;refine asp 25 (fun hb4=>?_) fun hb4=>?_
 .
  refine wk 6 ?_;refine ax 30 (DQ Tryz.func73 (B8 _ _)) ?_;refine wk 1 ?_;refine EP 31 (fun hb5=>?_) fun hb5=>?_
  .
   refine wk 3 ?_;refine ax 35 (DQ Tryz.func73 (B8 _ _)) ?_;refine wk 2 ?_;refine EP 37 (fun hb6=>?_) fun hb6=>?_
   .
    refine wk 3 ?_;refine ax 41 (DQ Tryz.func73 (B8 _ _)) ?_;refine wk 3 ?_;exact Pr
   refine wk 7 ?_;exact Pr
  refine wk 13 ?_;exact Pr
 refine wk 8 ?_;refine EP 46 (fun hb7=>?_) fun hb7=>?_
 .
  refine wk 5 ?_;refine EP 51 (fun hb8=>?_) fun hb8=>?_
  .
   refine wk 5 ?_;refine EP 56 (fun hb9=>?_) fun hb9=>?_
   .
    refine wk 6 ?_;exact Pr
   refine wk 6 ?_;exact Pr
  refine wk 11 ?_;exact Pr
 refine wk 16 ?_;exact Pr
theorem iu(t:Tac)(f regs words:Int)(hw:0<=words)(hw2:words<=1048576):APure Tryz.prog 55 [.agg t.cells,.int .i64 f,.int .i64 regs,.int .i64 words] (fun r=>r= .bool (t.fits f regs words)):=by
 refine APure.of_body (n:=166) Ag Tryz.func55 rfl rfl ?_;refine MJ ?_;refine ax 4 (GJ 8 0) ?_;refine wk 9 ?_;refine EP 15 (fun hb1=>?_) fun hb1=>?_
 .
  refine wk 10 ?_;refine FZ ⟨[_],⟨rfl,trivial⟩,?_,rfl⟩;refine bc ?_;exact(fits_op (by simp_all<;>omega)).symm
 refine wk 5 ?_;refine asp 19 (fun hb2=>?_) fun hb2=>?_
 .
  refine wk 5 ?_;refine FZ ⟨[_],⟨rfl,trivial⟩,?_,rfl⟩;refine bc ?_;exact(fits_op (by simp_all<;>omega)).symm
 refine wk 7 ?_;refine ax 9 (EO Ag 1) ?_;refine wk 3 ?_;refine AGo.join (γ:=Int) (fun d=>⟨166,(Aa (Aa (Aa (Aa (Aa A9 1 (.int .i64 f)) 2 (.int .i64 regs)) 3 (.int .i64 words)) 4 (.ptr 0 1 0 0)) 9 (.ptr 1 1 0 0)),(hput (hput (BK 2) 0 (.row false 8 [t.cells])) 1 (.row false 8 [[.int .i64 t.op,.int .i64 d,.int .i64 0,.int .i64 0,.int .i64 0,.int .i64 0,.int .i64 0,.int .u32 0]]))⟩) (fun d=>(!setsOp t.op||AT t.d regs)=true/\d=bif setsOp t.op then t.d else 0) ?_ ?_
 .
  refine wk 3 ?_;refine ax 24 (DQ Tryz.func74 (gj _)) ?_;refine wk 2 ?_;refine EP 26 (fun hb3=>?_) fun hb3=>?_
  .
   refine wk 43 ?_;refine ax 62 (DQ Tryz.func73 (B8 _ _)) ?_;refine wk 2 ?_;refine asp 63 (fun hb4=>?_) fun hb4=>?_
   .
    exact U9
   exact jJ
  refine wk 5 ?_;refine EP 31 (fun hb5=>?_) fun hb5=>?_
  .
   refine wk 38 ?_;refine ax 62 (DQ Tryz.func73 (B8 _ _)) ?_;refine wk 2 ?_;refine asp 63 (fun hb6=>?_) fun hb6=>?_
   .
    exact U9
   exact jJ
  refine wk 5 ?_;refine EP 36 (fun hb7=>?_) fun hb7=>?_
  .
   refine wk 33 ?_;refine ax 62 (DQ Tryz.func73 (B8 _ _)) ?_;refine wk 2 ?_;refine asp 63 (fun hb8=>?_) fun hb8=>?_
   .
    exact U9
   exact jJ
  refine wk 5 ?_;refine EP 41 (fun hb9=>?_) fun hb9=>?_
  .
   refine wk 28 ?_;refine ax 62 (DQ Tryz.func73 (B8 _ _)) ?_;refine wk 2 ?_;refine asp 63 (fun hb10=>?_) fun hb10=>?_
   .
    exact U9
   exact jJ
  refine wk 5 ?_;refine EP 46 (fun hb11=>?_) fun hb11=>?_
  .
   refine wk 23 ?_;refine ax 62 (DQ Tryz.func73 (B8 _ _)) ?_;refine wk 2 ?_;refine asp 63 (fun hb12=>?_) fun hb12=>?_
   .
    exact U9
   exact jJ
  refine wk 5 ?_;refine EP 51 (fun hb13=>?_) fun hb13=>?_
  .
   refine wk 18 ?_;refine ax 62 (DQ Tryz.func73 (B8 _ _)) ?_;refine wk 2 ?_;refine asp 63 (fun hb14=>?_) fun hb14=>?_
   .
    exact U9
   exact jJ
  refine wk 5 ?_;refine asp 55 (fun hb15=>?_) fun hb15=>?_
  .
   refine wk 13 ?_;refine ax 62 (DQ Tryz.func73 (B8 _ _)) ?_;refine wk 2 ?_;refine asp 63 (fun hb16=>?_) fun hb16=>?_
   .
    exact U9
   exact jJ
  refine wk 2 ?_;exact⟨0,Sub.mk' Cf Fz,⟨by simp[setsOp, *],by simp[setsOp, *]⟩⟩
 intro d ⟨hd,hdd⟩;refine wk 3 ?_;refine ax 65 (DQ Tryz.func75 (f8 _)) ?_;refine wk 8 ?_;refine Bh (γ:=Nat) 2 (fun j=>⟨166,(Aa (Aa (Aa (Aa (Aa (Aa (Aa A9 1 (.int .i64 f)) 2 (.int .i64 regs)) 3 (.int .i64 words)) 4 (.ptr 0 1 0 0)) 9 (.ptr 1 1 0 0)) 10 (A0 t.uses)) 11 (.int .i64 (j:Int))),(hput (hput (BK 2) 0 (.row false 8 [t.cells])) 1 (.row false 8 [[.int .i64 t.op,.int .i64 d,.int .i64 0,.int .i64 0,.int .i64 0,.int .i64 0,.int .i64 0,.int .u32 0]]))⟩) (fun j=>(t.uses.take j).all (fun r=>AT r regs)=true) (fun j=>t.uses.length-j) 0 (Sub.mk' Cf Fz) rfl (fun _=>Ah (Ah (fun b hb=>A8 hb) rfl) rfl) ?_;intro j hj;refine wk 8 ?_;refine asp 69 (fun hb17=>?_) fun hb17=>?_
 .
  refine act ?_;have hjl:j<t.uses.length:=F1 hb17;obtain⟨u,hu⟩:=Ae hjl;refine wk 7 ?_;refine aq 74 (Au Ag rfl rfl rfl rfl rfl rfl (Int.natCast_nonneg _) (AM (by assumption)) rfl) ?_;refine wk 2 ?_;refine ax 77 (DQ Tryz.func73 (B8 _ _)) ?_;refine wk 2 ?_;refine asp 78 (fun hb18=>?_) fun hb18=>?_
  .
   refine act ?_;have hbw:=hb18;refine wk 4 ?_;refine FZ ⟨[_],⟨rfl,trivial⟩,?_,rfl⟩;refine bc ?_;exact(dW (Lb hu (by simpa using hbw))).symm
  refine acf ?_;have hbw:=hb18;refine wk 3 ?_;refine aq 71 (Bj rfl rfl hjl (Nat.le_trans (Kp t) (by decide))) ?_;exact mz
 refine acf ?_;have hall:=all_end hj (F7 hb17);refine wk 2 ?_;refine AGo.join (γ:=Int) (fun a=>⟨166,(Aa (Aa (Aa (Aa (Aa (Aa A9 1 (.int .i64 f)) 2 (.int .i64 regs)) 3 (.int .i64 words)) 4 (.ptr 0 1 0 0)) 9 (.ptr 1 1 0 0)) 10 (A0 t.uses)),(hput (hput (BK 2) 0 (.row false 8 [t.cells])) 1 (.row false 8 [[.int .i64 t.op,.int .i64 d,.int .i64 a,.int .i64 0,.int .i64 0,.int .i64 0,.int .i64 0,.int .u32 0]]))⟩) (fun a=>a=bif use1 t.op||use2 t.op then t.a else 0) ?_ ?_
 .
  refine wk 6 ?_;refine asp 81 (fun hb19=>?_) fun hb19=>?_
  .
   refine wk 7 ?_;exact⟨t.a,Sub.mk' Cf Fz,by have h3:=Nl t.op;cases h1:use1 t.op<;>cases h2:use2 t.op<;>simp_all[Tac.uses]⟩
  exact mE
 intro a haa;refine asq ?_;refine AGo.join (γ:=Int) (fun b=>⟨166,(Aa (Aa (Aa (Aa (Aa A9 1 (.int .i64 f)) 2 (.int .i64 regs)) 3 (.int .i64 words)) 4 (.ptr 0 1 0 0)) 9 (.ptr 1 1 0 0)),(hput (hput (BK 2) 0 (.row false 8 [t.cells])) 1 (.row false 8 [[.int .i64 t.op,.int .i64 d,.int .i64 a,.int .i64 b,.int .i64 0,.int .i64 0,.int .i64 0,.int .u32 0]]))⟩) (fun b=>b=bif use2 t.op then t.b else 0) ?_ ?_
 .
  refine wk 6 ?_;refine asp 87 (fun hb20=>?_) fun hb20=>?_
  .
   refine wk 7 ?_;exact⟨t.b,Sub.mk' Cf Fz,by have h3:=Nl t.op;cases h1:use1 t.op<;>cases h2:use2 t.op<;>simp_all[Tac.uses]⟩
  exact mE
 intro b hbb;refine wk 12 ?_;refine asp 93 (fun hb21=>?_) fun hb21=>?_
 .
  refine wk 11 ?_;exact iW
 refine wk 6 ?_;refine asp 98 (fun hb22=>?_) fun hb22=>?_
 .
  refine wk 14 ?_;refine EP 106 (fun hb23=>?_) fun hb23=>?_
  .
   refine wk 10 ?_;exact aB
  refine wk 5 ?_;refine asp 110 (fun hb24=>?_) fun hb24=>?_
  .
   refine wk 5 ?_;exact aB
  refine wk 6 ?_;exact iW
 refine wk 7 ?_;refine asp 111 (fun hb25=>?_) fun hb25=>?_
 .
  refine wk 15 ?_;refine ax 120 (DQ Tryz.func73 (B8 _ _)) ?_;refine wk 2 ?_;refine asp 121 (fun hb26=>?_) fun hb26=>?_
  .
   refine wk 5 ?_;exact aB
  refine wk 6 ?_;exact iW
 refine wk 5 ?_;refine asp 111 (fun hb27=>?_) fun hb27=>?_
 .
  refine wk 13 ?_;refine ax 120 (DQ Tryz.func73 (B8 _ _)) ?_;refine wk 2 ?_;refine asp 121 (fun hb28=>?_) fun hb28=>?_
  .
   refine wk 5 ?_;exact aB
  refine wk 6 ?_;exact iW
 refine wk 7 ?_;refine asp 122 (fun hb29=>?_) fun hb29=>?_
 .
  refine wk 20 ?_;refine EP 134 (fun hb30=>?_) fun hb30=>?_
  .
   refine wk 24 ?_;exact SP
  refine wk 5 ?_;refine EP 139 (fun hb31=>?_) fun hb31=>?_
  .
   refine wk 19 ?_;exact SP
  refine wk 5 ?_;refine EP 144 (fun hb32=>?_) fun hb32=>?_
  .
   refine wk 14 ?_;exact SP
  refine wk 9 ?_;refine asp 152 (fun hb33=>?_) fun hb33=>?_
  .
   refine wk 5 ?_;exact SP
  refine wk 6 ?_;exact iW
 refine wk 5 ?_;refine asp 122 (fun hb34=>?_) fun hb34=>?_
 .
  refine wk 18 ?_;refine EP 134 (fun hb35=>?_) fun hb35=>?_
  .
   refine wk 24 ?_;exact SP
  refine wk 5 ?_;refine EP 139 (fun hb36=>?_) fun hb36=>?_
  .
   refine wk 19 ?_;exact SP
  refine wk 5 ?_;refine EP 144 (fun hb37=>?_) fun hb37=>?_
  .
   refine wk 14 ?_;exact SP
  refine wk 9 ?_;refine asp 152 (fun hb38=>?_) fun hb38=>?_
  .
   refine wk 5 ?_;exact SP
  refine wk 6 ?_;exact iW
 refine wk 6 ?_;refine asp 153 (fun hb39=>?_) fun hb39=>?_
 .
  refine wk 13 ?_;refine ax 161 (DQ Tryz.func73 (B8 _ _)) ?_;refine wk 2 ?_;refine asp 162 (fun hb40=>?_) fun hb40=>?_
  .
   refine wk 5 ?_;exact aB
  refine wk 6 ?_;exact iW
 refine wk 6 ?_;exact iW
theorem li(f:BFunc)(number words:Int)(hw:0<=words)(hw2:words<=1048576):APure Tryz.prog 40 [.agg f.cells,.int .i64 number,.int .i64 words] (fun r=>r= .bool (f.one number words)):=by
 refine APure.of_body (n:=68) Ag Tryz.func40 rfl rfl ?_;refine asq ?_;refine I9 0 rfl (fun H ι v=>PT) (fun hfit=>?_);refine XT ?_;refine ax 3 (GJ 2 0) ?_;refine wk 9 ?_;refine EP 12 (fun hb1=>?_) fun hb1=>?_
 .
  refine wk 16 ?_;exact jC
 refine wk 5 ?_;refine EP 17 (fun hb2=>?_) fun hb2=>?_
 .
  refine wk 11 ?_;exact jC
 refine wk 6 ?_;refine asp 22 (fun hb3=>?_) fun hb3=>?_
 .
  refine wk 5 ?_;exact jC
 refine acf ?_;have h0:0<=f.regs/\f.regs<=4000/\f.blocks.length≠0:=by simp_all<;>omega
 refine wk 7 ?_;refine Bh (γ:=Nat) 1 (fun k=>⟨68,(Aa (Aa (Aa (Aa A9 1 (.int .i64 number)) 2 (.int .i64 words)) 3 (.ptr 0 1 0 0)) 7 (.int .i64 (k:Int))),(hput (BK 1) 0 (.row false 2 [f.cells]))⟩) (fun k=>(f.blocks.take k).all (fun x=>x.ok f.blocks.length f.regs number words)=true) (fun k=>f.blocks.length-k) 0 (Sub.mk' Cf Fz) rfl (fun _=>Ah (fun b hb=>A8 hb) rfl) ?_;intro k hk;refine wk 9 ?_;refine asp 27 (fun hb4=>?_) fun hb4=>?_
 .
  refine act ?_;have hkl:k<f.blocks.length:=F1 hb4;obtain⟨x,hx⟩:=Ae hkl;refine wk 9 ?_;refine dq 33 (Au Ag rfl rfl rfl rfl rfl rfl (Int.natCast_nonneg _) (AM (by assumption)) rfl) ?_;refine wk 6 ?_;refine dx 40 (DQ Tryz.func54 (iz x _ _)) ?_;refine dq 41 (Tq rfl rfl) ?_;refine wk 1 ?_;refine asp 41 (fun hb5=>?_) fun hb5=>?_
  .
   refine act ?_;have hends:x.ends f.blocks.length f.regs=false:=by simpa using hb5
   refine wk 4 ?_;refine FZ ⟨[_],⟨rfl,trivial⟩,?_,rfl⟩;refine bc ?_;rw[KG h0.1 h0.2.1 h0.2.2,Lb hx (by simp[Block.ok,hends])]
  refine acf ?_;have hends:x.ends f.blocks.length f.regs=true:=by simpa using hb5
  refine wk 6 ?_;refine Bh (γ:=Nat) 1 (fun j=>⟨68,(Aa (Aa (Aa (Aa (Aa A9 1 (.int .i64 number)) 2 (.int .i64 words)) 3 (.ptr 0 1 0 0)) 7 (.int .i64 (k:Int))) 8 (.int .i64 (j:Int))),(hput (BK 1) 0 (.row false 2 [f.cells]))⟩) (fun j=>(x.ins.take j).all (fun t=>t.fits number f.regs words)=true) (fun j=>x.ins.length-j) 0 (Sub.mk' Cf Fz) rfl (fun _=>Ah (fun b hb=>A8 hb) rfl) ?_;intro j hj;refine wk 7 ?_;refine aq 46 (Au Ag rfl rfl rfl rfl rfl rfl (Int.natCast_nonneg _) (AM (by assumption)) rfl) ?_;refine wk 5 ?_;refine asp 50 (fun hb6=>?_) fun hb6=>?_
  .
   refine act ?_;have hjl:j<x.ins.length:=F1 hb6;obtain⟨u,hu⟩:=Ae hjl;refine wk 8 ?_;refine dq 56 (Au Ag rfl rfl rfl rfl rfl rfl (Int.natCast_nonneg _) (AM (by assumption)) rfl) ?_;refine wk 3 ?_;refine dq 60 (Au Ag rfl rfl rfl rfl rfl rfl (Int.natCast_nonneg _) (AM (by assumption)) rfl) ?_;refine wk 5 ?_;refine dx 66 (DQ Tryz.func55 (iu u _ _ _ hw hw2)) ?_;refine dq 67 (Tq rfl rfl) ?_;refine wk 1 ?_;refine asp 67 (fun hb7=>?_) fun hb7=>?_
   .
    refine act ?_;have hbw:=hb7;refine wk 4 ?_;refine FZ ⟨[_],⟨rfl,trivial⟩,?_,rfl⟩;refine bc ?_;rw[KG h0.1 h0.2.1 h0.2.2,Lb hx (by simp only[Block.ok,Lb (p:=fun t=>Tac.fits t number f.regs words) hu (by simpa using hbw),Bool.and_false])]
   refine acf ?_;have hbw:=hb7;refine wk 3 ?_;refine aq 52 (Bj rfl rfl hjl (hfit.2 x (List.mem_of_getElem? hx))) ?_;exact mz
  refine acf ?_;have hins:=all_end hj (F7 hb6);refine wk 3 ?_;refine aq 29 (Bj rfl rfl hkl hfit.1) ?_;refine wk 2 ?_;exact⟨k+1,Drop.mk' SR Re,Pc hx hk (by simp[Block.ok,hends,hins]),by omega⟩
 refine acf ?_;have hall:=all_end hk (F7 hb4);refine wk 5 ?_;refine FZ ⟨[_],⟨rfl,trivial⟩,?_,rfl⟩;refine bc ?_;rw[KG h0.1 h0.2.1 h0.2.2,hall]
theorem bz(b:Blocks):APure Tryz.prog 29 [.agg b.cells] (fun r=>r= .bool b.right):=by
 refine APure.of_body (n:=35) Ag Tryz.func29 rfl rfl ?_;refine asq ?_;refine I9 0 rfl (fun H ι v=>NM) (fun hfit=>?_);refine XT ?_;refine ax 1 (GJ 2 0) ?_;refine wk 9 ?_;refine EP 7 (fun hb1=>?_) fun hb1=>?_
 .
  refine wk 16 ?_;exact jD
 refine wk 5 ?_;refine EP 12 (fun hb2=>?_) fun hb2=>?_
 .
  refine wk 11 ?_;exact jD
 refine wk 6 ?_;refine asp 17 (fun hb3=>?_) fun hb3=>?_
 .
  refine wk 5 ?_;exact jD
 refine acf ?_;have h0:0<=b.words/\b.words<=1048576/\b.funcs.length≠0:=by simp_all<;>omega
 refine wk 7 ?_;refine Bh (γ:=Nat) 1 (fun k=>⟨35,(Aa (Aa A9 1 (.ptr 0 1 0 0)) 3 (.int .i64 (k:Int))),(hput (BK 1) 0 (.row false 2 [b.cells]))⟩) (fun k=>(b.funcs.zipIdx.take k).all (fun p=>p.1.one (p.2:Int) b.words)=true) (fun k=>b.funcs.length-k) 0 (Sub.mk' Cf Fz) rfl (fun _=>Ah (fun b hb=>A8 hb) rfl) ?_;intro k hk;refine wk 9 ?_;refine asp 22 (fun hb4=>?_) fun hb4=>?_
 .
  refine act ?_;have hkl:k<b.funcs.length:=F1 hb4;obtain⟨x,hx⟩:=Ae hkl;refine wk 8 ?_;refine dq 28 (Au Ag rfl rfl rfl rfl rfl rfl (Int.natCast_nonneg _) (AM (by assumption)) rfl) ?_;refine wk 4 ?_;refine dx 33 (DQ Tryz.func40 (li x _ _ h0.1 h0.2.1)) ?_;refine dq 34 (Tq rfl rfl) ?_;refine wk 1 ?_;refine asp 34 (fun hb5=>?_) fun hb5=>?_
  .
   refine act ?_;have hone:=hb5;refine wk 4 ?_;refine FZ ⟨[_],⟨rfl,trivial⟩,?_,rfl⟩;refine bc ?_;rw[Lr h0.1 h0.2.1 h0.2.2,Lb (Gc hx) (by simpa using hone)]
  refine acf ?_;have hone:=hb5;refine wk 3 ?_;refine aq 24 (Bj rfl rfl hkl hfit.1) ?_;refine wk 2 ?_;exact⟨k+1,Drop.mk' SR Re,Pc (Gc hx) hk (by simpa using hone),by omega⟩
 refine acf ?_;have hall:=all_end hk (by rw[List.length_zipIdx];exact F7 hb4);refine wk 5 ?_;refine FZ ⟨[_],⟨rfl,trivial⟩,?_,rfl⟩;refine bc ?_;rw[Lr h0.1 h0.2.1 h0.2.2,hall]
theorem Vp(b:Blocks)(hL:b.Lim):APure Tryz.prog 13 [.agg b.cells] (fun r=>r= .bool (GO b)):=by
 have hn:=hL.n;refine APure.of_body (n:=37) Ag Tryz.func13 rfl rfl ?_;refine MJ ?_;refine ax 1 (GJ 2 0) ?_;refine wk 10 ?_;refine EP 8 (fun hb1=>?_) fun hb1=>?_
 .
  refine wk 20 ?_;exact fJ
 refine wk 5 ?_;refine EP 13 (fun hb2=>?_) fun hb2=>?_
 .
  refine wk 15 ?_;exact fJ
 refine wk 1 ?_;refine ax 15 (DQ Tryz.func29 (bz b)) ?_;refine wk 3 ?_;refine EP 18 (fun hb3=>?_) fun hb3=>?_
 .
  refine wk 10 ?_;exact fJ
 refine wk 1 ?_;refine ax 20 (DQ Tryz.func27 (Ti b (by have:=hL.c;omega))) ?_;refine wk 3 ?_;refine asp 22 (fun hb4=>?_) fun hb4=>?_
 .
  refine wk 5 ?_;exact fJ
 refine acf ?_;have hg1:b.funcs.length<=6:=by have h:=hb1;simp at h;omega
 have hg2:b.words<=400:=by have h:=hb2;simp at h;omega
 have hg3:b.right=true:=by have h:=hb3;simpa using h
 have hg4:b.count<=200:=by have h:=hb4;simp at h;omega
 refine wk 7 ?_;refine Bh (γ:=Nat) 1 (fun k=>⟨37,(Aa (Aa A9 1 (.ptr 0 1 0 0)) 3 (.int .i64 (k:Int))),(hput (BK 1) 0 (.row false 2 [b.cells]))⟩) (fun k=>k<=b.funcs.length/\(b.funcs.take k).all On=true) (fun k=>b.funcs.length-k) 0 (Sub.mk' Et Fz) ⟨Nat.zero_le _,rfl⟩ (fun _=>Ah (fun b hb=>A8 hb) rfl) ?_;intro k hF;refine wk 9 ?_;refine asp 27 (fun hb5=>?_) fun hb5=>?_
 .
  refine act ?_;have hkl:=F1 hb5;obtain⟨f,hf⟩:=Ae hkl;refine wk 8 ?_;refine aq 33 (MH Ag (AM hf)) ?_;refine wk 4 ?_;refine asp 36 (fun hb6=>?_) fun hb6=>?_
  .
   refine act ?_;have hno: ¬f.regs<=30:=by have h:=hb6;simp at h;omega
   have hnall:=lq (List.mem_of_getElem? hf) hno;refine wk 4 ?_;refine FZ ⟨[_],⟨rfl,trivial⟩,?_,rfl⟩;refine bc ?_;simp[GO,hnall]
  refine acf ?_;have hyes:f.regs<=30:=by have h:=hb6;simp at h;omega
  refine wk 3 ?_;refine aq 29 (Bj rfl rfl hkl (by simp only[maxLen];omega)) ?_;refine wk 2 ?_;exact⟨k+1,Drop.mk' SR Re,⟨hkl,dg hf hF.2 hyes⟩,by omega⟩
 refine acf ?_;have hge:=F7 hb5;have hall:b.funcs.all On=true:=by have h:=hF.2;rwa[List.take_of_length_le hge]at h
 refine wk 5 ?_;refine FZ ⟨[_],⟨rfl,trivial⟩,?_,rfl⟩;refine bc ?_;simp[GO,hg1,hg2,hg3,hg4,hall]
theorem XK(k:Int):APure Tryz.prog 31 [.int .i64 k] (fun r=>r= .tup [.val (Xo k),.bool (kind35 k)]):=by
 refine APure.of_body (n:=28) Ag Tryz.func31 rfl rfl ?_;refine wk 9 ?_;refine ax 4 (EO Ag 0) ?_;refine wk 13 ?_;refine asp 8 (fun hb1=>?_) fun hb1=>?_
 .
  refine act ?_;have hk1:k=1:=by simpa using hb1
  subst hk1;refine wk 4 ?_;refine aq 12 (Ky Ag rfl rfl rfl rfl (by intro h;cases h)) ?_;exact WJ
 refine acf ?_;have hn1:k≠1:=by simpa using hb1
 refine wk 5 ?_;refine asp 13 (fun hb2=>?_) fun hb2=>?_
 .
  refine act ?_;have hk2:k=2:=by simpa using hb2
  subst hk2;refine wk 4 ?_;refine aq 17 (Ky Ag rfl rfl rfl rfl (by intro h;cases h)) ?_;exact WJ
 refine acf ?_;have hn2:k≠2:=by simpa using hb2
 refine wk 5 ?_;refine asp 18 (fun hb3=>?_) fun hb3=>?_
 .
  refine act ?_;have hk3:k=3:=by simpa using hb3
  subst hk3;refine wk 4 ?_;refine aq 22 (Ky Ag rfl rfl rfl rfl (by intro h;cases h)) ?_;exact WJ
 refine acf ?_;have hn3:k≠3:=by simpa using hb3
 refine wk 5 ?_;refine asp 23 (fun hb4=>?_) fun hb4=>?_
 .
  refine act ?_;have hk4:k=4:=by simpa using hb4
  subst hk4;refine wk 4 ?_;refine aq 27 (Ky Ag rfl rfl rfl rfl (by intro h;cases h)) ?_;exact WJ
 refine acf ?_;have hn4:k≠4:=by simpa using hb4
 refine wk 7 ?_;refine⟨[_,_],⟨rfl,rfl,trivial⟩,?_,rfl⟩;rw[cn hn1 hn2 hn3 hn4,g9 hn1 hn2 hn3 hn4];rfl
structure BS where
  been:List Bool
  q:List Int
def Hv(s:BS)(k:Int):BS:=bif notBeen s.been k then⟨s.been.set k.toNat true,s.q++[k]⟩else s
def GC(next:List (List Int))(s:BS):BS:=
  match s.q with
  | []=>s
  | at'::r=>(Br next at').foldl Hv ⟨s.been,r⟩
def ZX(next:List (List Int)):Nat->BS->BS
  | 0,s=>s
  | g+1,s=>if s.q.isEmpty then s else ZX next g (GC next s)
def lM(n:Nat):BS:=⟨(List.replicate n false).set 0 true,[0]⟩
def lN(next:List (List Int)):List Bool:=(ZX next (next.length+1) (lM next.length)).been
def XO(s:BS):Nat:=Vh s.been+s.q.length
theorem fa(s:BS)(k:Int):XO (Hv s k)=XO s:=by
 unfold Hv XO
 cases e:notBeen s.been k with
 | false=>rfl
 | true=>
  obtain⟨h1,h2,h3⟩:=CN e;have:=Je h3;simp only[cond_true,List.length_append,List.length_singleton];omega
theorem L6: ∀(l:List Int) (s:BS),XO (l.foldl Hv s)=XO s
 | [],_=>rfl
 | k::r,s=>by rw[List.foldl_cons,L6 r,fa]
theorem ZZ{next:List (List Int)}{s:BS}(h:s.q≠[]):XO (GC next s)+1=XO s:=by
 unfold GC;split
 . rename_i e;exact absurd e h
 . rename_i at' r e;rw[L6];simp only[XO,e,List.length_cons];omega
theorem ZW{next:List (List Int)}{g:Nat}{s:BS}(h:s.q≠[]):ZX next (g+1) s=ZX next g (GC next s):=by
 show(if s.q.isEmpty then s else _)=_;rw[if_neg (by simpa using h)]
theorem Te{l:List Bool}{i:Nat}{k:Int}(h:isBeen l k):isBeen (l.set i true) k:=by
 obtain⟨h1,h2⟩:=h;refine⟨h1,?_⟩;rw[List.getElem?_set];have hlt:=(List.getElem?_eq_some_iff.1 h2).1;split
 . rename_i he;rw[he,if_pos hlt]
 . exact h2
structure UW(next:List (List Int))(s:BS):Prop where
  len:s.been.length=next.length
  q: ∀k∈s.q,0<=k/\k<next.length
  qb: ∀k∈s.q,isBeen s.been k
  zero:isBeen s.been 0
  only: ∀k,isBeen s.been k->Ek next k
theorem Z7{next:List (List Int)}{s:BS}{b:Int}(h:UW next s)(hb:Ek next b):UW next (Hv s b):=by
 unfold Hv
 cases e:notBeen s.been b with
 | false=>exact h
 | true=>
  obtain⟨h1,h2,h3⟩:=CN e;have hself:isBeen (s.been.set b.toNat true) b:=⟨h1,by rw[List.getElem?_set_self (by omega)]⟩;refine⟨by simp[h.len],fun k hk=>?_,fun k hk=>?_,Te h.zero,fun k hk=>?_⟩
  . simp only[cond_true,List.mem_append,List.mem_singleton]at hk;rcases hk with hk | rfl
    . exact h.q k hk
    . rw[<-h.len];exact⟨h1,h2⟩
  . simp only[cond_true,List.mem_append,List.mem_singleton]at hk;rcases hk with hk | rfl
    . exact Te (h.qb k hk)
    . exact hself
  . obtain⟨k1,k2⟩:=hk;simp only[cond_true]at k2;rw[List.getElem?_set]at k2
    by_cases hh:b.toNat=k.toNat
    . have:k=b:=by omega
      rw[this];exact hb
    . rw[if_neg hh]at k2;exact h.only k ⟨k1,k2⟩
theorem Pa{next:List (List Int)}: ∀(l:List Int) (s:BS),UW next s->(∀t∈l,Ek next t)->UW next (l.foldl Hv s)
 | [],_,h,_=>h
 | b::r,s,h,hl=>Pa r _ (Z7 h (hl b (by simp))) (fun t ht=>hl t (by simp[ht]))
theorem ZY{next:List (List Int)}{s:BS}(h:UW next s):UW next (GC next s):=by
 unfold GC;split
 . exact h
 . rename_i at' r e;have hat:at'∈s.q:=by rw[e];simp
   have h0:UW next ⟨s.been,r⟩:=⟨h.len,fun k hk=>h.q k (by rw[e];simp[hk]),fun k hk=>h.qb k (by rw[e];simp[hk]),h.zero,h.only⟩;exact Pa _ _ h0 (fun t ht=>.step at' t (h.only at' (h.qb at' hat)) ht)
section
variable {f : BFunc}
def BFunc.inN(f:BFunc)(k:Int):Nat:=cntTo f.nexts f.reach k f.nexts.length
theorem aL(hle:f.leads){k:Int}(hk:0<=k):iget (waysF f.nexts f.reach) k=(f.inN k:Int):=SW (T0 hle) hk _ (Nat.le_refl _)
theorem NJ(hle:f.leads){i:Nat}(hi:i<f.blocks.length):J2 f.nexts i=(f.blockAt i).nexts:=by
 have h:=By (f:=f) (i:=(i:Int)) (by omega);rw[Int.toNat_natCast]at h;rw[J2,CI h];rfl
def dI(paths:List (List Int))(a:Int):Int:=
  match paths.findIdx? (fun p=>decide (p.length>0)&&Fu p==a)with
  | some i=>(i:Int)
  | none=> -1
theorem Wb{paths:List (List Int)}{a:Int}(hno: ∀p∈paths,(decide (p.length>0)&&Fu p==a)=false):dI paths a= -1:=by
 unfold dI;rw[List.findIdx?_eq_none_iff.2 (fun p hp=>by rw[hno p hp])]
end
structure Chainy(f:BFunc)(p:List Int):Prop where
  nd:p.Nodup
  mem: ∀x,x∈p↔0<=x/\x<f.blocks.length
  zero:p[0]?=some 0
  next: ∀(j:Nat) (x y:Int),p[j]?=some x->p[j+1]?=some y->(f.blockAt x).fin=1/\(f.blockAt x).to=y
  last: ∀(j:Nat) (x:Int),p[j]?=some x->p[j+1]?=none->(f.blockAt x).fin=3
section
variable {f : BFunc} {p : List Int}
theorem Chainy.get_inj(h:Chainy f p){i j:Nat}{x:Int}(hi:p[i]?=some x)(hj:p[j]?=some x):i=j:=by
 obtain⟨a,b⟩:=List.getElem?_eq_some_iff.1 hi;obtain⟨c,d⟩:=List.getElem?_eq_some_iff.1 hj;exact(List.getElem_inj h.nd).1 (b.trans d.symm)
theorem Chainy.nexts(h:Chainy f p){j:Nat}{x:Int}(hx:p[j]?=some x):(f.blockAt x).nexts=match p[j+1]? with | some y=>[y] | none=>[]:=by
 cases e:p[j+1]? with
 | some y=>obtain⟨h1,h2⟩:=h.next j x y hx e;simp[Block.nexts,h1,h2]
 | none=>have h1:=h.last j x hx e;simp[Block.nexts,h1]
theorem Chainy.leads(h:Chainy f p):f.leads:=fun l hl t ht=>by
 simp only[BFunc.nexts,List.mem_map]at hl;obtain⟨b,hb,rfl⟩:=hl;obtain⟨k,hk⟩:=List.getElem?_of_mem hb;have hkl:=(List.getElem?_eq_some_iff.1 hk).1;have hin:(k:Int)∈p:=(h.mem k).2 (by omega);obtain⟨j,hj⟩:=List.getElem?_of_mem hin;have hbk:f.blockAt (k:Int)=b:=by simp[BFunc.blockAt,hk]
 have:=h.nexts hj;rw[hbk]at this;rw[this]at ht
 cases e:p[j+1]? with
 | none=>rw[e]at ht;simp at ht
 | some y=>
  rw[e]at ht;simp at ht;subst ht;exact(h.mem t).1 (List.mem_of_getElem? e)
theorem Chainy.ne(h:Chainy f p):f.blocks≠[]:=fun e=>by
 have:=(h.mem 0).1 (List.mem_of_getElem? h.zero);rw[e]at this;simp at this
theorem Chainy.reaches(h:Chainy f p): ∀(j:Nat) (x:Int),p[j]?=some x->Ek f.nexts x
 | 0,x,hx=>by rw[h.zero]at hx;cases hx;exact .zero
 | j+1,x,hx=>by
  have hjl:=(List.getElem?_eq_some_iff.1 hx).1;obtain⟨w,hw⟩:=Ae (l:=p) (k:=j) (by omega);have hwr:=(h.mem w).1 (List.mem_of_getElem? hw);refine .step w x (h.reaches j w hw) ?_;rw[Vw h.leads hwr,h.nexts hw,hx]
  simp
theorem Chainy.been(h:Chainy f p){x:Int}(hx:x∈p):isBeen f.reach x:=by
 obtain⟨j,hj⟩:=List.getElem?_of_mem hx;exact(bI h.leads h.ne x).2 (h.reaches j x hj)
theorem Chainy.pred(h:Chainy f p){j:Nat}{x y:Int}(hx:p[j]?=some x)(hy:p[j+1]?=some y){i:Nat}(hi:i<f.blocks.length)(hm:y∈J2 f.nexts i):(i:Int)=x/\(J2 f.nexts i).count y=1:=by
 rw[NJ h.leads hi]at hm |-;obtain⟨k,hk⟩:=List.getElem?_of_mem ((h.mem i).2 (by omega));rw[h.nexts hk]at hm |-
 cases e:p[k+1]? with
 | none=>rw[e]at hm;simp at hm
 | some z=>
  rw[e]at hm;simp at hm;subst hm;have:=h.get_inj hy e;have hkj:k=j:=by omega
  subst hkj;rw[hx]at hk;cases hk
  simp
theorem Chainy.inN(h:Chainy f p){j:Nat}{x y:Int}(hx:p[j]?=some x)(hy:p[j+1]?=some y):f.inN y=1:=by
 have hxr:=(h.mem x).1 (List.mem_of_getElem? hx);have hnl:=AJ f;have hlt:x.toNat<f.nexts.length:=by omega
 have hge:1<=f.inN y:=by
  have h1:=eG (next:=f.nexts) (reach:=f.reach) (k:=y) hlt (h.been (List.mem_of_getElem? hx)).2;have h2:0<(J2 f.nexts x.toNat).count y:=by
   refine List.count_pos_iff.2 ?_;rw[NJ h.leads (by omega),show((x.toNat:Nat):Int)=x by omega,h.nexts hx,hy]
   simp
  unfold BFunc.inN;omega
 have hle: ¬2<=f.inN y:=fun h2=>by
  rcases XM h2 with⟨i,k,a,b,c,d,e,g⟩ |⟨i,a,b,c⟩
  . have h3:=(h.pred hx hy (i:=i) (by omega) e).1;have h4:=(h.pred hx hy (i:=k) (by omega) g).1;omega
  . have hm:y∈J2 f.nexts i:=List.count_pos_iff.1 (by omega);have:=(h.pred hx hy (i:=i) (by omega) hm).2;omega
 omega
theorem Chainy.tk(h:Chainy f p){j:Nat}{x y:Int}(hx:p[j]?=some x)(hy:p[j+1]?=some y):iget f.tk x=y:=by
 have hxr:=(h.mem x).1 (List.mem_of_getElem? hx);have hyr:=(h.mem y).1 (List.mem_of_getElem? hy);obtain⟨h1,h2⟩:=h.next j x y hx hy;have hb:=(h.been (List.mem_of_getElem? hx)).2;have hN:=h.inN hx hy;have hw:=aL h.leads (k:=y) hyr.1;have hy0:y≠0:=fun e=>by rw[e]at hy;have:=h.get_inj hy h.zero;omega
 have hyx:y≠x:=fun e=>by rw[e]at hy;have:=h.get_inj hy hx;omega
 have c1:(y !=0)=true:=by rw[bne_iff_ne];exact hy0
 have c2:(y !=((x.toNat:Nat):Int))=true:=by rw[bne_iff_ne];omega
 rw[S3 h.leads hxr,takeOf,hb,h1,h2,hw,hN,c1,c2];rfl
theorem Chainy.tk_last(h:Chainy f p){j:Nat}{x:Int}(hx:p[j]?=some x)(hy:p[j+1]?=none):iget f.tk x= -1:=by
 have hxr:=(h.mem x).1 (List.mem_of_getElem? hx);rw[S3 h.leads hxr,takeOf,h.last j x hx hy]
 simp
theorem Chainy.chain(h:Chainy f p): ∀(g j:Nat) (x:Int),p[j]?=some x->p.length<=j+1+g->Sv.chain f.tk g x=p.drop (j+1)
 | 0,j,x,hx,hl=>by rw[List.drop_eq_nil_of_le (by omega)];rfl
 | g+1,j,x,hx,hl=>by
  unfold Sv.chain
  cases e:p[j+1]? with
  | none=>
   rw[h.tk_last hx e];have:p.length<=j+1:=List.getElem?_eq_none_iff.1 e;rw[List.drop_eq_nil_of_le this];rfl
  | some y=>
   have hyr:=(h.mem y).1 (List.mem_of_getElem? e);have hne:(iget f.tk x== -1)=false:=by rw[h.tk hx e,beq_eq_false_iff_ne];omega
   rw[hne,cond_false,h.tk hx e,h.chain g (j+1) y e (by omega)];obtain⟨a,b⟩:=List.getElem?_eq_some_iff.1 e;rw[List.drop_eq_getElem_cons (i:=j+1) a,b]
theorem Chainy.path(h:Chainy f p)(hl:p.length<=f.blocks.length+1):Ba f.tk 0=p:=by
 have htl:f.tk.length=f.blocks.length:=AP f f.reach;rw[Ba,h.chain f.tk.length 0 0 h.zero (by omega)];obtain⟨a,b⟩:=List.getElem?_eq_some_iff.1 h.zero;have:=List.drop_eq_getElem_cons (i:=0) a;rw[List.drop_zero,b]at this;exact this.symm
theorem Chainy.head(h:Chainy f p){k:Nat}(hk:0<k)(hkl:k<f.blocks.length):f.headOf k=false:=by
 cases e:f.headOf k with
 | false=>rfl
 | true=>
  obtain⟨j,hj⟩:=List.getElem?_of_mem ((h.mem k).2 (by omega))
  cases j with
  | zero=>
   rw[h.zero]at hj;have:=Option.some.inj hj;omega
  | succ j=>
   have hjl:=(List.getElem?_eq_some_iff.1 hj).1;obtain⟨w,hw⟩:=Ae (l:=p) (k:=j) (by omega);have hwr:=(h.mem w).1 (List.mem_of_getElem? hw);exact absurd (h.tk hw hj) ((C6 h.leads e).2 w hwr)
theorem Chainy.paths(h:Chainy f p)(hl:p.length<=f.blocks.length+1):f.tpaths=[p]:=by
 have hpos:0<f.blocks.length:=List.length_pos_iff.2 h.ne;have key: ∀m,0<m->m<=f.blocks.length->f.pathsTo m=[p]:=fun m=>by
  induction m with
  | zero=>intro h0;omega
  | succ m ih=>
   intro _ hm
   by_cases h0:m=0
   . subst h0;rw[DN (Zo h.leads h.ne)];show []++[Ba f.tk ((0:Nat):Int)]=[p];rw[show((0:Nat):Int)=0 from rfl,h.path hl];rfl
   . rw[EZ (h.head (k:=m) (by omega) (by omega)),ih (by omega) (by omega)]
 exact key _ hpos (Nat.le_refl _)
end
structure QG where
  s:BS
  es:List Int
  off:Nat
  g:Nat
  gas:Nat
structure QInv(next:List (List Int))(q:QG):Prop where
  inv:UW next q.s
  qe:q.s.q=q.es.drop q.off
  off:q.off<=q.es.length
  mu:XO q.s<q.gas
  le:q.gas<=next.length+1
  tgt:(ZX next q.gas q.s).been=lN next
structure QI where
  j:Nat
  es:List Int
  off:Nat
  g:Nat
structure QIInv(been:List Bool)(tl:List Int)(row:List Int)(i:QI):Prop where
  off:i.off<=i.es.length
  q:i.es.drop i.off=((row.take i.j).foldl Hv ⟨been,tl⟩).q
theorem QInv.len{next:List (List Int)}{q:QG}(h:QInv next q)(hq:q.s.q≠[]){row:List Int}{i:QI}(hi:QIInv q.s.been q.s.q.tail row i):i.es.length-i.off<=next.length:=by
 have h1:i.es.length-i.off=((row.take i.j).foldl Hv ⟨q.s.been,q.s.q.tail⟩).q.length:=by rw[<-hi.q,List.length_drop]
 have h2:=L6 (row.take i.j) ⟨q.s.been,q.s.q.tail⟩;have h3:=h.mu;have h4:=h.le;have h5:XO ⟨q.s.been,q.s.q.tail⟩<=XO q.s:=by simp[XO]
 have h6:((row.take i.j).foldl Hv ⟨q.s.been,q.s.q.tail⟩).q.length<=XO ((row.take i.j).foldl Hv ⟨q.s.been,q.s.q.tail⟩):=Nat.le_add_left _ _;omega
theorem QInv.next{next:List (List Int)}{q:QG}(h:QInv next q)(hq:q.s.q≠[]){a:Int}(ha:q.s.q=a::q.s.q.tail){row:List Int}(hr:Br next a=row){i:QI}(hi:QIInv q.s.been q.s.q.tail row i)(hj:row.length<=i.j):
 QInv next ⟨GC next q.s,i.es,i.off,i.g,q.gas-1⟩/\q.gas-1<q.gas/\(row.take i.j).foldl Hv ⟨q.s.been,q.s.q.tail⟩=GC next q.s:=by
 have hb:(row.take i.j).foldl Hv ⟨q.s.been,q.s.q.tail⟩=GC next q.s:=by
  rw[List.take_of_length_le hj];unfold GC;rw[ha];simp only[List.tail_cons,hr]
 have hm:=ZZ (next:=next) hq;have hmu:=h.mu;have hle:=h.le;refine⟨⟨ZY h.inv,by rw[<-hb];exact hi.q.symm,hi.off,by show XO (GC next q.s)<q.gas-1;omega,by show q.gas-1<=_;omega,?_⟩,by omega,hb⟩;rw[<-h.tgt];show _=(ZX next q.gas q.s).been;rw[show q.gas=(q.gas-1)+1 by omega,ZW hq,Nat.add_sub_cancel]
theorem I7{n:Nat}{e:Av}{h:Ac}(b0 i j:Nat){p:Bool}{sz0:Nat}{es:List (List AV)}{cs:List AV}{x:AV}(y:AV)(hb0:h b0=some (.row p sz0 es))(hi:es[i]?=some cs)(hj:cs[j]?=some x)(hxy: ∀H ι v,Rel H ι x v->Rel H ι y v)(h1:y.cell1=true):
 Ghost ⟨n,e,h⟩ ⟨n,e,hput h b0 (.row p sz0 (es.set i (cs.set j y)))⟩:=fun H ι a w hs=>by
 obtain⟨u1,u2⟩:=hs.heap.recell hb0 hi hj (y:=y) (fun v hv=>hxy _ _ v hv) h1;exact⟨H,ι,⟨hs.n,hs.d,hs.env,u1⟩,u2⟩
section
variable {next : List (List Int)} {reach : List Bool} {a : Int} {i k : Nat} {r : Bool} {row : List Int}
end
section
variable {f : BFunc} {k : Nat}
structure FP(tk tgt:List Int)(q:jr):Prop where
  on:0<=q.c->FInv2 tk tgt q
  off:q.c<0->q.acc=tgt
def lE(q:jr):Nat:=if 0<=q.c then q.g+1 else 0
theorem FP.next(hle:f.leads){tgt:List Int}{q:jr}(h:FP f.tk tgt q)(hc:0<=q.c)(hb:0<=iget f.tk q.c):FP f.tk tgt ⟨iget f.tk q.c,q.acc++[iget f.tk q.c],q.g-1⟩/\lE ⟨iget f.tk q.c,q.acc++[iget f.tk q.c],q.g-1⟩<lE q:=by
 have hin:=He hle f.reach;obtain⟨h1,h2⟩:=(h.on hc).next hin (by rw[bne_iff_ne];show iget f.tk q.c≠ -1;omega);refine⟨⟨fun _=>h1,fun hh=>absurd hb (by show ¬_;simp only at hh;omega)⟩,?_⟩;unfold lE;simp only[if_pos hc];split<;>omega
theorem FP.len{tgt tk:List Int}{q:jr}(h:FP tk tgt q)(hc:0<=q.c):q.acc.length<=tk.length+1:=by
 have:=(h.on hc).len;omega
end
def noHead(paths:List (List Int))(a:Int)(k:Nat):Prop:=∀j q,j<k->paths[j]?=some q->(decide (q.length>0)&&Fu q==a)=false
theorem noHead.zero(paths:List (List Int))(a:Int):noHead paths a 0:=fun j q h=>absurd h (Nat.not_lt_zero _)
theorem noHead.none{paths:List (List Int)}{a:Int}{k:Nat}(h:noHead paths a k)(hk:paths.length<=k):dI paths a= -1:=Wb fun p hp=>by
 obtain⟨j,hj⟩:=List.getElem?_of_mem hp;have:=(List.getElem?_eq_some_iff.1 hj).1;exact h j p (by omega) hj
set_option maxRecDepth 100000
theorem WQ(k:Int)(g:BFunc):APure Tryz.prog 126 [.agg [.int .i64 k],.agg g.cells] (fun r=>r= .agg (⟨k,⟨[]⟩,[],g⟩:OPass).cells):=by
 refine APure.of_body (n:=9) Ag Tryz.func126 rfl rfl ?_;refine wk 40 ?_;refine ax 2 (GJ 1 0) ?_;refine ax 3 (GJ 2 1) ?_;refine ax 4 (EO Ag 2) ?_;refine wk 9 ?_;refine AGo.ghost (I7 2 0 1 (.lst false []) rfl rfl rfl (fun _ _ _=>Tl) rfl) ?_;refine AGo.ghost (I7 2 0 2 (.lst false []) rfl rfl rfl (fun _ _ _=>Tl) rfl) ?_;refine wk 40 ?_;exact⟨[_],⟨⟨_,_,_,_,rfl,rfl,.ptr _ _ _ _ _ _ _ _ rfl rfl rfl,rfl⟩,trivial⟩,rfl,rfl⟩
theorem So(k:Int)(fo:Nat){fn:Func}(hf:Tryz.prog.funcs[fo]?=some fn)(hn:(fn.name== "runtime.NumGoroutine")=false)(hb:fn.body.isSome=true)(f g:BFunc)(c:Cert)(hO:APure Tryz.prog fo [.agg f.cells] (fun r=>r= .tup [.agg g.cells,.agg c.cells])):APure Tryz.prog 128 [.agg [.int .i64 k,.val (.func (.func fo) #[] #[])],.agg f.cells] (fun r=>r= .tup [.agg g.cells,.agg (⟨k,c,[],g⟩:OPass).cells]):=by
 refine APure.of_body (n:=24) Ag Tryz.func128 rfl rfl ?_;refine wk 40 ?_;refine ax 2 (GJ 2 0) ?_;refine ax 3 (GJ 2 1) ?_;refine ax 4 (EO Ag 2) ?_;refine ax 5 (EO Ag 3) ?_;refine wk 40 ?_;refine ax 13 (Y4 rfl rfl hf hn hb rfl rfl hO) ?_;refine wk 40 ?_;refine ax 6 (EO Ag 4) ?_;refine ax 7 (EO Ag 5) ?_;refine wk 40 ?_;refine ax 19 (DQ Tryz.func126 (WQ k g)) ?_;exact mb
theorem ia(k:Int)(f g:BFunc)(ps:List (List Int))(hO:APure Tryz.prog 144 [.agg f.cells] (fun r=>r= .tup [.agg g.cells,A2 ps])):APure Tryz.prog 142 [.agg [.int .i64 k],.agg f.cells] (fun r=>r= .tup [.agg g.cells,.agg (⟨k,⟨[]⟩,ps,g⟩:OPass).cells]):=by
 refine APure.of_body (n:=22) Ag Tryz.func142 rfl rfl ?_;refine wk 40 ?_;refine ax 2 (GJ 1 0) ?_;refine ax 3 (GJ 2 1) ?_;refine ax 4 (EO Ag 2) ?_;refine ax 5 (EO Ag 3) ?_;refine wk 40 ?_;refine ax 11 (DQ Tryz.func144 hO) ?_;refine wk 40 ?_;refine ax 6 (EO Ag 4) ?_;refine wk 40 ?_;refine ax 17 (DQ Tryz.func126 (WQ k g)) ?_;exact mb
structure SA(f:BFunc)(G:Int->OPass):Prop where
  c1:APure Tryz.prog 41 [.agg f.cells] (fun r=>r= .tup [.agg (G 1).f.cells,.agg (G 1).cert.cells])
  c2:APure Tryz.prog 42 [.agg f.cells] (fun r=>r= .tup [.agg (G 2).f.cells,.agg (G 2).cert.cells])
  c3:APure Tryz.prog 43 [.agg f.cells] (fun r=>r= .tup [.agg (G 3).f.cells,.agg (G 3).cert.cells])
  c4:APure Tryz.prog 144 [.agg f.cells] (fun r=>r= .tup [.agg (G 4).f.cells,A2 (G 4).paths])
  e1:G 1=⟨1,(G 1).cert,[],(G 1).f⟩
  e2:G 2=⟨2,(G 2).cert,[],(G 2).f⟩
  e3:G 3=⟨3,(G 3).cert,[],(G 3).f⟩
  e4:G 4=⟨4,⟨[]⟩,(G 4).paths,(G 4).f⟩
section
variable {o : Oper} {e : Av} {h : Ac}
theorem qv{f:BFunc}{G:Int->OPass}(hG:SA f G){k:Int}(hk:kind35 k=true){recv:Operand}{args:Array Operand}{tys:Array TypeId}(ho:o.op= .call {callee:=.invoke recv "seedcorn/optimize.run",args:=args,argTypes:=tys})
 (hr:Al e recv=some (.val (Xo k))) (hx:AY e args.toList=some [.agg f.cells]):OLoc Tryz.prog o e h [] [] (some (.tup [.agg (G k).f.cells,.agg (G k).cells])):=by
 rcases V8 hk with h1 | h1 | h1 | h1<;>subst h1
 . rw[congrArg OPass.cells hG.e1];exact KH ho hr (fun w=>mt_cr _ w) (Hj (by rfl)) Tryz.func128 (by kernel_rfl) rfl hx rfl (So 1 _ Tryz.func41 (by kernel_rfl) rfl f _ _ hG.c1)
 . rw[congrArg OPass.cells hG.e2];exact KH ho hr (fun w=>mt_cr _ w) (Hj (by rfl)) Tryz.func128 (by kernel_rfl) rfl hx rfl (So 2 _ Tryz.func42 (by kernel_rfl) rfl f _ _ hG.c2)
 . rw[congrArg OPass.cells hG.e3];exact KH ho hr (fun w=>mt_cr _ w) (Hj (by rfl)) Tryz.func128 (by kernel_rfl) rfl hx rfl (So 3 _ Tryz.func43 (by kernel_rfl) rfl f _ _ hG.c3)
 . rw[congrArg OPass.cells hG.e4];exact KH ho hr (fun w=>mt_jr _ w) (Hj (by rfl)) Tryz.func142 (by kernel_rfl) rfl hx rfl (ia 4 f _ _ hG.c4)
end
theorem co(f:BFunc)(G:Int->OPass)(hG:SA f G)(k:Int)(hk:kind35 k=true):APure Tryz.prog 21 [.agg f.cells,.int .i64 k] (fun r=>r= .tup [.agg (G k).f.cells,.agg (G k).cells,.int .i64 0]):=by
 refine APure.of_body (n:=28) Ag Tryz.func21 rfl rfl ?_;refine wk 40 ?_;refine ax 2 (GJ 2 0) ?_;refine ax 4 (EO Ag 1) ?_;refine ax 5 (EO Ag 2) ?_;refine wk 40 ?_;refine ax 13 (DQ Tryz.func31 (XK k)) ?_;rw[hk];refine wk 40 ?_;refine ax 23 (qv hG hk rfl rfl rfl) ?_;refine wk 40 ?_;refine ax 9 (EO Ag 3) ?_;refine ax 10 (EO Ag 4) ?_;refine wk 40 ?_;exact⟨[_,_,_],⟨⟨_,_,_,_,rfl,rfl,.ptr _ _ _ _ _ _ _ _ rfl rfl rfl,rfl⟩,⟨_,_,_,_,rfl,rfl,.ptr _ _ _ _ _ _ _ _ rfl rfl rfl,rfl⟩,rfl,trivial⟩,rfl,rfl⟩
end Go.Proofs.YtbbfelelocccmaaGreat.Sv
namespace Go.Proofs.YtbbfelelocccmaaGreat.Sv
open Go
theorem gt(z R i:Nat)(p:Nat->Bool)(hi:i<R)(hR:R<=100000):ACall Tryz.prog 106 [.ref z (nw R) 0 (nw R),.int .i64 (i:Int)] (hput hNew z (.row true 1 (Bs R p))) (fun r h'=>r= .tup []/\HSub (hput hNone z (.row true 1 (Bs R (fun v=>p v||v==i)))) h'):=by
 have hj:=TP hi;refine ACall.of_body (n:=14) Ag Tryz.func106 rfl rfl ?_;refine wk 3 ?_;refine dq 6 (AU (r:=.int .i64 ((i/64:Nat):Int)) rfl rfl rfl (Xi (by omega))) ?_;refine dq 7 (Ab Ag rfl rfl rfl rfl rfl rfl (Aq _ _ _) (Bi _ _).symm rfl (Int.natCast_nonneg _) (by omega)) ?_;refine dq 8 (At Ag rfl rfl rfl (.ptr _ _ _ _ _ _ _ (Bz p (i/64)) (Aq _ _ _) (Bi _ _).symm (by rw[Nat.zero_add,Int.toNat_natCast];exact Co hj)) rfl) ?_;refine dm 9 ?_;refine dq 10 (AU (r:=.int .i64 ((i%64:Nat):Int)) rfl rfl rfl bD) ?_;refine dq 11 (AU (r:=.int .u64 ((wd (fun v=>v==i%64):Nat):Int)) rfl rfl rfl (aJ (by omega))) ?_;refine dq 12 (AU rfl rfl rfl (aI (fun v=>p (64*(i/64)+v)) (fun v=>v==i%64))) ?_;refine dq 13 (Ab Ag rfl rfl rfl rfl rfl rfl (Aq _ _ _) (Bi _ _).symm rfl (Int.natCast_nonneg _) (by omega)) ?_;refine DOps.w rfl rfl (o_store Ag (es:=Bs R p) (cs:=Bz p (i/64)) rfl rfl rfl rfl rfl (Aq _ _ _) (Bi _ _).symm (by rw[Nat.zero_add,Int.toNat_natCast];exact Co hj) rfl (by decide) rfl (fun _=>rfl)) ?_;refine wk 1 ?_;refine⟨[],trivial,rfl,HSub.put (HSub.none _) ((Aq _ _ _).trans (congrArg (fun es=>some (AObj.row true 1 es)) ?_))⟩
 rw[Nat.zero_add,Int.toNat_natCast];exact(congrArg ((Bs R p).set (i/64)) (Ve p i)).symm.trans (Kt (fun v hv=>by
  have:(v==i)=false:=by rw[beq_eq_false_iff_ne];intro e;exact hv (by rw[e])
  simp[this]))
theorem kP(z R i:Nat)(p:Nat->Bool)(hi:i<R)(hR:R<=100000):ACall Tryz.prog 108 [.ref z (nw R) 0 (nw R),.int .i64 (i:Int)] (hput hNew z (.row true 1 (Bs R p))) (fun r h'=>r= .tup []/\HSub (hput hNone z (.row true 1 (Bs R (fun v=>p v&& !(v==i))))) h'):=by
 have hj:=TP hi;refine ACall.of_body (n:=14) Ag Tryz.func108 rfl rfl ?_;refine wk 3 ?_;refine dq 6 (AU (r:=.int .i64 ((i/64:Nat):Int)) rfl rfl rfl (Xi (by omega))) ?_;refine dq 7 (Ab Ag rfl rfl rfl rfl rfl rfl (Aq _ _ _) (Bi _ _).symm rfl (Int.natCast_nonneg _) (by omega)) ?_;refine dq 8 (At Ag rfl rfl rfl (.ptr _ _ _ _ _ _ _ (Bz p (i/64)) (Aq _ _ _) (Bi _ _).symm (by rw[Nat.zero_add,Int.toNat_natCast];exact Co hj)) rfl) ?_;refine dm 9 ?_;refine dq 10 (AU (r:=.int .i64 ((i%64:Nat):Int)) rfl rfl rfl bD) ?_;refine dq 11 (AU (r:=.int .u64 ((wd (fun v=>v==i%64):Nat):Int)) rfl rfl rfl (aJ (by omega))) ?_;refine dq 12 (AU rfl rfl rfl (PL (fun v=>p (64*(i/64)+v)) (fun v=>v==i%64))) ?_;refine dq 13 (Ab Ag rfl rfl rfl rfl rfl rfl (Aq _ _ _) (Bi _ _).symm rfl (Int.natCast_nonneg _) (by omega)) ?_;refine DOps.w rfl rfl (o_store Ag (es:=Bs R p) (cs:=Bz p (i/64)) rfl rfl rfl rfl rfl (Aq _ _ _) (Bi _ _).symm (by rw[Nat.zero_add,Int.toNat_natCast];exact Co hj) rfl (by decide) rfl (fun _=>rfl)) ?_;refine wk 1 ?_;refine⟨[],trivial,rfl,HSub.put (HSub.none _) ((Aq _ _ _).trans (congrArg (fun es=>some (AObj.row true 1 es)) ?_))⟩
 rw[Nat.zero_add,Int.toNat_natCast];exact(congrArg ((Bs R p).set (i/64)) (Yi p i)).symm.trans (Kt (fun v hv=>by
  have:(v==i)=false:=by rw[beq_eq_false_iff_ne];intro e;exact hv (by rw[e])
  simp[this]))
theorem Ku(z R:Nat)(hR:R<=100000):ACall Tryz.prog 98 [.int .i64 (R:Int)] (hput hNew z .free) (fun r h'=>r= .ref z (nw R) 0 (nw R)/\HSub (hput hNone z (.row true 1 (Bs R (fun _=>false)))) h'):=by
 refine ACall.of_body (n:=7) Ag Tryz.func98 rfl rfl ?_;refine wk 7 ?_;refine aq 4 (AU (r:=.int .i64 ((R+63:Nat):Int)) rfl rfl rfl (Hq (a:=R) (b:=63) (Jc (by omega)))) ?_;refine aq 5 (AU (r:=.int .i64 ((nw R:Nat):Int)) rfl rfl rfl (Xi (by omega))) ?_;refine ax 6 (AA Ag (n:=nw R) (m:=nw R) z true rfl rfl rfl rfl rfl rfl rfl rfl (Aq _ _ _) rfl (Nat.zero_lt_succ _) rfl (Nat.le_refl _) (by unfold nw;show 8*_<=_;omega) (by unfold nw;simp only[maxLen];omega)) ?_;refine wk 3 ?_;refine⟨[_],⟨rfl,trivial⟩,rfl,HSub.put (HSub.none _) ((Aq _ _ _).trans (congrArg (fun es=>some (AObj.row true 1 es)) (YG R)))⟩
theorem NF(z R:Nat)(p:Nat->Bool)(hR:R<=100000):ACall Tryz.prog 91 [.ref (z+16) (nw R) 0 (nw R),.int .i64 (R:Int)] (hput hNew (z+16) (.row true 1 (Bs R p))) (fun r h'=>r=Cs (G3 R p)/\HSub (hput hNone (z+16) (.row true 1 (Bs R p))) h'):=by
 refine ACall.of_body (n:=29) Ag Tryz.func91 rfl rfl ?_;refine wk 7 ?_;refine ax 8 (AA Ag (n:=R) (m:=R) 0 true rfl rfl rfl (rfl) (rfl) rfl rfl rfl rfl rfl (Nat.zero_lt_succ _) rfl (Nat.le_refl _) (by show 1*R<=_;omega) (by simp only[maxLen];omega)) ?_;refine wk 10 ?_;refine AGo.loopI (γ:=Nat) (fun k=>⟨29,(Aa (Aa (Aa (Aa A9 0 (.ref (z+16) (nw R) 0 (nw R))) 5 (.ref 0 R 0 R)) 10 (.int .i64 (R:Int))) 11 (.int .i64 (k:Int))),(hput (hput hNone (z+16) (.row true 1 (Bs R p))) 0 (.row true 1 (((G3 R p).take k).map A5++List.replicate (R-k) [AV.bool false])))⟩) (fun k=>k<=R) (fun k=>R-k) 0 (Sub.mk' Et (by repeat(first | exact HSub.refl _ | exact HSub.none _ | exact AG _ | exact AE GK | refine HSub.put ?_ (by first | rfl | exact Aq _ _ _ |((try simp only[hputs]);repeat(first | rfl | exact Aq _ _ _ | refine Az (by exact Af (by omega)) ?_ | refine hrm_skip (by omega) ?_ | refine(CD _ Ps).trans ?_))) | refine AF ?_ GK | refine Bq ?_ (by decide)))) (Nat.zero_le _) ?_
 intro k hk;refine wk 5 ?_;refine asp 12 (fun hb1=>?_) fun hb1=>?_
 .
  refine act ?_;have hkl:k<R:=by have h:=hb1;simp at h;exact h
  have hpk:(fun v=>p (64*(k/64)+v)) (k%64)=p k:=by show p (64*(k/64)+k%64)=p k;rw[Nat.div_add_mod]
  refine wk 13 ?_;refine aq 18 (AU (r:=.int .i64 ((k/64:Nat):Int)) rfl rfl rfl (Xi (by omega))) ?_;refine aq 19 (Ab Ag rfl rfl rfl rfl rfl rfl BA (Bi _ _).symm rfl (Int.natCast_nonneg _) (by have:=TP hkl;omega)) ?_;refine aq 20 (At Ag rfl rfl rfl (.ptr _ _ _ _ true 1 (Bs R p) (Bz p (k/64)) BA (Bi _ _).symm (by rw[Nat.zero_add,Int.toNat_natCast];exact Co (TP hkl))) rfl) ?_;refine wk 1 ?_;refine aq 22 (AU (r:=.int .i64 ((k%64:Nat):Int)) rfl rfl rfl bD) ?_;refine aq 23 (AU rfl rfl rfl (kc (p:=fun v=>p (64*(k/64)+v)) (by omega))) ?_;refine aq 24 (AU rfl rfl rfl (fU (fun v=>p (64*(k/64)+v)) (by omega))) ?_;refine aq 25 (AU rfl rfl rfl (kd _)) ?_;refine aq 26 (Ab Ag rfl rfl rfl rfl rfl rfl rfl (AC (Hm R p) (Nat.le_of_lt hkl)) rfl (Int.natCast_nonneg _) (by omega)) ?_;refine AOps.w rfl rfl (o_store Ag rfl rfl rfl rfl rfl rfl (AC (Hm R p) (Nat.le_of_lt hkl)) (fill_get (Hm R p) hkl) rfl (by decide) rfl Dy) ?_;refine wk 2 ?_;refine aq 27 (Bj rfl rfl hkl (by simp only[maxLen];omega)) ?_;refine wk 2 ?_;exact⟨k+1,Sub.mk' Cf (by repeat(first | exact HSub.refl _ | exact HSub.none _ | exact AG _ | exact AE GK | refine HSub.put ?_ (by first | rfl | exact congrArg (fun es=>some (AObj.row true 1 es)) (BR (f:=A5) (x:=p (64*(k/64)+k%64)) (Hm R p) ((TS hkl).trans (congrArg some hpk.symm))) |((try simp only[hputs]);repeat(first | rfl | exact Aq _ _ _ | refine Az (by exact Af (by omega)) ?_ | refine hrm_skip (by omega) ?_ | refine(CD _ Ps).trans ?_))) | refine AF ?_ GK | refine Bq ?_ (by decide))),hkl,by omega⟩
 refine acf ?_;have hge:R<=k:=by have h:=hb1;simp at h;exact h
 refine wk 2 ?_;refine AGo.ghost (.freeze 5 0 rfl rfl (AC (Hm R p) hk)) ?_;rw[CQ (Hm R p) hge];refine wk 5 ?_;refine⟨[_],⟨rfl,trivial⟩,rfl,HSub.put (HSub.none _) BA⟩
abbrev Fr(l:Nat):Fence:=Fence.wide.inRound l
section
variable {P : Program} {l n : Nat}
theorem ZT{f:FuncId}{args:Array Value}{w:World}{R:Ending->World->Prop}(h:Calls P f args w R):CallsIn (Fr l) n P f args w R:=callsIn_wide (n:=n).2 h
theorem bv{row:String}{args:Array Value}{w:World}{R:Value->World->Prop}(h:Rows P row args w R):RowsIn (Fr l) n P row args w R:=fun c cs _=>
 let ⟨v,w',r,s⟩:=h c cs
 ⟨v,w',r,stepsIn_wide.2 s⟩
def KJ(o:Oper):Bool:=match o.op with
  | .defer _=>false
  | _=>true
theorem Xq{o:Oper}{a:Act}{w:World}{N:Act->World->Prop}{Q:Exit->Act->World->Prop}(hd:KJ o=true)(h:o.wp P a w N Q):o.wpIn (Fr l) n P a w N Q:=by
 refine⟨fun _ _=>trivial,?_⟩;rw[Oper.semAt_eq _ _ _ (fun c e=>by unfold KJ at hd;rw[e]at hd;cases hd)];unfold Oper.wp at h;generalize(execOp a.eval o).run P w=res at h |-
 cases res with
 | ok x w'=>
  cases x with
  | value v=>exact h
  | skip=>exact h
  | defer d=>exact h
  | enter f args=>exact⟨fun e=>(by cases e),ZT h⟩
  | row r args=>exact⟨fun e=>(by cases e),bv h⟩
  | _=>exact h.elim
 | halt x w'=>
  cases x with
  | panic v=>exact h
  | _=>exact h.elim
theorem Xv{ops:Array Oper}{Q:Exit->Act->World->Prop}(hq: ¬LetsOut Q): ∀(L:List Oper),L.all KJ=true->∀{a:Act} {w:World},wpList P ops Q L a w->wpListIn (Fr l) n P ops Q L a w
 | [],_,_,_,h=>h
 | o::L,hd,a,w,h=>by
  simp only[List.all_cons,Bool.and_eq_true]at hd;have ih:=@Xv ops Q hq L hd.2;unfold wpList at h;unfold wpListIn
  by_cases hw:Region.wanted o (yielded ops a.tmps)=true
  . rw[if_pos hw]at h |-;rcases h with h |⟨_,h⟩
    . exact Xq hd.1 (Oper.wp_mono (fun a' w' hx=>ih hx) h)
    . exact absurd h hq
  . rw[if_neg hw]at h |-;exact⟨fun _ _=>trivial,ih h⟩
def AGoR(P:Program)(l n:Nat)(c:Code)(s:Aj)(Q:Exit->Aj->Prop):Prop:=
  ∀H ι a w,Sim H ι s a w->c.wpIn (Fr l) n P (Post H ι s.h w Q) a w
variable {s s' : Aj} {Q : Exit -> Aj -> Prop}
theorem AGoR.skip(h:Q .normal s):AGoR P l n .skip s Q:=fun H ι a w hs=>wpIn_skip ⟨s,H,ι,h,hs,Step.refl _ _ _ _⟩
theorem AGoR.exit{id:Nat}(h:Q (.exit id) s):AGoR P l n (.exit id) s Q:=fun H ι a w hs=>wpIn_exit ⟨s,H,ι,h,hs,Step.refl _ _ _ _⟩
theorem AGoR.mono{c:Code}{Q':Exit->Aj->Prop}(h:AGoR P l n c s Q)(hq: ∀e s,Q e s->Q' e s):AGoR P l n c s Q':=fun H ι a w hs=>wpIn_mono (h H ι a w hs) fun e a' w' hp=>hp.mono (hq e)
theorem AGoR.seq{x y:Code}(h:AGoR P l n x s (Cb (fun s'=>AGoR P l n y s' Q) Q)):AGoR P l n (.seq x y) s Q:=by
 intro H ι a w hs;refine wpIn_seq (wpIn_mono (h H ι a w hs) fun e a' w' hp=>?_)
 cases e with
 | normal=>
  obtain⟨s',H',ι',q,r,t⟩:=hp;exact wpIn_mono (q H' ι' a' w' r) fun e a'' w'' hp'=>Post.step hs.heap r.heap t hp'
 | _=>exact hp
theorem AGoR.cond{t:Nat}{x y:Code}{b:Bool}(he:s.env t=some (.bool b))(h1:b=true->AGoR P l n x s Q)(h2:b=false->AGoR P l n y s Q):AGoR P l n (.cond (.tmp t) x y) s Q:=by
 intro H ι a w hs;obtain⟨v,hv,hr⟩:=hs.env t _ he
 cases hr
 have hev:a.eval (.tmp t)= .bool b:=by simp[Act.eval,hv]
 exact wpIn_cond_split hev (fun e=>h1 e H ι a w hs) (fun e=>h2 e H ι a w hs)
theorem AGoR.cond_true{t:Nat}{x y:Code}(b:Bool)(he:s.env t=some (.bool b))(hb:b=true)(h:AGoR P l n x s Q):AGoR P l n (.cond (.tmp t) x y) s Q:=
 AGoR.cond he (fun _=>h) (fun h2=>by rw[hb]at h2;cases h2)
theorem AGoR.cond_false{t:Nat}{x y:Code}(b:Bool)(he:s.env t=some (.bool b))(hb:b=false)(h:AGoR P l n y s Q):AGoR P l n (.cond (.tmp t) x y) s Q:=
 AGoR.cond he (fun h2=>by rw[hb]at h2;cases h2) (fun _=>h)
theorem AGoR.block{id:Nat}{c:Code}(h:AGoR P l n c s (SF id Q)):AGoR P l n (.block id c) s Q:=by
 intro H ι a w hs;refine wpIn_block (wpIn_mono (h H ι a w hs) fun e a' w' hp=>?_);exact mw
theorem AGoR.ghost{c:Code}(hg:Ghost s s')(h:AGoR P l n c s' Q):AGoR P l n c s Q:=fun H ι a w hs=>by
 obtain⟨H',ι',h1,h2⟩:=hg H ι a w hs;exact wpIn_mono (h H' ι' a w h1) fun e a' w' hp=>Post.step hs.heap h1.heap h2 hp
theorem AGoR.sub{c:Code}(hg:Sub s' s)(h:AGoR P l n c s' Q):AGoR P l n c s Q:=AGoR.ghost (.of_sub hg) h
theorem AGoR.split{c:Code}{m:Nat}{e:Av}{h:Ac}(d:Nat){b:Bool}(he:e d=some (.bool b))(h1:b=true->AGoR P l n c ⟨m,Aa e d (.bool true),h⟩ Q)(h2:b=false->AGoR P l n c ⟨m,Aa e d (.bool false),h⟩ Q):AGoR P l n c ⟨m,e,h⟩ Q:=by
 exact fO
theorem AGoR.loop{γ:Type}{c:Code}(I:γ->Aj->Prop)(μ:γ->Nat)(g0:γ)(h0:I g0 s)
 (round: ∀g s,I g s->AGoR P l n c s (Cb (fun s'=>∃g',I g' s'/\μ g'<μ g) Q)):AGoR P l n (.loop c) s Q:=by
 intro H ι a w hs b k cs hro hb hr;have key: ∀m g s1 H1 ι1 a1 w1,μ g=m->I g s1->Sim H1 ι1 s1 a1 w1->Step H ι s.h w H1 ι1 s1.h w1->
  ∃e a' w',Post H ι s.h w Q e a' w'/\ArrivesIn (Machine.fenced P (Fr l)) P (lone (b.atR a1 (.code c:: .inLoop c::k)) cs w1) b k cs e a' w':=by
  intro m
  induction m using Nat.strongRecOn with
  | _ m ih=>
   intro g s1 H1 ι1 a1 w1 hn hI hs1 hst;obtain⟨e,a₂,w₂,hq,harr⟩:=round g s1 hI H1 ι1 a1 w1 hs1 b (.inLoop c::k) cs hro hb hr;obtain⟨s2,H2,ι2,q,r,t⟩:=hq;have t':=hst.trans hs.heap hs1.heap t
   cases e with
   | normal=>
    obtain⟨g',hI',hlt⟩:=q;obtain⟨e₂,a₃,w₃,hq₂,harr₂⟩:=ih (μ g') (hn▸hlt) g' s2 H2 ι2 a₂ w₂ rfl hI' r t';exact⟨e₂,a₃,w₃,hq₂,.of_steps (StepsIn.trans harr (.one (fenced_calm hb hr rfl) stepR_inLoop)) harr₂⟩
   | exit id=>exact⟨.exit id,a₂,w₂,⟨s2,H2,ι2,q,r,t'⟩,.pass (x:=.inLoop c) rfl (fun _ _=>.inl (by simp)) harr⟩
   | goto t=>exact⟨.goto t,a₂,w₂,⟨s2,H2,ι2,q,r,t'⟩,.pass (x:=.inLoop c) rfl (fun _ _=>.inl (by simp)) harr⟩
   | ret=>exact⟨.ret,a₂,w₂,⟨s2,H2,ι2,q,r,t'⟩,.pass (x:=.inLoop c) rfl (fun _ _=>.inl (by simp)) harr⟩
   | panic ch=>exact⟨.panic ch,a₂,w₂,⟨s2,H2,ι2,q,r,t'⟩,.pass (x:=.inLoop c) rfl (fun _ _=>.inl (by simp)) harr⟩
   | outgrown=>exact⟨.outgrown,a₂,w₂,⟨s2,H2,ι2,q,r,t'⟩,.pass (x:=.inLoop c) rfl (fun _ _=>.inl (by simp)) harr⟩
 obtain⟨e,a',w',hq,harr⟩:=key (μ g0) g0 s H ι a w rfl h0 hs (Step.refl _ _ _ _);exact⟨e,a',w',hq,.of_steps (.one (fenced_calm hb hr rfl) stepR_loop) harr⟩
theorem AGoR.loopI{γ:Type}{c:Code}(inv:γ->Aj)(F:γ->Prop)(μ:γ->Nat)(g0:γ)(h0:Sub (inv g0) s)(hF:F g0)
 (round: ∀g,F g->AGoR P l n c (inv g) (Cb (fun s'=>∃g',Sub (inv g') s'/\F g'/\μ g'<μ g) Q)):AGoR P l n (.loop c) s Q:=
 AGoR.loop (fun g s'=>Sub (inv g) s'/\F g) μ g0 ⟨h0,hF⟩ fun g s' hs=>AGoR.sub hs.1 ((round g hs.2).mono fun e s'' hq=>by
  cases e with
  | normal=>obtain⟨g',h1,h2,h3⟩:=hq;exact⟨g',⟨h1,h2⟩,h3⟩
  | _=>exact hq)
theorem AGoR.region{id:Nat}{ops:Array Oper}(hd:ops.toList.all KJ=true)(h:AOps P ops ops.toList s (fun s'=>Q .normal s')):AGoR P l n (.region id ops false) s Q:=fun H ι a w hs=>by
 have hpost: ∀e a2 w2,Post H ι s.h w (Cb (fun s'=>Q .normal s') fun _ _=>False) e a2 w2->Post H ι s.h w Q e a2 w2:=fun e a2 w2 hp=>by
  obtain⟨s',H',ι',q,r⟩:=hp
  cases e<;>first | exact⟨s',H',ι',q,r⟩ | exact q.elim
 have hlo: ¬LetsOut (Post H ι s.h w (Cb (fun s'=>Q .normal s') fun _ _=>False)):=fun⟨a,w,s',H',ι',q,r⟩=>q
 exact wpIn_mono (wpIn_region_list (Xv hlo _ hd (h H ι a w hs))) hpost
end
end Go.Proofs.YtbbfelelocccmaaGreat.Sv
namespace Go.Proofs.YtbbfelelocccmaaGreat.Sv
open Go Go.RowKit
def AObj.noMap:AObj->Bool
  | .map _=>false
  | .iter0=>false
  | _=>true
def NoMap(h:Ac):Prop:=∀b o,h b=some o->o.noMap=true
theorem NoMap.new:NoMap hNew:=fun b o h=>by cases h;rfl
theorem NoMap.put{h:Ac}(hh:NoMap h)(b:Nat){o:AObj}(ho:o.noMap=true):NoMap (hput h b o):=fun c q hq=>by
 by_cases hc:c=b
 . subst hc;rw[Aq]at hq;cases hq;exact ho
 . rw[AL _ _ hc]at hq;exact hh c q hq
theorem NoMap.none:NoMap hNone:=fun b o h=>by cases h
theorem HeapRel.grownO{H:Ay}{ι:Be}{h:Ac}{w w':World}{row:Option Nat}(hr:HeapRel H ι h w)(hm:NoMap h)(hg:w.grownBy w' row)(hrow: ∀r,row=some r->∃o:Obj,w.heap[r]?=some o/\o.isCells=false):HeapRel H ι h w':=by
 have key: ∀(b:Nat) (c:Array Value) (T:TypeId) (fr:Nat×Nat),w.heap[b]?=some (Obj.cells c T fr)->w'.heap[b]?=some (Obj.cells c T fr):=fun b c T fr hb=>by
  refine(hg.block b (Array.getElem?_eq_some_iff.1 hb).1 (fun e=>?_)).trans hb;obtain⟨o,ho,hc⟩:=hrow b e.symm;rw[hb]at ho;cases ho;cases hc
 refine⟨fun b c hb=>?_,hr.free,fun b o h1 h2=>?_,hr.inj,hr.glob⟩
 . obtain⟨T,fr,e⟩:=hr.know b c hb;exact⟨T,fr,key _ _ _ _ e⟩
 . obtain⟨r,e1,e2,e3⟩:=hr.obj b o h1 h2;refine⟨r,e1,?_,e3⟩
   cases o with
   | free=>trivial
   | map kvs=>have:=hm b _ h1;cases this
   | iter0=>have:=hm b _ h1;cases this
   | row p sz es=>
    obtain⟨r1,r2,r3,r4,r5,r6⟩:=e2;refine⟨r1,r2,r3,r4,r5,fun hsol=>?_⟩;obtain⟨c,T,⟨fr,q1,q2⟩,q3,q4⟩:=r6 hsol;exact⟨c,T,⟨fr,key _ _ _ _ q1,q2⟩,q3,q4⟩
theorem Step.grown{H:Ay}{ι:Be}{h:Ac}{w:World}{H':Ay}{ι':Be}{h':Ac}{w' w'':World}{row:Option Nat}(st:Step H ι h w H' ι' h' w')(hg:w'.grownBy w'' row)(hrow: ∀r,row=some r->w.heap.size<=r):Step H ι h w H' ι' h' w'' where
 size:=Nat.le_trans st.size hg.size
 os:=hg.os.trans st.os
 out:=hg.output.trans st.out
 keep:=fun rb hlt hno=>by
  refine(hg.block rb (Nat.lt_of_lt_of_le hlt st.size) (fun e=>?_)).trans (st.keep rb hlt hno);have:=hrow rb e.symm;omega
 kle:=st.kle
 knew:=st.knew
 lle:=st.lle
 lframe:=st.lframe
 newrb:=st.newrb
 dom:=st.dom
theorem Step.others{H:Ay}{ι:Be}{h:Ac}{w:World}{H':Ay}{ι':Be}{h':Ac}{w':World}(hr:HeapRel H ι h w)(hm:NoMap h)(st:Step H ι h w H' ι' h' w'):KeepsOthers w w':=
 ⟨st.size,fun k o hk ho=>by
  have hlt:=(Array.getElem?_eq_some_iff.1 hk).1;refine(st.keep k hlt ?_).trans hk
  rintro⟨b,q,r,h1,h2,h3,h4,h5⟩
  obtain⟨r',e1,e2,_⟩:=hr.obj b q h1 h2;rw[h3]at e1;cases e1
  cases q with
  | free=>cases h2
  | map kvs=>have:=hm b _ h1;cases this
  | iter0=>have:=hm b _ h1;cases this
  | row p sz es=>
   obtain⟨_,_,_,_,_,r6⟩:=e2;obtain⟨c,T,⟨fr,q1,_⟩,_,_⟩:=r6 h4;rw[h5]at q1;rw[hk]at q1;cases q1;cases ho⟩
theorem Step.of_sub{H:Ay}{ι:Be}{h h':Ac}{w:World}(hh:HSub h' h):Step H ι h w H ι h' w:=⟨Nat.le_refl _,rfl,rfl,fun _ _ _=>rfl,KLe.refl _,fun _ h=>.inl h,LLe.refl _,fun _ _=>rfl,fun _ _ h _=>.inl h,fun b hb=>by
 cases e:h' b with
 | none=>rfl
 | some o=>rw[hh b o e]at hb;cases hb⟩
section
variable {P : Program}
theorem aH{α:Type}{s:Aj}{H:Ay}{ι:Be}{a:Act}{w:World}(hs:Sim H ι s a w){g:Operand}{p d ida:Nat}{oa:Oper}{body:Code}{Q:Exit->Act->World->Prop}{gf:Nat}{cs:List AV}
 (hoa:oa.op= .assign (.tmp p)) (hda:oa.dst=some d) (hga:oa.guard=none) (hp:p<s.n) (hd:d<s.n) (hpd:p≠d)
 (hg:Al s.env g=some (.fn (.func gf) [] cs)) (eg: ∀args w,(callFunc gf args).run P w= .ok (.enter gf args) w)
 {enc:α->Value} {av:α->AV} (hav: ∀x H ι,Rel H ι (av x) (enc x)) {S:List α->Prop} {N:Nat}
 (hseq: ∀lb:Array Value,lb.size=cs.length->(∀(j:Nat) (x:AV) (v:Value),cs[j]?=some x->lb[j]?=some v->Rel H ι x v)->SeqStopsK Fence.wide 3 P gf lb (fun x=> #[enc x]) (fun _ _=>True) S (fun _=>True) N w)
 (e0:Av) (hI:List α->Ac) (he0:ESub e0 s.env) (hm0:NoMap s.h) (hm: ∀pre,NoMap (hI pre)) (h0:HSub (hI []) s.h)
 (hbody: ∀(l:Nat) (pre:List α) (x:α),pre.length<N->AGoR P l 2 body ⟨s.n,Aa (Aa e0 p (av x)) d (av x),hI pre⟩ (Cb (fun s'=>HSub (hI (pre++[x])) s'.h) (fun _ _=>False)))
 (hdone: ∀(D:Nat) (xs:List α) (W:World) (H':Ay) (ι':Be),w.heap.size<=D->S xs->HeapRel H' ι' (hI xs) W->Step H ι s.h w H' ι' (hI xs) W->W.heap[D]?=some (.deferred (some []))->Q .normal {tmps:=a.tmps,defers:=[{target:=.collected D,args:= #[]}]} W):
 (Code.rangeFunc g #[p] (.region ida #[oa] false) body).wp P Q a w:=by
 obtain⟨us,lb,hge,hus,hlb,_,hrl⟩: ∃us lb,a.eval g= .func (.func gf) us lb/\([]:List AV).length=us.size/\cs.length=lb.size/\True/\∀(j:Nat) (x:AV) (v:Value),cs[j]?=some x->lb[j]?=some v->Rel H ι x v:=by
  obtain⟨us,vs,e1,e2,e3,_,e5⟩:=(Am hs hg).fn_inv;exact⟨us,vs,e1,e2,e3,trivial,e5⟩
 have hus':us= #[]:=by
  cases us with
  | mk l=>cases l with
   | nil=>rfl
   | cons y l=>simp at hus
 subst hus';refine wpIn_wide (n:=4).1 ?_;have hpn:p<a.tmps.size:=by rw[hs.n];exact hp
 have hdn:d<a.tmps.size:=by rw[hs.n];exact hd
 have hI0: ∃H' ι',HeapRel H' ι' (hI []) w/\Step H ι s.h w H' ι' (hI []) w:=⟨H,ι,hs.heap.sub h0,Step.of_sub h0⟩
 refine wpIn_rangeFunc_ownF (F:=Fence.wide) (n:=4) (α:=α) (Q:=Q) (a:=a) (w:=w) (w0:=w) rfl (by decide) hge trivial eg (hseq lb hlb.symm hrl) (fun _ _=>trivial) (fun _ _ _ _ _ _ _ _=>trivial) (Below.refl _ _) (fun _=>rfl)
  (fun pre W=>∃H' ι',HeapRel H' ι' (hI pre) W/\Step H ι s.h w H' ι' (hI pre) W) (fun _ _ _=>False) ?_ (fun _ _ _ _ _ h _ _=>h) hI0
  (fun x=>{tmps:=(a.tmps.setIfInBounds p (enc x)).setIfInBounds d (enc x),defers:=[]}) ?_ ?_ ?_ (fun _ _ _ _ _ _ h _=>h.elim)
 . rintro pre W W' row ⟨H',ι',k1,k2⟩ hg' hr
   exact⟨H',ι',k1.grownO (hm pre) hg' (fun r e=>(hr r e).2),k2.grown hg' (fun r e=>(hr r e).1)⟩
 . intro l x W K hK;refine wpIn_region_list ?_;show wpListIn _ _ P _ _ [oa] _ W;unfold wpListIn;have hw:Region.wanted oa (yielded #[oa] (((#[p].zip #[enc x]).foldl (fun t (q:Nat×Value)=>t.setIfInBounds q.1 q.2) a.tmps)))=true:=by simp[Region.wanted,hga]
   rw[if_pos hw];refine Xq (by unfold KJ;rw[hoa]) ?_;unfold Oper.wp;simp only[execOp,hoa,Sem.run_pure,Oper.upon];have e1:(#[p].zip #[enc x]).foldl (fun t (q:Nat×Value)=>t.setIfInBounds q.1 q.2) a.tmps=a.tmps.setIfInBounds p (enc x):=by simp
   have e2:({tmps:=a.tmps.setIfInBounds p (enc x),defers:=[]}:Act).eval (.tmp p)=enc x:=by
    simp[Act.eval,hpn]
   show K _ W;rw[hda];simpa[Act.put,Act.eval,hpn]using hK
 . rintro l pre x W ⟨H',ι',k1,k2⟩ hlt
   have hsim:Sim H' ι' ⟨s.n,Aa (Aa e0 p (av x)) d (av x),hI pre⟩ {tmps:=(a.tmps.setIfInBounds p (enc x)).setIfInBounds d (enc x),defers:=[]} W:=by
    refine⟨by simp[hs.n],rfl,fun t y hy=>?_,k1⟩
    by_cases htd:t=d
    . subst htd;have hy':Aa (Aa e0 p (av x)) t (av x) t=some y:=hy;rw[Cx]at hy';cases hy';exact⟨enc x,by simp[hdn],hav x _ _⟩
    . have hy':Aa (Aa e0 p (av x)) d (av x) t=some y:=hy;rw[D5 _ _ htd]at hy'
      by_cases htp:t=p
      . subst htp;rw[Cx]at hy';cases hy';refine⟨enc x,?_,hav x _ _⟩;show((a.tmps.setIfInBounds t (enc x)).setIfInBounds d (enc x))[t]?=_;rw[Array.getElem?_setIfInBounds_ne (fun e=>htd e.symm)];simp[hpn]
      . rw[D5 _ _ htp]at hy';obtain⟨v,v1,v2⟩:=hs.env t y (he0 t y hy');refine⟨v,?_,v2.mono k2.kle k2.lle⟩;show((a.tmps.setIfInBounds p (enc x)).setIfInBounds d (enc x))[t]?=_;rw[Array.getElem?_setIfInBounds_ne (fun e=>htd e.symm),Array.getElem?_setIfInBounds_ne (fun e=>htp e.symm)];exact v1
   refine wpIn_mono (hbody l pre x hlt H' ι' _ W hsim) fun e a' W' hp=>?_
   obtain⟨s',H2,ι2,q,r,t⟩:=hp
   cases e with
   | normal=>
    have t2:Step H' ι' (hI pre) W H2 ι2 (hI (pre++[x])) W':=t.trans k1 r.heap (Step.of_sub q);exact⟨t.others k1 (hm pre),trivial,H2,ι2,r.heap.sub q,k2.trans hs.heap k1 t2⟩
   | _=>exact q.elim
 . rintro D xs W hD hS ⟨H',ι',k1,k2⟩ hK
   have:a.defers=[]:=hs.d;have ha:{a with defers:={target:=.collected D,args:= #[]}::a.defers}=({tmps:=a.tmps,defers:=[{target:=.collected D,args:= #[]}]}:Act):=by rw[this]
   rw[ha];exact hdone D xs W H' ι' hD hS k1 k2 hK
def QD(ds:List Deferred)(K:Act->World->Prop)(a:Act)(w:World):Prop:=∃tm,a={tmps:=tm,defers:=ds}/\K {tmps:=tm,defers:=[]} w
theorem cd(tm:Array Value)(ds:List Deferred)(d:Option Nat)(v:Value): ∃tm',({tmps:=tm,defers:=ds}:Act).put d v={tmps:=tm',defers:=ds}/\({tmps:=tm,defers:=[]}:Act).put d v={tmps:=tm',defers:=[]}:=by
 cases d with
 | none=>exact⟨tm,rfl,rfl⟩
 | some d=>exact⟨tm.setIfInBounds d v,rfl,rfl⟩
def F2(o:Oper):Bool:=match o.op with
  | .load .. | .store .. =>true
  | _=>false
theorem Vs{o:Oper}(hd:F2 o=true){ρ:Operand->Value}{w w':World}{x:Next}(h:(execOp ρ o).run P w= .ok x w'):(∃v,x= .value v)\/x= .skip:=by
 unfold F2 at hd;unfold execOp at h
 cases ho:o.op<;>rw[ho]at hd h<;>first |(cases hd;done) | skip
 . simp only[Sem.run_bind,Sem.run_pure]at h;generalize(Instr.loadAt _ _).run P w=r at h
   cases r with
   | ok v w1=>simp only[Result.andThen_ok]at h;cases h;exact .inl ⟨v,rfl⟩
   | halt y w1=>cases h
 . simp only[Sem.run_bind,Sem.run_pure]at h;generalize(Instr.storeAt _ _ _).run P w=r at h
   cases r with
   | ok v w1=>simp only[Result.andThen_ok]at h;cases h;exact .inr rfl
   | halt y w1=>cases h
theorem gI{o:Oper}{tm:Array Value}{ds:List Deferred}{w:World}{K:Act->World->Prop}{Q:Exit->Act->World->Prop}(hd:F2 o=true)(h:o.wp P {tmps:=tm,defers:=[]} w K Q):o.wp P {tmps:=tm,defers:=ds} w (QD ds K) (fun e=>QD ds (Q e)):=by
 unfold Oper.wp at h |-;have e:(execOp ({tmps:=tm,defers:=ds}:Act).eval o)=execOp ({tmps:=tm,defers:=[]}:Act).eval o:=by
  congr 1
 rw[e];have hnd: ∀x w',(execOp ({tmps:=tm,defers:=[]}:Act).eval o).run P w= .ok x w'->(∃v,x= .value v)\/x= .skip:=fun x w' hx=>Vs hd hx
 generalize(execOp ({tmps:=tm,defers:=[]}:Act).eval o).run P w=res at h hnd |-;have hput: ∀v w',K (({tmps:=tm,defers:=[]}:Act).put o.dst v) w'->QD ds K (({tmps:=tm,defers:=ds}:Act).put o.dst v) w':=fun v w' hk=>by
  obtain⟨tm',e1,e2⟩:=cd tm ds o.dst v;rw[e2]at hk;exact⟨tm',e1,hk⟩
 cases res with
 | ok x w'=>
  rcases hnd x w' rfl with⟨v,rfl⟩ | rfl
  . exact hput v w' h
  . exact hput _ w' h
 | halt x w'=>
  cases x with
  | panic v=>exact⟨tm,rfl,h⟩
  | _=>exact h.elim
theorem Sy{ops:Array Oper}{ds:List Deferred}{Q:Exit->Act->World->Prop}(hq: ¬LetsOut Q)(hd: ∀(i:Nat) o,ops[i]?=some o->F2 o=true): ∀(fuel:Nat) (L:Array Bool) (tm:Array Value) (w:World),wpAny P .any ops Q fuel L {tmps:=tm,defers:=[]} w->wpAny P .any ops (fun e=>QD ds (Q e)) fuel L {tmps:=tm,defers:=ds} w
 | 0,L,tm,w,h=>⟨h.1,tm,rfl,h.2⟩
 | fuel+1,L,tm,w,h=>by
  refine⟨fun h0=>⟨tm,rfl,h.1 h0⟩,fun i hi=>?_⟩;have h1:=h.2 i hi;unfold wpOp at h1 |-;have go: ∀a w',QD ds (wpAny P .any ops Q fuel (L.setIfInBounds i true)) a w'->wpAny P .any ops (fun e=>QD ds (Q e)) fuel (L.setIfInBounds i true) a w':=fun a w' ⟨tm',e,hx⟩=>by
   subst e;exact Sy hq hd fuel _ tm' w' hx
  cases ho:ops[i]? with
  | none=>rw[ho]at h1;exact Sy hq hd fuel _ tm w h1
  | some o=>
   rw[ho]at h1;simp only at h1 |-
   by_cases hw:Region.wanted o (yielded ops tm)=true
   . rw[if_pos hw]at h1 |-;rcases h1 with h1 |⟨_,h1⟩
     . exact .inl (Oper.wp_mono (fun a w' hx=>go a w' hx) (gI (hd i o ho) h1))
     . exact absurd h1 hq
   . rw[if_neg hw]at h1 |-;obtain⟨tm',e1,e2⟩:=cd tm ds o.dst undef;rw[e2]at h1;rw[e1];exact Sy hq hd fuel _ tm' w h1
theorem DOps.any{ops:Array Oper}{n:Nat}{e:Av}{h:Ac}{K:Aj->Prop}(hd:DOps P ops n ops.toList e h [] K){H:Ay}{ι:Be}{a:Act}{w:World}(hs:Sim H ι ⟨n,e,h⟩ a w):
 wpAny P .any ops (Post H ι h w (Cb K fun _ _=>False)) ops.size (Array.replicate ops.size false) a {w with drawn:=w.drawn+1}:=by
 obtain⟨cs,e',h',h1,h2,h3⟩:=hd;have hgrow: ∀rb,rb<w.heap.size->({w with drawn:=w.drawn+1}:World).heap[rb]?=w.heap[rb]?:=fun _ _=>rfl
 have hr':HeapRel H ι h {w with drawn:=w.drawn+1}:=hs.heap.grow hgrow;have hst:Step H ι h w H ι h {w with drawn:=w.drawn+1}:=Step.grow hgrow (Nat.le_refl _) rfl rfl;have hL0: ∀i,(Array.replicate ops.size false).getD i false=false:=fun i=>by
  by_cases hi:i<ops.size
  . simp[hi]
  . simp[hi]
 have hm0: ∀{V:Type} (l:List (U4 V)) (g:Nat->V),B4 (fun i=>(Array.replicate ops.size false).getD i false) l 0 g=g:=fun l g=>funext fun x=>E2 fun i u _ _=>hL0 _
 refine Gd (fun e a' w' hp=>?_) _ _ _ _ (Q8 (I:=fun _=>True) (D:=[]) (K:=K) h1 trivial (by simpa using h2) h3 hs.heap ops.size (Array.replicate ops.size false) H ι a {w with drawn:=w.drawn+1}
  ⟨by simp,fun i hi=>by rw[hL0]at hi;cases hi⟩ (by unfold todo;simp) hs.d (by rw[hm0,hm0,hs.d0];exact⟨hs.n,hs.d,hs.env,hr'⟩) (by rw[hm0];exact hst))
 obtain⟨hD,s',H',ι',q,r,t⟩:=hp;have e2:{a' with defers:=[]}=a':=by cases a';simp only at hD;subst hD;rfl
 rw[e2]at r;exact⟨s',H',ι',q,r,t⟩
theorem fT{T:Nat->Option Ar}(hT:Cj P T)(hmx:P.follows .mixedOrders=true){fn:Func}{ops:Array Oper}{id D:Nat}{s:Aj}{H0 H:Ay}{ι0 ι:Be}{h0:Ac}{tm:Array Value}{w0 w:World}{R:AV->Ac->Prop}
 (hld: ∀(i:Nat) o,ops[i]?=some o->F2 o=true) (hs:Sim H ι s {tmps:=tm,defers:=[]} w) (hnm:NoMap s.h) (hr0:HeapRel H0 ι0 h0 w0) (hst:Step H0 ι0 h0 w0 H ι s.h w) (hD:w0.heap.size<=D) (hK:w.heap[D]?=some (.deferred (some [])))
 (hd:DOps P ops s.n ops.toList s.env s.h [] (fun s'=>NoMap s'.h/\∃xs,G2 T s' fn.results.toList xs/\R (FJ xs) s'.h)):
 (Code.seq (.region id ops true) .ret).wp P (bodyPostM Fence.wide 3 P fn (fun e w'=>∃v r h' H' ι',e= .returned v/\R r h'/\Rel H' ι' r v/\HeapRel H' ι' h' w'/\Step H0 ι0 h0 w0 H' ι' h' w')) {tmps:=tm,defers:=[{target:=.collected D,args:= #[]}]} w:=by
 have hlo: ¬LetsOut (Post H ι s.h w (Cb (fun s'=>NoMap s'.h/\∃xs,G2 T s' fn.results.toList xs/\R (FJ xs) s'.h) fun _ _=>False)):=fun⟨a,w,s',H',ι',q,r⟩=>q
 refine wp_seq (wp_mono (wp_region_any hmx (Sy (ds:=[{target:=.collected D,args:= #[]}]) hlo hld _ _ _ _ (DOps.any (K:=fun s'=>NoMap s'.h/\∃xs,G2 T s' fn.results.toList xs/\R (FJ xs) s'.h) hd hs))) fun e a' w' hp=>?_);obtain⟨tm',rfl,s',H',ι',q,r,t⟩:=hp
 cases e with
 | normal=>
  obtain⟨qn,xs,q1,q2⟩:=q;refine wp_ret ?_;have hoth:=t.others hs.heap hnm;have hK':=hoth.same D _ hK rfl;have hg:=grownBy_putObj' w' D (.deferred none);have hrow: ∀r,some D=some r->∃o:Obj,w'.heap[r]?=some o/\o.isCells=false:=fun r e=>by cases e;exact⟨_,hK',rfl⟩
  have hr2:=r.heap.grownO qn hg hrow;have hst2:Step H0 ι0 h0 w0 H' ι' s'.h (w'.putObj D (.deferred none)):=(hst.trans hr0 hs.heap t).grown hg (fun r e=>by cases e;exact hD);refine⟨by simp,.inl ⟨D,_,rfl,run_takeDeferred hK',?_⟩⟩;obtain⟨v,e1,e2⟩:=Mg hT (s:=s') (a:={tmps:=tm',defers:=[]}) ⟨r.n,rfl,r.env,hr2⟩ q1;exact⟨v,e2,v,_,_,H',ι',rfl,q2,e1,hr2,hst2⟩
 | _=>exact q.elim
end
end Go.Proofs.YtbbfelelocccmaaGreat.Sv
namespace Go.Proofs.YtbbfelelocccmaaGreat.Sv
open Go Go.RowKit
section
variable {P : Program}
def AW(P:Program)(Q:Exit->Act->World->Prop)(H0:Ay)(ι0:Be)(h0:Ac)(w0:World)(c:Code)(s:Aj):Prop:=
  ∀H ι a w,Sim H ι s a w->Step H0 ι0 h0 w0 H ι s.h w->c.wp P Q a w
def AD(K:Act->World->Prop)(H0:Ay)(ι0:Be)(h0:Ac)(w0:World)(s:Aj):Prop:=
  ∀H ι tm w D,Sim H ι s {tmps:=tm,defers:=[]} w->Step H0 ι0 h0 w0 H ι s.h w->w0.heap.size<=D->w.heap[D]?=some (.deferred (some []))->K {tmps:=tm,defers:=[{target:=.collected D,args:= #[]}]} w
variable {Q : Exit -> Act -> World -> Prop} {H0 : Ay} {ι0 : Be} {h0 : Ac} {w0 : World} {s s' : Aj} {K : Act -> World -> Prop}
theorem AW.seq(hr:HeapRel H0 ι0 h0 w0){x y:Code}(h:AGo P x s (Cb (fun s'=>AW P Q H0 ι0 h0 w0 y s') (fun _ _=>False))):AW P Q H0 ι0 h0 w0 (.seq x y) s:=fun H ι a w hs hst=>by
 refine wp_seq (wp_mono (h H ι a w hs) fun e a' w' hp=>?_);obtain⟨s',H',ι',q,r,t⟩:=hp
 cases e with
 | normal=>exact q H' ι' a' w' r (hst.trans hr hs.heap t)
 | _=>exact q.elim
theorem iT{x y:Code}(h:AW P (fun e a w=>match e with
 | .normal=>y.wp P Q a w
 | e=>Q e a w) H0 ι0 h0 w0 x s):AW P Q H0 ι0 h0 w0 (.seq x y) s:=fun H ι a w hs hst=>by
 refine wp_seq (wp_mono (h H ι a w hs hst) fun e a' w' hp=>?_)
 cases e<;>exact hp
theorem AD.ghost(hr:HeapRel H0 ι0 h0 w0)(hg:Ghost s s')(h:AD K H0 ι0 h0 w0 s'):AD K H0 ι0 h0 w0 s:=fun H ι tm w D hs hst hD hK=>by
 obtain⟨H',ι',g1,g2⟩:=hg H ι _ w hs;exact h H' ι' tm w D g1 (hst.trans hr hs.heap g2) hD hK
theorem AW.range(hr:HeapRel H0 ι0 h0 w0){α:Type}{g:Operand}{p d ida b0:Nat}{oa:Oper}{body:Code}{gf:Nat}{cs:List AV}
 (hoa:oa.op= .assign (.tmp p)) (hda:oa.dst=some d) (hga:oa.guard=none) (hp:p<s.n) (hd:d<s.n) (hpd:p≠d)
 (hg:Al s.env g=some (.fn (.func gf) [] cs)) (eg: ∀args w,(callFunc gf args).run P w= .ok (.enter gf args) w)
 (enc:α->Value) (av:α->AV) (hav: ∀x H ι,Rel H ι (av x) (enc x)) {S:List α->Prop} {N:Nat}
 (hseq: ∀H ι w,HeapRel H ι s.h w->∀lb:Array Value,lb.size=cs.length->(∀(j:Nat) (x:AV) (v:Value),cs[j]?=some x->lb[j]?=some v->Rel H ι x v)->SeqStopsK Fence.wide 3 P gf lb (fun x=> #[enc x]) (fun _ _=>True) S (fun _=>True) N w)
 (e0:Av) (hI:List α->Ac) (he0:ESub e0 s.env) (hm0:NoMap s.h) (hm: ∀pre,NoMap (hI pre)) (h1:HSub (hI []) s.h)
 (hbody: ∀(l:Nat) (pre:List α) (x:α),pre.length<N->AGoR P l 2 body ⟨s.n,Aa (Aa e0 p (av x)) d (av x),hI pre⟩ (Cb (fun s'=>HSub (hI (pre++[x])) s'.h) (fun _ _=>False)))
 (hdone: ∀xs,S xs->AD (Q .normal) H0 ι0 h0 w0 ⟨s.n,s.env,hI xs⟩):
 AW P Q H0 ι0 h0 w0 (.block b0 (.rangeFunc g #[p] (.region ida #[oa] false) body)) s:=fun H ι a w hs hst=>by
 refine wp_block ?_;refine aH hs hoa hda hga hp hd hpd hg eg hav (hseq H ι w hs.heap) e0 hI he0 hm0 hm h1 hbody fun D xs W H' ι' hD hS hr' hst' hK=>?_
 show Q .normal _ W;refine hdone xs hS H' ι' _ W D ⟨hs.n,rfl,fun t x hx=>?_,hr'⟩ (hst.trans hr hs.heap hst') (Nat.le_trans hst.size hD) hK;obtain⟨v,e1,e2⟩:=hs.env t x hx;exact⟨v,e1,e2.mono hst'.kle hst'.lle⟩
theorem AGoR.join{l n:Nat}{R:Exit->Aj->Prop}{γ:Type}{c:Code}(inv:γ->Aj)(F:γ->Prop)(h:AGoR P l n c s (Cb (fun s'=>∃g,Sub (inv g) s'/\F g) R))(k: ∀g,F g->R .normal (inv g)):AGoR P l n c s R:=fun H ι a w hs=>
 wpIn_mono (h H ι a w hs) fun e a' w' hp=>by
  exact mq
theorem Ghost.freezeP{n:Nat}{e:Av}{h:Ac}(t b:Nat){sz:Nat}{cs:List AV}(ht:e t=some (.ptr b 1 0 0))(hb:h b=some (.row true sz [cs])):Ghost ⟨n,e,h⟩ ⟨n,Aa e t (.loc cs),hrm h b⟩:=fun H ι a w hs=>by
 have hr:=hs.heap;obtain⟨r,hl,⟨r1,r2,r3,r4,r5,r6⟩,r7⟩:=hr.obj b _ hb rfl;have hsol:r.csz≠0:=by simp at r4;omega
 have hsubh: ∀x o,hrm h b x=some o->h x=some o:=fun x o hx=>by
  exact aD
 have hdom: ∀x,h x=none->hrm h b x=none:=fun x hx=>by
  cases e:hrm h b x with
  | none=>rfl
  | some o=>rw[hsubh x o e]at hx;cases hx
 obtain⟨c,TT,w1,w2,w3⟩:=r6 hsol;have hnone:H r.rb=none:=r7 hsol;have hkle:KLe H (Kb H r.rb c):=fun x c' e=>by
  rw[EC _ _ (fun hx=>by subst hx;rw[hnone]at e;cases e)];exact e
 have hsub:=hr.sub hsubh;have hheap:HeapRel (Kb H r.rb c) ι (hrm h b) w:=by
  refine⟨fun x c' e=>?_,hsub.free,fun x o h1 h2=>?_,hsub.inj,hr.glob.mono hkle⟩
  . by_cases hx:x=r.rb
    . subst hx;rw[F5]at e;cases e;obtain⟨fr,w1',_⟩:=w1;exact⟨TT,fr,w1'⟩
    . rw[EC _ _ hx]at e;exact hr.know x c' e
  . obtain⟨r',e1,e2,e3⟩:=hsub.obj x o h1 h2;exact mn
 have hstep:Step H ι h w (Kb H r.rb c) ι (hrm h b) w:=by
  refine⟨Nat.le_refl _,rfl,rfl,fun _ _ _=>rfl,hkle,fun x hx=>?_,LLe.refl _,fun _ _=>rfl,fun _ _ h _=>.inl h,hdom⟩
  by_cases hx':x=r.rb
  . subst hx';exact .inr (.inr ⟨b,_,r,hb,rfl,hl,hsol,rfl⟩)
  . rw[EC _ _ hx']at hx;exact .inl hx
 refine⟨_,ι,⟨hs.n,hs.d,fun u y hy=>?_,hheap⟩,hstep⟩
 by_cases hu:u=t
 . subst hu;simp only[Cx,Option.some.injEq]at hy;subst hy;obtain⟨v,h1,h2⟩:=hs.env u _ ht;have hv:=h2.ptr_live hl r3;subst hv;refine⟨_,h1,.loc _ _ _ _ c (fun k=>(c[0*r.sz+0+k]?).getD undef) (F5 _ _ _) (fun j x hj=>?_) (fun j x hj=>?_) (fun j x hj=>?_)⟩
   . obtain⟨u,f1,_⟩:=w3.2 0 cs j x rfl hj;have f1':c[0*r.sz+0+j]?=some u:=by rw[<-f1];congr 1;rw[r1];omega
     show c[0*r.sz+0+j]?=some ((c[0*r.sz+0+j]?).getD undef);rw[f1'];rfl
   . obtain⟨u,f1,f2,_⟩:=w3.2 0 cs j x rfl hj;have f1':c[0*r.sz+0+j]?=some u:=by rw[<-f1];congr 1;rw[r1];omega
     show Rel _ _ _ ((c[0*r.sz+0+j]?).getD undef);rw[f1'];exact f2.mono hkle (LLe.refl _)
   . obtain⟨u,_,_,f3⟩:=w3.2 0 cs j x rfl hj;exact f3
 . simp only[D5 _ _ hu]at hy;obtain⟨v,h1,h2⟩:=hs.env u y hy;exact⟨v,h1,h2.mono hkle (LLe.refl _)⟩
theorem ft{h:Ac}(hh:NoMap h)(b:Nat):NoMap (hrm h b):=fun c q hq=>by
 by_cases hc:c=b
 . subst hc;rw[Gw]at hq;cases hq
 . rw[E5 _ hc]at hq;exact hh c q hq
abbrev jz(P:Program)(fn:Func)(R:AV->Ac->Prop)(H:Ay)(ι:Be)(h:Ac)(w:World):Exit->Act->World->Prop:=
  bodyPostM Fence.wide 3 P fn (fun e w'=>∃v r h' H' ι',e= .returned v/\R r h'/\Rel H' ι' r v/\HeapRel H' ι' h' w'/\Step H ι h w H' ι' h' w')
theorem Pn{f:FuncId}{fn:Func}{c:Code}{args:List AV}{h:Ac}{R:AV->Ac->Prop}(hf:P.funcs[f]?=some fn)(hb:fn.body=some c){n:Nat}(hn:args.length+(fn.ntmps-args.length)=n)
 (hg: ∀H ι w,HeapRel H ι h w->AW P (jz P fn R H ι h w) H ι h w c ⟨n,G9 args,h⟩):ACall P f args h R:=by
 intro H ι w vs ha hr;have hs:Sim H ι ⟨n,G9 args,h⟩ {tmps:=vs++Array.replicate (fn.ntmps-vs.size) undef,defers:=[]} w:=by
  exact my
 exact callsIn_wide.1 (callsIn_of_wp_marks (F:=Fence.wide) (n:=3) hf hb trivial (wpIn_wide.2 (hg H ι w hr H ι _ w hs (Step.refl _ _ _ _))))
theorem iV{T:Nat->Option Ar}(hT:Cj P T)(hmx:P.follows .mixedOrders=true){fn:Func}{ops:Array Oper}{id:Nat}{R:AV->Ac->Prop}(hr:HeapRel H0 ι0 h0 w0)
 (hld: ∀(i:Nat) o,ops[i]?=some o->F2 o=true) (hnm:NoMap s.h)
 (hd:DOps P ops s.n ops.toList s.env s.h [] (fun s'=>NoMap s'.h/\∃xs,G2 T s' fn.results.toList xs/\R (FJ xs) s'.h)):
 AD (fun a w=>(Code.seq (.region id ops true) .ret).wp P (jz P fn R H0 ι0 h0 w0) a w) H0 ι0 h0 w0 s:=fun H ι tm w D hs hst hD hK=>
 fT hT hmx hld hs hnm hr hst hD hK hd
theorem ap{ops:Array Oper}{o:Oper}{rest:List Oper}{n:Nat}{e:Av}{h:Ac}{K:Aj->Prop}(d:Nat){v:Value}(hd:o.dst=some d)(ho:o.op= .assign (.const v))(hg:o.guard=none)(he:e d=none)(hr:AOps P ops rest ⟨n,e,h⟩ K):AOps P ops (o::rest) ⟨n,e,h⟩ K:=by
 intro H ι a w hs;unfold wpList;rw[if_pos (by simp[Region.wanted,hg])];refine .inl ?_;unfold Oper.wp;simp only[execOp,ho,Sem.run_pure];refine hr H ι _ w ?_;rw[hd];refine⟨by simp[Act.put,hs.n],hs.d,fun t x hx=>?_,hs.heap⟩;have hne:d≠t:=fun e2=>by subst e2;rw[show e d=some x from hx]at he;cases he
 obtain⟨v',e1,e2⟩:=hs.env t x hx;exact⟨v',by simp only[Act.put];rw[Array.getElem?_setIfInBounds_ne hne];exact e1,e2⟩
end
end Go.Proofs.YtbbfelelocccmaaGreat.Sv
namespace Go.Proofs.YtbbfelelocccmaaGreat.Sv
open Go Go.RowKit Go.Shelf
abbrev Ma(N:Nat):={k:Nat//k<N}
def leftOf:Value->Nat
  | .int _ i=>(i+1).toNat
  | _=>0
theorem bA(k:Nat):(List.range (k+1)).reverse=k::(List.range k).reverse:=by
 rw[List.range_succ,List.reverse_append];rfl
theorem iB(l N b off:Nat)(hN:N<=1000000000)(J Jx:List (Ma N)->World->Prop)
 (hY: ∀pre (x:Ma N) W,J pre W->pre.length<N->YieldAt Fence.wide 2 Tryz.prog l #[.int .i64 (x.1:Int)] W fun e W'=>
  (e= .returned (.bool true)/\J (pre++[x]) W'/\True)\/(e= .returned (.bool false)/\Jx (pre++[x]) W'))
 (W:World) (hB:W.cell? ⟨b,off,none⟩=some (.int .i64 (N:Int))) (h0:J [] W):
 CallsIn Fence.wide 3 Tryz.prog 110 #[.func (.yield l) #[] #[],.pointer (some ⟨b,off,none⟩)] W fun e W'=>(∃v,e= .returned v)/\
  ((∃xs:List (Ma N),xs.map (·.1)=(List.range N).reverse/\J xs W')\/(∃pre,True/\Jx pre W')):=by
 refine callsIn_of_wp Tryz.func110 rfl trivial ?_ rfl;simp only[Tryz.ntmps110,List.size_toArray,List.length_cons,List.length_nil,Nat.reduceAdd,Nat.reduceSub,Array.replicate_succ,Array.replicate_zero,List.push_toArray,List.append_toArray,List.nil_append,List.cons_append]
 gi_wp2
 gi_loopw [3] (fun p wr=>∃(m:Nat) (pre:List (Ma N)),p= .int .i64 ((m:Int)-1)/\pre.map (·.1)++(List.range m).reverse=(List.range N).reverse/\J pre wr)
  (fun p wr=>leftOf p)
 case atStart=>
  exact⟨N,[],rfl,rfl,h0⟩
 case round=>
  obtain⟨m,pre,rfl,hx,hJs⟩:=hrel;have hlen:=congrArg List.length hx;simp only[List.length_append,List.length_map,List.length_reverse,List.length_range]at hlen
  cases m with
  | zero=>
   gi_wp2
   exact⟨rfl,_,results_none rfl _ _ _,⟨_,rfl⟩,.inl ⟨pre,by simpa using hx,hJs⟩⟩
  | succ k=>
   have hk:k<N:=by omega
   obtain⟨fn,tmps,assign,body,hy,hR⟩:=hY pre ⟨k,hk⟩ wr hJs (by omega);dsimp only at hy
   gi_wp2
   refine hR.mono ?_
   rintro e W3 (⟨rfl,hJ3,_⟩ |⟨rfl,hJx3⟩)
   . gi_wp2
     refine⟨⟨k,pre++[⟨k,hk⟩],rfl,?_,hJ3⟩,?_⟩
     . rw[List.map_append,<-hx,bA];simp only[List.map_cons,List.map_nil,List.append_assoc,List.cons_append,List.nil_append]
     . show((k:Int)-1+1).toNat<(((k+1:Nat):Int)-1+1).toNat;omega
   . gi_wp2
     exact⟨rfl,_,results_none rfl _ _ _,⟨_,rfl⟩,.inr ⟨_,trivial,hJx3⟩⟩
theorem Wm{N:Nat}(hN:N<=1000000000){H:Ay}{ι:Be}{h:Ac}{w:World}(hr:HeapRel H ι h w)(lb:Array Value)(hl:lb.size=[AV.loc [.int .i64 (N:Int)]].length)
 (hlb: ∀(j:Nat) (x:AV) (v:Value),[AV.loc [.int .i64 (N:Int)]][j]?=some x->lb[j]?=some v->Rel H ι x v):
 SeqStopsK Fence.wide 3 Tryz.prog 110 lb (fun x:Ma N=> #[.int .i64 (x.1:Int)]) (fun _ _=>True) (fun xs=>xs.map (·.1)=(List.range N).reverse) (fun _=>True) N w:=by
 intro l J Jx W hB hJ hJx hY h0;obtain⟨v,hv⟩:=(⟨lb[0]'(by rw[hl];exact Nat.zero_lt_one),Array.getElem?_eq_getElem _⟩: ∃v,lb[0]?=some v);have hlb2:lb= #[v]:=by
  cases lb with
  | mk L=>cases L with
   | nil=>simp at hv
   | cons y L=>cases L with
    | nil=>simp at hv;rw[hv]
    | cons z L=>simp at hl
 subst hlb2;obtain⟨b,off,c,vals,rfl,hb,hcv,hcr,_⟩:=(hlb 0 _ v rfl hv).loc_inv;have e1:=hcv 0 _ rfl;have e2:=hcr 0 _ rfl
 cases e2_:vals 0 with
 | int k i=>
  rw[e2_]at e2 e1
  cases e2
  obtain⟨T,fr,e3⟩:=hr.know b c hb;have e4:W.heap[b]?=some (.cells c T fr):=by
   have:=hB.block b (Array.getElem?_eq_some_iff.1 e3).1;exact this.trans e3
  refine(iB l N b off hN J Jx hY W ?_ h0).mono ?_
  . unfold World.cell?;rw[e4];exact e1
  . intro e W' hp;exact hp
 | _=>rw[e2_]at e2;cases e2
theorem iA(n:Int):ACall Tryz.prog 107 [.int .i64 n] hNew (fun r h'=>r= .fn (.func 110) [] [.loc [.int .i64 n]]/\HSub hNone h'):=by
 refine ACall.of_body (n:=4) Ag Tryz.func107 rfl rfl ?_;refine MJ ?_;refine ax 1 (GJ 1 0) ?_;refine ap 2 rfl rfl rfl rfl ?_;refine wk 2 ?_;refine AGo.ghost (.plain 0 rfl (by intro cs hc;simp at hc;subst hc;rfl)) ?_;refine AGo.ghost (.freezeP 1 0 rfl rfl) ?_;refine XT ?_;refine aq 3 (Gk rfl rfl rfl) ?_;refine wk 3 ?_;exact⟨[_],⟨rfl,trivial⟩,rfl,HSub.none _⟩
end Go.Proofs.YtbbfelelocccmaaGreat.Sv
namespace Go.Proofs.YtbbfelelocccmaaGreat.Sv
open Go
theorem NR(z R:Nat)(i:Int)(p:Nat->Bool)(h0:0<=i)(hi:i<R)(hR:R<=100000):ACall Tryz.prog 106 [.ref z (nw R) 0 (nw R),.int .i64 i] (hput hNew z (Eu R p)) (fun r h'=>r= .tup []/\HSub (hput hNone z (Eu R (fun v=>p v||v==i.toNat))) h'):=by
 have:=gt z R i.toNat p (by omega) hR;rw[Int.toNat_of_nonneg h0]at this;exact this
theorem rrm_okI(z R:Nat)(i:Int)(p:Nat->Bool)(h0:0<=i)(hi:i<R)(hR:R<=100000):ACall Tryz.prog 108 [.ref z (nw R) 0 (nw R),.int .i64 i] (hput hNew z (Eu R p)) (fun r h'=>r= .tup []/\HSub (hput hNone z (Eu R (fun v=>p v&& !(v==i.toNat)))) h'):=by
 have:=kP z R i.toNat p (by omega) hR;rw[Int.toNat_of_nonneg h0]at this;exact this
theorem tR_nil(x:Block):tR x []=Db x:=rfl
theorem kA(x:Block):tS x []=fun _=>false:=rfl
theorem PR{R:Nat}{p:Nat->Bool}:((Bs R p).drop 0).take (nw R)=Bs R p:=by rw[List.drop_zero,List.take_of_length_le (by rw[Bi];exact Nat.le_refl _)]
attribute [local irreducible] Bs Db Xd MF GX tR tS
theorem S1(x:Block)(R:Nat)(hR:R<=100000)(hi:x.ins.length<=100000)(hT: ∀t∈x.ins,t.inR (R:Int))(hv:x.fin=2->0<=x.v/\x.v<R):ACall Tryz.prog 97 [.agg x.cells,.int .i64 (R:Int)] hNew (fun r h'=>r= .tup [.lst false (Bs R (JO x)),.lst false (Bs R (fun v=>CL v x.ins))]/\HSub hNone h'):=by
 refine Pn (n:=57) Tryz.func97 rfl rfl ?_;intro H0 ι0 w0 hr;refine AW.seq hr ?_;refine XT ?_;refine ax 2 (GJ 5 0) ?_;refine ax 4 (EO Ag 1) ?_;refine ax 5 (EO Ag 2) ?_;refine an ?_;refine AW.seq hr ?_;refine wk 2 ?_;refine ax 11 (VZ (Ku 3 R hR) [3] [(3,(Eu R (fun _=>false)))] rfl Tryz.func98 (by kernel_rfl) rfl rfl rfl ⟨⟨_,rfl,rfl⟩,trivial⟩ rfl (AH rfl (BE _)) ⟨⟨_,rfl,rfl,rfl⟩,trivial⟩ rfl) ?_;refine wk 1 ?_;refine ax 13 (VZ (Ku 4 R hR) [4] [(4,(Eu R (fun _=>false)))] rfl Tryz.func98 (by kernel_rfl) rfl rfl rfl ⟨⟨_,rfl,rfl⟩,trivial⟩ rfl (AH rfl (BE _)) ⟨⟨_,rfl,rfl,rfl⟩,trivial⟩ rfl) ?_;refine wk 3 ?_;refine AW.seq hr ?_;refine AGo.join (γ:=Unit) (fun _u=>⟨57,(Aa (Aa (Aa A9 2 (.ptr 0 1 0 0)) 4 (.ptr 1 1 0 0)) 5 (.ptr 2 1 0 0)),(hput (hput (hput (hput (hput hNone 0 (.row false 5 [x.cells])) 1 (.row false 1 [[.ref 3 (nw R) 0 (nw R)]])) 2 (.row false 1 [[.ref 4 (nw R) 0 (nw R)]])) 3 (Eu R (Db x))) 4 (Eu R (fun _=>false)))⟩) (fun _u=>True) ?_ ?_
 .
  refine wk 6 ?_;refine asp 16 (fun hb1=>?_) fun hb1=>?_
  .
   refine act ?_;have hfin:x.fin=2:=by simpa using hb1
   have hv2:=hv hfin
   skip
   refine wk 4 ?_;refine ax 20 (VZ (NR 3 R x.v (fun _=>false) hv2.1 hv2.2 hR) [3] [(3,(Eu R (fun v=>(fun _=>false) v||v==x.v.toNat)))] rfl Tryz.func106 (by kernel_rfl) rfl rfl rfl ⟨⟨_,rfl,rfl⟩,trivial⟩ rfl (AH rfl (BE _)) ⟨⟨_,rfl,rfl,rfl⟩,trivial⟩ rfl) ?_;refine an ?_;exact mC
  refine acf ?_;have hfin: ¬x.fin=2:=by simpa using hb1
  refine fH ?_;exact mC
 intro _ _;refine iT ?_;refine AW.seq hr ?_;refine wk 4 ?_;refine ax 24 (LF (r:=(.fn (.func 110) [] [.loc [.int .i64 (x.ins.length:Int)]])) (hc:=hNew) (hw:=hNone) [] [] rfl Tryz.func107 (by kernel_rfl) rfl rfl rfl trivial rfl (BE _) trivial rfl (by rw[List.length_map];exact iA _)) ?_;refine an ?_;refine AW.range hr (α:=Ma x.ins.length) (S:=fun xs=>xs.map (·.1)=(List.range x.ins.length).reverse) (N:=x.ins.length) rfl rfl rfl (by show 25<57;decide) (by show 6<57;decide) (by decide) rfl (fun _ _=>rfl) (fun q=>.int .i64 (q.1:Int)) (fun q=>.int .i64 (q.1:Int)) (fun _ _ _=>.int _ _ _) (fun H ι w hh lb h1 h2=>Wm (by omega) hh lb h1 h2) (Aa (Aa (Aa A9 2 (.ptr 0 1 0 0)) 4 (.ptr 1 1 0 0)) 5 (.ptr 2 1 0 0)) (fun pre=>(hput (hput (hput (hput (hput hNone 0 (.row false 5 [x.cells])) 1 (.row false 1 [[.ref 3 (nw R) 0 (nw R)]])) 2 (.row false 1 [[.ref 4 (nw R) 0 (nw R)]])) 3 (Eu R ((tR x (pre.map (·.1)))))) 4 (Eu R ((tS x (pre.map (·.1))))))) Cf fQ (fun _=>fQ) (by repeat(first | exact HSub.refl _ | exact HSub.none _ | exact AG _ | exact AE GK | refine HSub.put ?_ (by first | rfl | exact congrArg (fun p=>some (Eu R p)) (tR_nil x).symm | exact congrArg (fun p=>some (Eu R p)) (kA x).symm) | refine AF ?_ GK | refine Bq ?_ (by decide))) ?_ ?_
 .
  intro l pre q hlt;obtain⟨t,ht⟩:=Ae q.2;have hin:=hT t (List.mem_of_getElem? ht);refine AGoR.block ?_;refine AGoR.seq ?_;refine AGoR.seq ?_;refine AGoR.region rfl ?_;refine wk 3 ?_;refine aq 29 (MH Ag (AM ht)) ?_;refine wk 1 ?_;refine ax 31 (DQ Tryz.func77 (La _)) ?_;refine wk 2 ?_;refine AGoR.seq ?_;refine AGoR.region rfl ?_;refine wk 3 ?_;refine AGoR.join (γ:=Unit) (fun _u=>⟨57,(Aa (Aa (Aa (Aa (Aa A9 2 (.ptr 0 1 0 0)) 4 (.ptr 1 1 0 0)) 5 (.ptr 2 1 0 0)) 25 (.int .i64 (q.1:Int))) 6 (.int .i64 (q.1:Int))),(hput (hput (hput (hput (hput hNone 0 (.row false 5 [x.cells])) 1 (.row false 1 [[.ref 3 (nw R) 0 (nw R)]])) 2 (.row false 1 [[.ref 4 (nw R) 0 (nw R)]])) 3 (Eu R (Xd t (tR x (pre.map (·.1)))))) 4 (Eu R (MF t (tS x (pre.map (·.1))))))⟩) (fun _u=>True) ?_ ?_
  .
   refine AGoR.split 33 rfl (fun hb2=>?_) (fun hb2=>?_)
   .
    refine AGoR.cond_true true rfl rfl ?_;have hsp:0<=t.sets:=by simpa using hb2
    have hs1:t.sets<R:=by have:=hin.1 (Ex (by simpa using hb2));rw[Jg (Ex (by simpa using hb2))];omega
    refine AGoR.seq ?_;refine AGoR.region rfl ?_;refine wk 2 ?_;refine ax 36 (VZ (rrm_okI 3 R t.sets (tR x (pre.map (·.1))) hsp hs1 hR) [3] [(3,(Eu R (fun v=>(tR x (pre.map (·.1))) v&& !(v==t.sets.toNat))))] rfl Tryz.func108 (by kernel_rfl) rfl rfl rfl ⟨⟨_,rfl,rfl⟩,trivial⟩ rfl (AH rfl (BE _)) ⟨⟨_,rfl,rfl,rfl⟩,trivial⟩ rfl) ?_;refine an ?_;refine AGoR.region rfl ?_;refine wk 2 ?_;refine ax 39 (VZ (NR 4 R t.sets (tS x (pre.map (·.1))) hsp hs1 hR) [4] [(4,(Eu R (fun v=>(tS x (pre.map (·.1))) v||v==t.sets.toNat)))] rfl Tryz.func106 (by kernel_rfl) rfl rfl rfl ⟨⟨_,rfl,rfl⟩,trivial⟩ rfl (AH rfl (BE _)) ⟨⟨_,rfl,rfl,rfl⟩,trivial⟩ rfl) ?_;refine an ?_;exact mI
   refine AGoR.cond_false false rfl rfl ?_;have hsp: ¬0<=t.sets:=by simpa using hb2
   refine AGoR.skip ?_;exact mI
  intro _ _;refine AGoR.seq ?_;refine AGoR.region rfl ?_;refine wk 3 ?_;refine aq 43 (MH Ag (AM ht)) ?_;refine wk 1 ?_;refine ax 45 (DQ Tryz.func81 (O9 _)) ?_;refine wk 3 ?_;refine AGoR.block ?_;refine AGoR.loopI (γ:=Nat) (fun k=>⟨57,(Aa (Aa (Aa (Aa (Aa (Aa (Aa (Aa A9 2 (.ptr 0 1 0 0)) 4 (.ptr 1 1 0 0)) 5 (.ptr 2 1 0 0)) 25 (.int .i64 (q.1:Int))) 6 (.int .i64 (q.1:Int))) 45 (A0 t.uses)) 46 (.int .i64 (t.uses.length:Int))) 47 (.int .i64 (k:Int))),(hput (hput (hput (hput (hput hNone 0 (.row false 5 [x.cells])) 1 (.row false 1 [[.ref 3 (nw R) 0 (nw R)]])) 2 (.row false 1 [[.ref 4 (nw R) 0 (nw R)]])) 3 (Eu R (GX (t.uses.take k) (Xd t (tR x (pre.map (·.1))))))) 4 (Eu R (MF t (tS x (pre.map (·.1))))))⟩) (fun k=>True) (fun k=>t.uses.length-k) 0 (Sub.mk' (by repeat(first | exact ESub.new _ | refine ESub.put ?_ (by first | rfl | exact congrArg (fun(n:Nat)=>some (AV.int .i64 (n:Int))) (by simp) | exact congrArg (fun n:Nat=>some (AV.int .i64 (n:Int))) (by simp)))) (by repeat(first | exact HSub.refl _ | exact HSub.none _ | exact AG _ | exact AE GK | refine HSub.put ?_ (by first | rfl | exact CT (fun v=>by rw[List.take_zero];exact ah v)) | refine AF ?_ GK | refine Bq ?_ (by decide)))) trivial ?_
  intro k _;refine AGoR.seq ?_;refine AGoR.region rfl ?_;refine wk 2 ?_;refine AGoR.seq ?_;refine AGoR.split 48 rfl (fun hb3=>?_) (fun hb3=>?_)
  .
   refine AGoR.cond_true true rfl rfl ?_;have hkl:k<t.uses.length:=by have h:=hb3;simp[A0]at h;exact h
   obtain⟨u,hu⟩:=Ae hkl;have hub:=hin.2 u (List.mem_of_getElem? hu);refine AGoR.skip ?_;refine AGoR.seq ?_;refine AGoR.block ?_;refine AGoR.seq ?_;refine AGoR.region rfl ?_;refine aq 49 (MH Ag (AM hu)) ?_;refine wk 3 ?_;refine AGoR.region rfl ?_;refine wk 2 ?_;refine ax 53 (VZ (NR 3 R u (GX (t.uses.take k) (Xd t (tR x (pre.map (·.1))))) hub.1 hub.2 hR) [3] [(3,(Eu R (fun v=>(GX (t.uses.take k) (Xd t (tR x (pre.map (·.1))))) v||v==u.toNat)))] rfl Tryz.func106 (by kernel_rfl) rfl rfl rfl ⟨⟨_,rfl,rfl⟩,trivial⟩ rfl (AH rfl (BE _)) ⟨⟨_,rfl,rfl,rfl⟩,trivial⟩ rfl) ?_;refine an ?_;refine AGoR.region rfl ?_;refine aq 54 (Bj rfl rfl hkl (by have:=Kp t;simp only[maxLen];omega)) ?_;refine wk 2 ?_;exact⟨k+1,Sub.mk' Cf (by repeat(first | exact HSub.refl _ | exact HSub.none _ | exact AG _ | exact AE GK | refine HSub.put ?_ (by first | rfl | exact CT (Wz hu hub.1)) | refine AF ?_ GK | refine Bq ?_ (by decide))),trivial,by omega⟩
  refine AGoR.cond_false false rfl rfl ?_;have hge:t.uses.length<=k:=by have h:=hb3;simp[A0]at h;omega
  refine AGoR.exit ?_;show HSub _ _;exact(by repeat(first | exact HSub.refl _ | exact HSub.none _ | exact AG _ | exact AE GK | refine HSub.put ?_ (by first | rfl | exact CT (fun v=>by rw[List.map_append,List.take_of_length_le hge];exact(congrFun (gd ht) v).symm) | exact CT (fun v=>by rw[List.map_append];exact(congrFun (gc ht) v).symm)) | refine AF ?_ GK | refine Bq ?_ (by decide)))
 intro xs hS;dsimp only;rw[hS];refine AD.ghost hr (.freezeCell 1 0 0 3 rfl rfl rfl rfl (Bi _ _).symm (by decide)) ?_;refine AD.ghost hr (.freezeCell 2 0 0 4 rfl rfl rfl rfl (Bi _ _).symm (by decide)) ?_;rw[PR,PR];refine iV Ag mix hr (by intro i o ho;rcases i with _ | _ | _ | _ | i<;>first |(cases ho;rfl) |(simp at ho)) fQ ?_;refine wk 5 ?_;refine⟨fQ,[.lst false _,.lst false _],⟨⟨_,_,_,_,rfl,rfl,.ptr _ _ _ _ _ _ _ _ rfl rfl rfl,rfl⟩,⟨_,_,_,_,rfl,rfl,.ptr _ _ _ _ _ _ _ _ rfl rfl rfl,rfl⟩,trivial⟩,?_,HSub.none _⟩;rw[show Bs R (JO x)=_ from(DM (kB x)).symm,show Bs R (fun v=>CL v x.ins)=_ from(DM (tS_all x)).symm];rfl
end Go.Proofs.YtbbfelelocccmaaGreat.Sv
namespace Go.Proofs.YtbbfelelocccmaaGreat.Sv
open Go
theorem WN(f:BFunc)(R:Nat)(es:List (List AV))(len:Nat)(w:Nat->Bool)(F:Nat->AObj)(b:Nat)(hb:b<f.blocks.length)(hn:f.blocks.length<=100000)(hl:len<=es.length)(he:es.length<=f.blocks.length):ACall Tryz.prog 90 [.ptr 2 1 0 0,.int .i64 (b:Int)] (HS f R (es) (len) (w) F) (fun r h'=>r= .tup []/\HSub (HS f R (CY w es len b) (DE w len b) (Cu w b true) F) h'):=by
 refine ACall.of_body (n:=28) Ag Tryz.func90 rfl rfl ?_;refine wk 7 ?_;refine aq 9 (Ab Ag rfl rfl rfl rfl rfl rfl rfl (An _ _).symm rfl (Int.natCast_nonneg _) (by omega)) ?_;refine aq 10 (At Ag rfl rfl rfl (.ptr _ _ _ _ _ _ _ [.bool (w b)] rfl (An _ _).symm Lh) rfl) ?_;refine wk 2 ?_;refine asp 11 (fun hb1=>?_) fun hb1=>?_
 .
  refine act ?_;have hwb:w b=false:=by have h:=hb1;simpa using h
  refine wk 7 ?_;refine aq 17 (Ab Ag rfl rfl rfl rfl rfl rfl rfl (An _ _).symm rfl (Int.natCast_nonneg _) (by omega)) ?_;refine AOps.w rfl rfl (o_store Ag rfl rfl rfl rfl rfl rfl (An _ _).symm Lh rfl (by decide) rfl Dy) ?_;refine wk 8 ?_;refine ax 24 (Cn Ag rfl rfl rfl rfl rfl rfl (by decide) rfl rfl rfl rfl rfl rfl) ?_;refine ax 25 (LD Ag (es:=es) rfl rfl rfl rfl rfl rfl rfl rfl rfl rfl hl rfl rfl (Nat.zero_lt_succ _) (.lst _ _) rfl (fun _=>rfl) (by show _*8<=_;omega) (by simp only[maxLen];omega)) ?_;refine wk 4 ?_;have e1:CY w es len b=CV es len (BG b):=by unfold CY;rw[hwb];rfl
  have e2:DE w len b=len+1:=by unfold DE;rw[hwb];rfl
  rw[e1,e2];exact⟨[],trivial,rfl,(BY (k0:=10) rfl (by repeat(first | exact trivial | refine⟨⟨by first | rfl | exact congrArg (fun es=>some (AObj.row true 1 es)) (H5 true),by first | rfl | exact Ad (fun _ _=>CM _ _ _ _) | exact Ad (fun _ _=>CJ _ _ _)⟩,?_⟩)) FO Kk)⟩
 refine acf ?_;have hwb:w b=true:=by have h:=hb1;simpa using h
 refine fH ?_;have e1:CY w es len b=es:=by unfold CY;rw[hwb];rfl
 have e2:DE w len b=len:=by unfold DE;rw[hwb];rfl
 rw[e1,e2,Hd hwb];exact⟨[],trivial,rfl,(BY (k0:=10) rfl Rd FO Kk)⟩
theorem ik(f:BFunc)(hs:f.sane)(R:Nat)(hR:R<=100000)(es:List (List AV))(len:Nat)(w:Nat->Bool)(I O:BB)(r2:Nat->AObj)(h2a: ∀b,(r2 b).avoid (kf 10)=true)(b:Nat)(x:Block)(hx:f.blocks[b]?=some x)(hn:f.blocks.length<=100000):ACall Tryz.prog 89 [.ptr 2 1 0 0,.int .i64 (b:Int)] (HS f R (es) (len) (w) (F3 (rI f.blocks.length R I) (rI f.blocks.length R O) r2)) (fun r h'=>r= .bool (chg (inN x (DP I (O b) x)) (I b) (nw R))/\HSub (HS f R (es) (len) (w) (F3 (rI f.blocks.length R (AZ I b ((inN x (DP I (O b) x))))) (rI f.blocks.length R (AZ O b (DP I (O b) x))) r2)) h'):=by
 have hb:b<f.blocks.length:=(List.getElem?_eq_some_iff.1 hx).1;have hxm:=List.mem_of_getElem? hx;have hnw:nw R<=100000:=by unfold nw;omega
 refine ACall.of_body (n:=109) Ag Tryz.func89 rfl rfl ?_;refine wk 11 ?_;refine aq 18 (Ab Ag rfl rfl rfl rfl rfl rfl rfl (An _ _).symm rfl (Int.natCast_nonneg _) (by omega)) ?_;refine aq 19 (At Ag rfl rfl rfl (.ptr _ _ _ _ _ _ _ [rG 1 (nw R) b] rfl (An _ _).symm Lh) rfl) ?_;refine wk 11 ?_;refine aq 25 (Au Ag rfl rfl rfl rfl rfl rfl (Int.natCast_nonneg _) (AM (CI hx)) rfl) ?_;refine wk 5 ?_;refine Bb (γ:=Nat) (kf 10) (fun j=>⟨109,(Aa (Aa (Aa (Aa (Aa (Aa (Aa A9 0 (.ptr 2 1 0 0)) 1 (.int .i64 (b:Int))) 5 (rG 1 (nw R) b)) 6 (.bool false)) 26 (A0 x.nexts)) 27 (.int .i64 (x.nexts.length:Int))) 28 (.int .i64 (j:Int))),(Hp (nb [.free,.free,(.row false 8 [fI f (es).length (len)]),(.row false 1 (Ax (rG 0 (nw R)) f.blocks.length)),(.row false 1 (Ax (rG 1 (nw R)) f.blocks.length)),(.row true 1 (bC f.blocks.length (w))),(.row true 1 (es)),(.row false 1 (Ax (Pf (Aw f)) f.blocks.length)),(.row true 1 (f.blocks.map (U2 R))),(.row true 1 (f.blocks.map (U1 R)))]) (F3 (rI f.blocks.length R I) (rI f.blocks.length R (AZ O b (LB I (O b) x j))) r2))⟩) (fun j=>True) (fun j=>x.nexts.length-j) 0 (Sub.mk' Et (BY (k0:=10) rfl Rd (fun x_=>by(try simp only[hputs]);exact(Ao _ _ _).trans (congrArg some (qm (outP_zero I (O b) x) _))) Kk)) trivial (fun g b hb=>BH (k0:=10) rfl hb) ?_
 intro j _;refine wk 5 ?_;refine asp 29 (fun hb1=>?_) fun hb1=>?_
 .
  refine act ?_;have hjl:j<x.nexts.length:=by have h:=hb1;simp[A0]at h;exact h
  obtain⟨d,hd⟩:=Ae hjl;have hd0:=hs.next x hxm d (List.mem_of_getElem? hd);have hdn:d.toNat<f.blocks.length:=by omega
  refine wk 5 ?_;refine aq 30 (MH Ag (AM hd)) ?_;refine wk 10 ?_;refine aq 37 (Ab Ag rfl rfl rfl rfl rfl rfl rfl (An _ _).symm rfl hd0.1 (by omega)) ?_;refine aq 38 (At Ag rfl rfl rfl (.ptr _ _ _ _ _ _ _ [rG 0 (nw R) d.toNat] rfl (An _ _).symm (by rw[Nat.zero_add];exact BT hdn)) rfl) ?_;refine wk 4 ?_;refine Bb (γ:=Nat) (kf 10) (fun k=>⟨109,(Aa (Aa (Aa (Aa (Aa (Aa (Aa (Aa (Aa (Aa (Aa A9 0 (.ptr 2 1 0 0)) 1 (.int .i64 (b:Int))) 5 (rG 1 (nw R) b)) 6 (.bool false)) 26 (A0 x.nexts)) 27 (.int .i64 (x.nexts.length:Int))) 28 (.int .i64 (j:Int))) 8 (.int .i64 d)) 38 (rG 0 (nw R) d.toNat)) 39 (.int .i64 (nw R:Int))) 40 (.int .i64 (k:Int))),(Hp (nb [.free,.free,(.row false 8 [fI f (es).length (len)]),(.row false 1 (Ax (rG 0 (nw R)) f.blocks.length)),(.row false 1 (Ax (rG 1 (nw R)) f.blocks.length)),(.row true 1 (bC f.blocks.length (w))),(.row true 1 (es)),(.row false 1 (Ax (Pf (Aw f)) f.blocks.length)),(.row true 1 (f.blocks.map (U2 R))),(.row true 1 (f.blocks.map (U1 R)))]) (F3 (rI f.blocks.length R I) (rI f.blocks.length R (AZ O b (Y0 (LB I (O b) x j) (I d.toNat) k))) r2))⟩) (fun k=>True) (fun k=>nw R-k) 0 (Sub.mk' Et (BY (k0:=10) rfl Rd (fun x_=>by(try simp only[hputs]);exact(Ao _ _ _).trans (congrArg some (bw (DM (cp _ _)) _))) Kk)) trivial (fun g b hb=>BH (k0:=10) rfl hb) ?_
  intro k _;refine wk 5 ?_;refine asp 41 (fun hb2=>?_) fun hb2=>?_
  .
   refine act ?_;have hkl:k<nw R:=by have h:=hb2;simp at h;exact h
   refine wk 6 ?_;refine aq 43 (Ab Ag rfl rfl rfl rfl rfl rfl ((Ao _ _ _).trans (congrArg some (gA hdn))) (Bi _ _).symm rfl (Int.natCast_nonneg _) (by omega)) ?_;refine aq 44 (At Ag rfl rfl rfl (.ptr _ _ _ _ _ _ _ (Bz (I d.toNat) k) ((Ao _ _ _).trans (congrArg some (gA hdn))) (Bi _ _).symm (by rw[Nat.zero_add,Int.toNat_natCast];exact(Co hkl).trans (congrArg some rfl))) rfl) ?_;refine wk 6 ?_;refine aq 47 (Ab Ag rfl rfl rfl rfl rfl rfl ((Ao _ _ _).trans (congrArg some (PZ hb))) (Bi _ _).symm rfl (Int.natCast_nonneg _) (by omega)) ?_;refine aq 48 (At Ag rfl rfl rfl (.ptr _ _ _ _ _ _ _ (Bz (LB I (O b) x j) k) ((Ao _ _ _).trans (congrArg some (PZ hb))) (Bi _ _).symm (by rw[Nat.zero_add,Int.toNat_natCast];exact(Co hkl).trans (congrArg some (Xp _ _ _)))) rfl) ?_;refine wk 1 ?_;refine aq 50 (AU rfl rfl rfl (aI (fun v=>(LB I (O b) x j) (64*k+v)) (fun v=>I d.toNat (64*k+v)))) ?_;refine aq 51 (Ab Ag rfl rfl rfl rfl rfl rfl ((Ao _ _ _).trans (congrArg some (PZ hb))) (Bi _ _).symm rfl (Int.natCast_nonneg _) (by omega)) ?_;refine AOps.w rfl rfl (o_store Ag (es:=Bs R (Y0 (LB I (O b) x j) (I d.toNat) k)) (cs:=Bz (LB I (O b) x j) k) rfl rfl rfl rfl rfl ((Ao _ _ _).trans (congrArg some (PZ hb))) (Bi _ _).symm (by rw[Nat.zero_add,Int.toNat_natCast];exact(Co hkl).trans (congrArg some (Xp _ _ _))) rfl (by decide) rfl (fun _=>rfl)) ?_;refine wk 2 ?_;refine aq 52 (Bj rfl rfl hkl (by simp only[maxLen];omega)) ?_;refine wk 2 ?_;exact⟨k+1,DropK.mk' (by repeat(first | exact EDropK.new _ _ | refine EDropK.put ?_ (by rfl) (by first | rfl | exact CM _ _ _ _))) (Bl (k0:=10) rfl Rd (fun x_=>by(try simp only[hputs]);(repeat(first | refine Az (by exact Af (by omega)) ?_ | refine hrm_skip (by omega) ?_));exact(DG aF _ _ x_).trans (congrArg some (bT hb (cq _ _ _) x_).symm)) (B7 (fun _=>A1 _) (fun _=>A1 _) h2a)),trivial,by omega⟩
  refine acf ?_;have hkge:nw R<=k:=by have h:=hb2;simp at h;omega
  refine wk 2 ?_;refine aq 53 (Bj rfl rfl hjl (by simp only[maxLen];have:=F0 x;omega)) ?_;refine wk 2 ?_;exact⟨j+1,DropK.mk' (by repeat(first | exact EDropK.new _ _ | refine EDropK.put ?_ (by rfl) (by first | rfl | exact CM _ _ _ _))) (Bl (k0:=10) rfl Rd (fun x_=>by(try simp only[hputs]);exact(Ao _ _ _).trans (congrArg some (bw ((gH _ _ hkge).trans (DM (YZ hd))) _))) (B7 (fun _=>A1 _) (fun _=>A1 _) h2a)),trivial,by omega⟩
 refine acf ?_;have hjge:x.nexts.length<=j:=by have h:=hb1;simp[A0]at h;omega
 refine wk 9 ?_;refine Bb (γ:=Nat) (kf 10) (fun k=>⟨109,(Aa (Aa (Aa (Aa (Aa (Aa A9 0 (.ptr 2 1 0 0)) 1 (.int .i64 (b:Int))) 5 (rG 1 (nw R) b)) 6 (.bool (chg (inN x (DP I (O b) x)) (I b) k))) 55 (.int .i64 (nw R:Int))) 56 (.int .i64 (k:Int))),(Hp (nb [.free,.free,(.row false 8 [fI f (es).length (len)]),(.row false 1 (Ax (rG 0 (nw R)) f.blocks.length)),(.row false 1 (Ax (rG 1 (nw R)) f.blocks.length)),(.row true 1 (bC f.blocks.length (w))),(.row true 1 (es)),(.row false 1 (Ax (Pf (Aw f)) f.blocks.length)),(.row true 1 (f.blocks.map (U2 R))),(.row true 1 (f.blocks.map (U1 R)))]) (F3 (rI f.blocks.length R (AZ I b (HO (inN x (DP I (O b) x)) (I b) k))) (rI f.blocks.length R (AZ O b (DP I (O b) x))) r2))⟩) (fun k=>k<=nw R) (fun k=>nw R-k) 0 (Sub.mk' Et (BY (k0:=10) rfl Rd (fun x_=>by(try simp only[hputs]);exact(Ao _ _ _).trans (congrArg some (by rw[outP_end hjge];exact qo (Zc _ _) _))) Kk)) (Nat.zero_le _) (fun g b hb=>BH (k0:=10) rfl hb) ?_
 intro k hkn;refine wk 5 ?_;refine asp 57 (fun hb3=>?_) fun hb3=>?_
 .
  refine act ?_;have hkl:k<nw R:=by have h:=hb3;simp at h;exact h
  refine wk 15 ?_;refine dq 64 (Ab Ag rfl rfl rfl rfl rfl rfl rfl (List.length_map _).symm rfl (Int.natCast_nonneg _) (by omega)) ?_;refine dq 65 (At Ag rfl rfl rfl (.ptr _ _ _ _ _ _ _ (U2 R x) rfl (List.length_map _).symm (by rw[Nat.zero_add,Int.toNat_natCast,List.getElem?_map,hx];rfl)) rfl) ?_;refine wk 1 ?_;refine dq 67 (Au Ag rfl rfl rfl rfl rfl rfl (Int.natCast_nonneg _) (by rw[Int.toNat_natCast];exact Co hkl) rfl) ?_;refine wk 3 ?_;refine dq 71 (Ab Ag rfl rfl rfl rfl rfl rfl ((Ao _ _ _).trans (congrArg some (PZ hb))) (Bi _ _).symm rfl (Int.natCast_nonneg _) (by omega)) ?_;refine dq 72 (At Ag rfl rfl rfl (.ptr _ _ _ _ _ _ _ (Bz (DP I (O b) x) k) ((Ao _ _ _).trans (congrArg some (PZ hb))) (Bi _ _).symm (by rw[Nat.zero_add,Int.toNat_natCast];exact(Co hkl).trans (congrArg some rfl))) rfl) ?_;refine wk 5 ?_;refine dq 78 (Ab Ag rfl rfl rfl rfl rfl rfl rfl (List.length_map _).symm rfl (Int.natCast_nonneg _) (by omega)) ?_;refine dq 79 (At Ag rfl rfl rfl (.ptr _ _ _ _ _ _ _ (U1 R x) rfl (List.length_map _).symm (by rw[Nat.zero_add,Int.toNat_natCast,List.getElem?_map,hx];rfl)) rfl) ?_;refine wk 1 ?_;refine dq 81 (Au Ag rfl rfl rfl rfl rfl rfl (Int.natCast_nonneg _) (by rw[Int.toNat_natCast];exact Co hkl) rfl) ?_;refine wk 1 ?_;refine dq 83 (AU rfl rfl rfl (PL (fun v=>(DP I (O b) x) (64*k+v)) (fun v=>CL (64*k+v) x.ins))) ?_;refine dq 84 (AU rfl rfl rfl (aI (fun v=>JO x (64*k+v)) (fun v=>(DP I (O b) x) (64*k+v)&& !CL (64*k+v) x.ins))) ?_;refine wk 10 ?_;refine aq 91 (Ab Ag rfl rfl rfl rfl rfl rfl rfl (An _ _).symm rfl (Int.natCast_nonneg _) (by omega)) ?_;refine aq 92 (At Ag rfl rfl rfl (.ptr _ _ _ _ _ _ _ [rG 0 (nw R) b] rfl (An _ _).symm Lh) rfl) ?_
  refine wk 1 ?_;refine aq 94 (Ab Ag rfl rfl rfl rfl rfl rfl ((Ao _ _ _).trans (congrArg some (Xg hb))) (Bi _ _).symm rfl (Int.natCast_nonneg _) (by omega)) ?_;refine aq 95 (At Ag rfl rfl rfl (.ptr _ _ _ _ _ _ _ (Bz (I b) k) ((Ao _ _ _).trans (congrArg some (Xg hb))) (Bi _ _).symm (by rw[Nat.zero_add,Int.toNat_natCast];exact(Co hkl).trans (congrArg some (TV _ _ _)))) rfl) ?_;refine wk 2 ?_;refine asp 96 (fun hb4=>?_) fun hb4=>?_
  .
   refine act ?_;have hne:(Po (inN x (DP I (O b) x)) k !=Po (I b) k)=true:=cN hb4;refine wk 7 ?_;refine aq 102 (Ab Ag rfl rfl rfl rfl rfl rfl rfl (An _ _).symm rfl (Int.natCast_nonneg _) (by omega)) ?_;refine aq 103 (At Ag rfl rfl rfl (.ptr _ _ _ _ _ _ _ [rG 0 (nw R) b] rfl (An _ _).symm Lh) rfl) ?_;refine wk 2 ?_;refine aq 106 (Ab Ag rfl rfl rfl rfl rfl rfl ((Ao _ _ _).trans (congrArg some (Xg hb))) (Bi _ _).symm rfl (Int.natCast_nonneg _) (by omega)) ?_;refine AOps.w rfl rfl (o_store Ag (es:=Bs R (HO (inN x (DP I (O b) x)) (I b) k)) (cs:=Bz (I b) k) rfl rfl rfl rfl rfl ((Ao _ _ _).trans (congrArg some (Xg hb))) (Bi _ _).symm (by rw[Nat.zero_add,Int.toNat_natCast];exact(Co hkl).trans (congrArg some (TV _ _ _))) rfl (by decide) rfl (fun _=>rfl)) ?_;refine wk 5 ?_;refine aq 107 (Bj rfl rfl hkl (by simp only[maxLen];omega)) ?_;refine wk 2 ?_;exact⟨k+1,DropK.mk' m8 (Bl (k0:=10) rfl Rd (fun x_=>by(try simp only[hputs]);(repeat(first | refine Az (by exact Af (by omega)) ?_ | refine hrm_skip (by omega) ?_));exact(DG aF _ _ x_).trans (congrArg some (bU hb (cW _ _ _) x_).symm)) (B7 (fun _=>A1 _) (fun _=>A1 _) h2a)),hkl,by omega⟩
  refine acf ?_;have heq:Po (inN x (DP I (O b) x)) k=Po (I b) k:=Z5 (cN hb4);refine wk 2 ?_;refine aq 107 (Bj rfl rfl hkl (by simp only[maxLen];omega)) ?_;refine wk 2 ?_;exact⟨k+1,DropK.mk' m8 (Bl (k0:=10) rfl Rd (fun x_=>by(try simp only[hputs]);exact(Ao _ _ _).trans (congrArg some (bx (DM (Zd heq)) _))) (B7 (fun _=>A1 _) (fun _=>A1 _) h2a)),hkl,by omega⟩
 refine acf ?_;have hkge:nw R<=k:=by have h:=hb3;simp at h;omega
 refine wk 7 ?_;refine⟨[_],⟨rfl,trivial⟩,?_,(BY (k0:=10) rfl Rd (fun x_=>by(try simp only[hputs]);exact(Ao _ _ _).trans (congrArg some (bx (cX _ _ hkge) _))) Kk)⟩;show AV.bool _=AV.bool _;congr 2;omega
theorem RX(f:BFunc)(hn:f.blocks.length<=100000):APure Tryz.prog 80 [.agg f.cells] (fun r=>r=A2 f.nexts):=by
 refine APure.of_body (n:=40) Ag Tryz.func80 rfl rfl ?_;refine MJ ?_;refine ax 1 (GJ 2 0) ?_;refine wk 7 ?_;refine ax 9 (AA Ag (n:=f.blocks.length) (m:=f.blocks.length) 1 true rfl rfl rfl (by simp) (by simp) rfl rfl rfl rfl rfl (Nat.zero_lt_succ _) rfl (Nat.le_refl _) (by show 24*f.blocks.length<=_;omega) (by simp only[maxLen];omega)) ?_;refine wk 4 ?_;refine AGo.ghost (PH 1 (es':=List.replicate f.blocks.length [.lst false []]) rfl (by simp) (Yh _)) ?_;refine wk 7 ?_;refine Bh (γ:=Nat) 2 (fun k=>⟨40,(Aa (Aa (Aa (Aa A9 3 (.ref 1 f.blocks.length 0 f.blocks.length)) 11 (B6 f.blocks)) 12 (.int .i64 (f.blocks.length:Int))) 13 (.int .i64 (k:Int))),(hput (hput (BK 2) 0 (.row false 2 [f.cells])) 1 (.row true 1 (((f.nexts.take (k)).map pathCell)++List.replicate (f.blocks.length-(k)) [.lst false []])))⟩) (fun k=>k<=f.blocks.length) (fun k=>f.blocks.length-k) 0 (Sub.mk' Et Rc) (Nat.zero_le _) (fun _=>Ah (Ah (fun b hb=>A8 hb) rfl) rfl) ?_
 intro k hk;refine wk 5 ?_;refine asp 14 (fun hb1=>?_) fun hb1=>?_
 . -- True
   refine act ?_;have hkl:k<f.blocks.length:=by simpa using hb1
   obtain⟨x,hx⟩:=Ae hkl;have hnx:=CI hx;refine wk 6 ?_;refine aq 16 (Au Ag rfl rfl rfl rfl rfl rfl (Int.natCast_nonneg _) (AM (by assumption)) rfl) ?_;refine wk 1 ?_;refine ax 5 (EO Ag 2) ?_;refine wk 14 ?_;refine asp 20 (fun hb2=>?_) fun hb2=>?_
   . -- True
     refine wk 6 ?_;refine ax 26 (Cn Ag rfl rfl rfl rfl rfl rfl (by decide) rfl rfl rfl rfl rfl rfl) ?_;refine aq 27 (Ab Ag rfl rfl rfl rfl rfl rfl rfl (AC (AJ f) (Nat.le_of_lt hkl)) rfl (Int.natCast_nonneg _) (by omega)) ?_;exact mf
   . -- False
     refine wk 6 ?_;refine asp 28 (fun hb3=>?_) fun hb3=>?_
     . -- True
       refine wk 8 ?_;refine ax 36 (Cn Ag rfl rfl rfl rfl rfl rfl (by decide) rfl rfl rfl rfl rfl rfl) ?_;refine aq 37 (Ab Ag rfl rfl rfl rfl rfl rfl rfl (AC (AJ f) (Nat.le_of_lt hkl)) rfl (Int.natCast_nonneg _) (by omega)) ?_;exact mf
     . -- False
       refine wk 3 ?_;exact m4
 . -- False
   refine acf ?_;have hge:f.blocks.length<=k:=by simpa using hb1
   refine wk 2 ?_;refine AGo.ghost (.freeze 3 1 rfl rfl (AC (AJ f) hk)) ?_;refine wk 4 ?_;refine FZ ⟨[_],⟨rfl,trivial⟩,?_,rfl⟩;show AV.lst false _=AV.lst false _;rw[CQ (AJ f) hge];rfl
theorem S7(f:BFunc)(hs:f.sane)(R:Nat)(hRf:f.regs=(R:Int))(hR:R<=100000)(hn0:0<f.blocks.length)(hn:f.blocks.length<=100000)(hi: ∀x∈f.blocks,x.ins.length<=100000):ACall Tryz.prog 88 [.agg f.cells] hNew (fun r h'=>r= .ptr 2 1 0 0/\HSub (KA hNone (HS f R ((List.range f.blocks.length).map BG) f.blocks.length (fun b=>decide (b<f.blocks.length)) (F3 (rI f.blocks.length R B0) (rI f.blocks.length R B0) (rA f.blocks.length (Aw f))))) h'):=by
 refine ACall.of_body (n:=121) Ag Tryz.func88 rfl rfl ?_;refine MJ ?_;refine ax 1 (GJ 2 0) ?_;refine wk 12 ?_;refine dx 16 (DQ Tryz.func80 (RX _ (by assumption))) ?_;refine wk 1 ?_;refine dx 18 (AA Ag (n:=f.blocks.length) (m:=f.blocks.length) 7 false rfl rfl rfl (by simp) (by simp) rfl rfl rfl rfl rfl (Nat.zero_lt_succ _) rfl (Nat.le_refl _) (by show 24*f.blocks.length<=_;omega) (by simp only[maxLen];omega)) ?_;refine wk 1 ?_;refine dx 20 (AA Ag (n:=f.blocks.length) (m:=f.blocks.length) 5 true rfl rfl rfl (by simp) (by simp) rfl rfl rfl rfl rfl (Nat.zero_lt_succ _) rfl (Nat.le_refl _) (by show 1*f.blocks.length<=_;omega) (by simp only[maxLen];omega)) ?_;refine wk 1 ?_;refine dx 22 (GJ 8 2) ?_;refine wk 4 ?_;refine AGo.ghost (CE 2 (es':=[qR f R 0]) rfl rfl (Nh ⟨Wk.refl _,Wk.refl _,Wk.nil _,Wk.nil _,Wk.nil _,Wk.nil _,Wk.refl _,Wk.refl _,trivial⟩)) ?_;refine AGo.ghost (CE 7 (es':=Ax (Pf (fun _=>[])) f.blocks.length) rfl (by rw[An,List.length_replicate]) (weak_col fun b=>Wk.nil _)) ?_;refine wk 9 ?_;refine Bb (γ:=Nat) (kf 10) (fun k=>⟨121,(Aa (Aa (Aa (Aa (Aa (Aa A9 1 (.ptr 0 1 0 0)) 3 (.int .i64 (f.blocks.length:Int))) 4 (.ptr 2 1 0 0)) 26 (A2 f.nexts)) 27 (.int .i64 (f.blocks.length:Int))) 28 (.int .i64 (k:Int))),(Hp (nb [(.row false 2 [f.cells]),.free,(.row false 8 [qR f R k]),(Pp 1 (Ax (rG 0 (nw R)) k)),(Pp 1 (Ax (rG 1 (nw R)) k)),(.row true 1 (bC f.blocks.length (fun _=>false))),.free,(.row false 1 (Ax (Pf (aheadP f k 0)) f.blocks.length)),(Ia 1 ((f.blocks.take k).map (U2 R))),(Ia 1 ((f.blocks.take k).map (U1 R)))]) (F3 (rI k R B0) (rI k R B0) (rA f.blocks.length (aheadP f k 0))))⟩) (fun k=>k<=f.blocks.length) (fun k=>f.blocks.length-k) 0 (Sub.mk' na (BY (k0:=10) rfl (by repeat(first | exact trivial | refine⟨⟨by first | rfl | exact congrArg (fun es=>some (AObj.row true 1 es)) (Hu _ _) | exact congrArg (fun A=>some (AObj.row false 1 (Ax (Pf A) f.blocks.length))) (funext fun c=>(Dd f 0 c).symm),by first | rfl | exact Jh f R (by decide) | exact Dr _ _ | exact Jf (fun _ _=>CM _ _ _ _) | exact Ad (fun _ _=>CJ _ _ _)⟩,?_⟩)) (fun x_=>by rw[To (Dd f 0)];(try simp only[hputs]);(repeat(first | refine Az (by exact Af (by omega)) ?_ | refine hrm_skip (by omega) ?_));exact congrArg some rI_start.symm) Kk)) (Nat.zero_le _) (fun g b hb=>BH (k0:=10) rfl hb) ?_
 intro k hk;refine wk 5 ?_;refine asp 29 (fun hb1=>?_) fun hb1=>?_
 .
  refine act ?_;have hkl:k<f.blocks.length:=by have h:=hb1;simp at h;exact h
  obtain⟨x,hx⟩:=Ae hkl;have hxm:=List.mem_of_getElem? hx;refine wk 6 ?_;refine aq 31 (Au Ag rfl rfl rfl rfl rfl rfl (Int.natCast_nonneg _) (AM (CI hx)) rfl) ?_;refine wk 12 ?_;refine Bb (γ:=Nat) (kf 10) (fun j=>⟨121,(Aa (Aa (Aa (Aa (Aa (Aa (Aa (Aa (Aa (Aa A9 1 (.ptr 0 1 0 0)) 3 (.int .i64 (f.blocks.length:Int))) 4 (.ptr 2 1 0 0)) 26 (A2 f.nexts)) 27 (.int .i64 (f.blocks.length:Int))) 28 (.int .i64 (k:Int))) 5 (.int .i64 (k:Int))) 33 (A0 x.nexts)) 34 (.int .i64 (x.nexts.length:Int))) 35 (.int .i64 (j:Int))),(Hp (nb [(.row false 2 [f.cells]),.free,(.row false 8 [qR f R k]),(Pp 1 (Ax (rG 0 (nw R)) k)),(Pp 1 (Ax (rG 1 (nw R)) k)),(.row true 1 (bC f.blocks.length (fun _=>false))),.free,(.row false 1 (Ax (Pf (aheadP f k j)) f.blocks.length)),(Ia 1 ((f.blocks.take k).map (U2 R))),(Ia 1 ((f.blocks.take k).map (U1 R)))]) (F3 (rI k R B0) (rI k R B0) (rA f.blocks.length (aheadP f k j))))⟩) (fun j=>True) (fun j=>x.nexts.length-j) 0 (Sub.mk' Et (BY (k0:=10) rfl (by repeat(first | exact trivial | refine⟨⟨by rfl,by first | rfl | exact Jh f R (by decide) | exact Dr _ _ | exact Jf (fun _ _=>CM _ _ _ _) | exact Ad (fun _ _=>CJ _ _ _)⟩,?_⟩)) FO Kk)) trivial (fun g b hb=>BH (k0:=10) rfl hb) ?_
  intro j _;refine wk 5 ?_;refine asp 36 (fun hb2=>?_) fun hb2=>?_
  .
   refine act ?_;have hjl:j<x.nexts.length:=by have h:=hb2;simp[A0]at h;exact h
   obtain⟨d,hd⟩:=Ae hjl;have hd0:=hs.next x hxm d (List.mem_of_getElem? hd);have hdn:d.toNat<f.blocks.length:=by omega
   refine wk 5 ?_;refine aq 37 (MH Ag (AM hd)) ?_;refine wk 14 ?_;refine dq 49 (Ab Ag rfl rfl rfl rfl rfl rfl rfl (An _ _).symm rfl hd0.1 (by omega)) ?_;refine dq 50 (At Ag rfl rfl rfl (.ptr _ _ _ _ _ _ _ [Pf (aheadP f k j) d.toNat] rfl (An _ _).symm (by rw[Nat.zero_add];exact BT hdn)) rfl) ?_;refine wk 1 ?_;refine dx 52 (Cn Ag rfl rfl rfl rfl rfl rfl (by decide) rfl rfl rfl rfl rfl rfl) ?_;refine dx 53 (o_append1J Ag (b:=3*d.toNat+2+16) (es:=(aheadP f k j d.toNat).map BG) rfl rfl rfl rfl rfl rfl rfl rfl ((Ao _ _ _).trans (congrArg some (kY hdn))) rfl rfl (Nat.zero_lt_succ _) (Jq fun _=>rfl) (Gq fun _=>rfl) rfl rfl (by rw[List.length_map];have:=GD f k j d.toNat;show(_+1)*8<=_;omega) (by rw[List.length_map];have:=GD f k j d.toNat;simp only[maxLen];omega)) ?_;refine dq 54 (Ab Ag rfl rfl rfl rfl rfl rfl rfl (An _ _).symm rfl hd0.1 (by omega)) ?_;refine DOps.w rfl rfl (o_store1 Ag (p:=false) (sz:=1) (es:=Ax (Pf (aheadP f k j)) f.blocks.length) (cs:=[Pf (aheadP f k j) d.toNat]) rfl rfl rfl rfl rfl rfl BA (An _ _).symm (by rw[Nat.zero_add];exact BT hdn) (Ds _ _) (by decide) (Dt _ _) (by intro h;cases h)) ?_;refine Fb Dj [([],[]),([],[]),([],[]),([2],[]),([],[]),([],[]),([],[]),([],[]),([2],[]),([],[]),([7],[]),([7],[]),([],[]),([],[]),([18],[18]),([7],[]),([7],[7])] nf (by kernel_rfl) ?_;refine XT ?_;refine aq 55 (Bj rfl rfl hjl (by simp only[maxLen];have:=F0 x;omega)) ?_;refine wk 2 ?_;exact⟨j+1,DropK.mk' Ik (Bl (k0:=10) rfl (by repeat(first | exact trivial | refine⟨⟨by first | rfl | exact congrArg (fun es=>some (AObj.row false 1 es)) (lR (GV hx hd hd0.1)),by first | rfl | exact Jh f R (by decide) | exact Dr _ _ | exact Jf (fun _ _=>CM _ _ _ _) | exact Ad (fun _ _=>CJ _ _ _)⟩,?_⟩)) (fun x_=>by(try simp only[hputs]);(repeat(first | refine Az (by exact Af (by omega)) ?_ | refine hrm_skip (by omega) ?_));exact(DG aF _ _ x_).trans (congrArg some (kX hdn (GV hx hd hd0.1) x_).symm)) (B7 (fun _=>A1 _) (fun _=>A1 _) (fun _=>Cz _))),trivial,by omega⟩
  refine acf ?_;have hjge:x.nexts.length<=j:=by have h:=hb2;simp[A0]at h;omega
  refine wk 6 ?_;refine dq 60 (MH Ag (AM hx)) ?_;refine wk 3 ?_;refine dx 64 (LF (r:=.tup [.lst false (Bs R (JO x)),.lst false (Bs R (fun v=>CL v x.ins))]) (hc:=hNew) (hw:=hNone) [] [] rfl Tryz.func97 (by kernel_rfl) rfl rfl rfl trivial rfl (BE _) trivial rfl (by rw[hRf];exact S1 x R hR (hi x hxm) (fun t ht=>by rw[<-hRf];exact hs.low x hxm t ht) (fun e=>by rw[<-hRf];exact hs.fin x hxm e))) ?_;refine wk 1 ?_;refine dq 65 (Ly rfl rfl rfl) ?_;refine dq 66 (Ly rfl rfl rfl) ?_;refine wk 11 ?_;refine ax 73 (Cn Ag rfl rfl rfl rfl rfl rfl (by decide) rfl rfl rfl rfl rfl rfl) ?_;refine ax 74 (o_append1J Ag (b:=8) (es:=(f.blocks.take k).map (U2 R)) rfl rfl rfl rfl rfl rfl rfl rfl BA rfl rfl (Nat.zero_lt_succ _) (Jq fun _=>rfl) (Gq fun _=>rfl) rfl rfl (by rw[List.length_map,List.length_take];show(_+1)*24<=_;omega) (by rw[List.length_map,List.length_take];simp only[maxLen];omega)) ?_;refine wk 2 ?_;refine AOps.w rfl rfl (o_store1 Ag rfl rfl rfl rfl rfl rfl rfl rfl rfl (Ds _ _) (by decide) (Dt _ _) (by intro h;cases h)) ?_;refine wk 9 ?_;refine ax 83 (Cn Ag rfl rfl rfl rfl rfl rfl (by decide) rfl rfl rfl rfl rfl rfl) ?_;refine ax 84 (o_append1J Ag (b:=9) (es:=(f.blocks.take k).map (U1 R)) rfl rfl rfl rfl rfl rfl rfl rfl BA rfl rfl (Nat.zero_lt_succ _) (Jq fun _=>rfl) (Gq fun _=>rfl) rfl rfl (by rw[List.length_map,List.length_take];show(_+1)*24<=_;omega) (by rw[List.length_map,List.length_take];simp only[maxLen];omega)) ?_
  refine wk 2 ?_;refine AOps.w rfl rfl (o_store1 Ag rfl rfl rfl rfl rfl rfl rfl rfl rfl (Ds _ _) (by decide) (Dt _ _) (by intro h;cases h)) ?_;refine wk 10 ?_;refine dx 94 (Qb (q:=Eu R (fun _=>false)) (r:=.ref (3*k+0+16) (nw R) 0 (nw R)) (3*k+0+16) rfl Tryz.func98 (by kernel_rfl) rfl rfl rfl (by(try simp only[hputs]);(repeat(first | refine Az (by exact Af (by omega)) ?_ | refine hrm_skip (by omega) ?_));exact(Ao _ _ _).trans (congrArg some gz)) rfl (by show mem _ _=true;exact KL _) (by rw[hRf];exact Ku (3*k+0+16) R hR)) ?_;refine dx 95 (o_litRow Ag 10 false rfl rfl rfl rfl rfl rfl (by decide) BA rfl rfl rfl (by intro h;cases h) rfl rfl) ?_;refine dx 96 (J7 Ag (b:=3) (es:=Ax (rG 0 (nw R)) k) (x0:=[rG 0 (nw R) k]) rfl rfl rfl rfl rfl rfl rfl rfl BA rfl rfl (Nat.zero_lt_succ _) (W0 (p:=false) (sz:=1) BA rfl) rfl (by rw[An];show _*24<=_;omega) (by rw[An];simp only[maxLen];omega)) ?_
  refine wk 2 ?_;refine DOps.w rfl rfl (o_store1 Ag rfl rfl rfl rfl rfl rfl rfl rfl rfl (Ds _ _) (by decide) (Dt _ _) (by intro h;cases h)) ?_;refine Fb Dj [([],[]),([],[]),([],[]),([],[]),([2],[]),([],[]),([0],[]),([16],[16]),([10],[10]),([3,10],[3]),([],[]),([],[]),([2],[2])] nf (by kernel_rfl) ?_;refine wk 8 ?_;refine dx 106 (Qb (q:=Eu R (fun _=>false)) (r:=.ref (3*k+1+16) (nw R) 0 (nw R)) (3*k+1+16) rfl Tryz.func98 (by kernel_rfl) rfl rfl rfl (by(try simp only[hputs]);(repeat(first | refine Az (by exact Af (by omega)) ?_ | refine hrm_skip (by omega) ?_));exact(Ao _ _ _).trans (congrArg some gy)) rfl (by show mem _ _=true;exact KL _) (by rw[hRf];exact Ku (3*k+1+16) R hR)) ?_;refine dx 107 (o_litRow Ag 11 false rfl rfl rfl rfl rfl rfl (by decide) BA rfl rfl rfl (by intro h;cases h) rfl rfl) ?_;refine dx 108 (J7 Ag (b:=4) (es:=Ax (rG 1 (nw R)) k) (x0:=[rG 1 (nw R) k]) rfl rfl rfl rfl rfl rfl rfl rfl BA rfl rfl (Nat.zero_lt_succ _) (W0 (p:=false) (sz:=1) BA rfl) rfl (by rw[An];show _*24<=_;omega) (by rw[An];simp only[maxLen];omega)) ?_;refine wk 2 ?_;refine DOps.w rfl rfl (o_store1 Ag rfl rfl rfl rfl rfl rfl rfl rfl rfl (Ds _ _) (by decide) (Dt _ _) (by intro h;cases h)) ?_;refine Fb Dj [([],[]),([],[]),([],[]),([],[]),([2],[]),([],[]),([0],[]),([17],[17]),([11],[11]),([4,11],[4]),([],[]),([],[]),([2],[2])] nf (by kernel_rfl) ?_;refine XT ?_;refine aq 111 (Bj rfl rfl hkl (by simp only[maxLen];omega)) ?_;refine wk 2 ?_;exact⟨k+1,DropK.mk' Ik (Bl (k0:=10) rfl (by repeat(first | exact trivial | refine⟨⟨by first | rfl | exact congrArg (fun s=>some (AObj.row false 8 [s])) (bq hx) | exact congrArg some (W1 _ _ _).symm | exact congrArg (fun A=>some (AObj.row false 1 (Ax (Pf A) f.blocks.length))) (funext (GW hx hjge)) | exact congrArg (fun es=>some (Ia 1 es)) (PB hx _),by first | rfl | exact Jh f R (by decide) | exact Dr _ _ | exact Jf (fun _ _=>CM _ _ _ _) | exact Ad (fun _ _=>CJ _ _ _)⟩,?_⟩)) (fun x_=>by rw[<-To (GW hx hjge)];(try simp only[hputs]);(repeat(first | refine Az (by exact Af (by omega)) ?_ | refine hrm_skip (by omega) ?_));refine(DG (F:=F3 (rI (k+1) R B0) (rI k R B0) (rA f.blocks.length (aheadP f k j))) (fun y_=>?_) _ _ x_).trans (congrArg some (bW x_).symm);(repeat(first | refine Az (by exact Af (by omega)) ?_ | refine hrm_skip (by omega) ?_));exact(DG (fun z_=>by(repeat(first | refine Az (by exact Af (by omega)) ?_ | refine hrm_skip (by omega) ?_));exact Ao _ _ _) _ _ y_).trans (congrArg some (bX y_).symm)) (B7 (fun _=>A1 _) (fun _=>A1 _) (fun _=>Cz _))),hkl,by omega⟩
 refine acf ?_;have hge:f.blocks.length<=k:=by have h:=hb1;simp at h;omega
 refine wk 3 ?_;have hkn:k=f.blocks.length:=by omega
 subst hkn;rw[gm hn0,S8 hn0,S8 hn0,List.take_length,W2 hn0,W2 hn0,show aheadP f f.blocks.length 0=Aw f from funext fun c=>Dd f _ c];refine AGo.ghost (.dryCell 2 0 6 6 1 true rfl rfl rfl rfl rfl (by decide)) ?_;refine wk 5 ?_;refine Bb (γ:=Nat) (kf 10) (fun k=>⟨121,(Aa (Aa (Aa (Aa (Aa A9 1 (.ptr 0 1 0 0)) 3 (.int .i64 (f.blocks.length:Int))) 4 (.ptr 2 1 0 0)) 112 (.int .i64 (f.blocks.length:Int))) 113 (.int .i64 (k:Int))),(Hp (nb [(.row false 2 [f.cells]),.free,(.row false 8 [fI f ((List.range k).map BG).length (k)]),(.row false 1 (Ax (rG 0 (nw R)) f.blocks.length)),(.row false 1 (Ax (rG 1 (nw R)) f.blocks.length)),(.row true 1 (bC f.blocks.length (fun b=>decide (b<k)))),(.row true 1 ((List.range k).map BG)),(.row false 1 (Ax (Pf (Aw f)) f.blocks.length)),(.row true 1 (f.blocks.map (U2 R))),(.row true 1 (f.blocks.map (U1 R)))]) (F3 (rI f.blocks.length R B0) (rI f.blocks.length R B0) (rA f.blocks.length (Aw f))))⟩) (fun k=>k<=f.blocks.length) (fun k=>f.blocks.length-k) 0 (Sub.mk' Et (BY (k0:=10) rfl (by repeat(first | exact trivial | refine⟨⟨by first | rfl | exact congrArg (fun w=>some (AObj.row true 1 (bC _ w))) (funext fun b=>(decide_eq_false (Nat.not_lt_zero b)).symm),by first | rfl | exact Ad (fun _ _=>CM _ _ _ _) | exact Ad (fun _ _=>CJ _ _ _)⟩,?_⟩)) FO Kk)) (Nat.zero_le _) (fun g b hb=>BH (k0:=10) rfl hb) ?_
 intro k hk;refine wk 5 ?_;refine asp 114 (fun hb3=>?_) fun hb3=>?_
 .
  refine act ?_;have hkl:k<f.blocks.length:=by have h:=hb3;simp at h;exact h
  refine wk 11 ?_;refine AOps.call 118 (hn:=KA _ (HS f R ((List.range (k+1)).map BG) (k+1) (fun b=>decide (b<k+1)) (F3 (rI f.blocks.length R B0) (rI f.blocks.length R B0) (rA f.blocks.length (Aw f))))) (r:=.tup []) rfl rfl rfl (N7 (es:=(List.range k).map BG) (len:=k) (w:=fun b=>decide (b<k)) rfl Tryz.func90 (by kernel_rfl) rfl rfl rfl SQ (fun x_=>Ao _ _ _) (B7 (fun _=>A1 _) (fun _=>A1 _) (fun _=>Cz _)) (B7 (fun _=>A1 _) (fun _=>A1 _) (fun _=>Cz _)) rfl (by have h:=WN f R ((List.range k).map BG) k (fun b=>decide (b<k)) (F3 (rI f.blocks.length R B0) (rI f.blocks.length R B0) (rA f.blocks.length (Aw f))) k hkl hn (by simp) (by simp;omega);rw[NW,Qr,Li]at h;exact h)) ?_;refine wk 2 ?_;refine aq 119 (Bj rfl rfl hkl (by simp only[maxLen];omega)) ?_;refine wk 2 ?_;exact⟨k+1,DropK.mk' Ik (Bl (k0:=10) rfl aG (fun x_=>(Kz _ _ x_).trans (Ao _ _ _)) (B7 (fun _=>A1 _) (fun _=>A1 _) (fun _=>Cz _))),hkl,by omega⟩
 refine acf ?_;have hge:f.blocks.length<=k:=by have h:=hb3;simp at h;omega
 refine wk 7 ?_;have hkn:k=f.blocks.length:=by omega
 subst hkn;exact⟨[_],⟨rfl,trivial⟩,rfl,lu SQ (fun x_=>by dsimp only;exact Ao _ _ _)⟩
theorem g7(f:BFunc)(hs:f.sane)(hn0:0<f.blocks.length)(hn:f.blocks.length<=100000)(hr:f.regs<=100000)(hi: ∀x∈f.blocks,x.ins.length<=100000):APure Tryz.prog 62 [.agg f.cells] (fun r=>r= .agg [NH (HV f),NH (HK f)]):=by
 have hr0:=hs.regs;obtain⟨R,hRf⟩: ∃R:Nat,f.regs=(R:Int):=⟨f.regs.toNat,by omega⟩
 have hRt:R=f.regs.toNat:=by omega
 have hR:R<=100000:=by omega
 refine APure.of_body (n:=103) Ag Tryz.func62 rfl rfl ?_;refine MJ ?_;refine ax 1 (GJ 2 0) ?_;refine ax 2 (EO Ag 1) ?_;refine wk 4 ?_;refine AOps.call 11 (hn:=KA _ (HS f R ((List.range f.blocks.length).map BG) f.blocks.length (fun b=>decide (b<f.blocks.length)) (F3 (rI f.blocks.length R B0) (rI f.blocks.length R B0) (rA f.blocks.length (Aw f))))) (r:=.ptr 2 1 0 0) rfl rfl rfl (KI (hc:=hNew) (hw:=KA hNone (HS f R ((List.range f.blocks.length).map BG) f.blocks.length (fun b=>decide (b<f.blocks.length)) (F3 (rI f.blocks.length R B0) (rI f.blocks.length R B0) (rA f.blocks.length (Aw f))))) kS rfl Tryz.func88 (by kernel_rfl) rfl rfl rfl (fun b hb=>⟨.free,by have:=M0 hb;(try simp only[hputs]);(repeat(first | refine Az (by exact Af (by omega)) ?_ | refine hrm_skip (by omega) ?_));rfl,rfl⟩) (funext fun b=>by unfold Eg;cases e:kS b with
  | false=>rfl
  | true=>(have:=M0 e;(try simp only[hputs]);show _=some AObj.free;(repeat(first | refine Az (by exact Af (by omega)) ?_ | refine hrm_skip (by omega) ?_));rfl)) (fun b hb=>RJ hb) (fun b hb=>by obtain⟨q,q1,q2⟩:=Pg (f:=f) (R:=R) (es:=(List.range f.blocks.length).map BG) (len:=f.blocks.length) (w:=fun b=>decide (b<f.blocks.length)) (F:=(F3 (rI f.blocks.length R B0) (rI f.blocks.length R B0) (rA f.blocks.length (Aw f)))) (B7 (fun _=>A1 _) (fun _=>A1 _) (fun _=>Cz _)) hb;exact⟨q,(Hi hb).trans q1,(Hi hb).trans q1,q2⟩) rfl (S7 f hs R hRf hR hn0 hn hi)) ?_
 refine wk 4 ?_;refine Bb (γ:=LQ) (kf 10) (fun q=>⟨103,(Aa (Aa (Aa A9 1 (.ptr 0 1 0 0)) 2 (.ptr 1 1 0 0)) 3 (.ptr 2 1 0 0)),(Hp (nb [(.row false 2 [f.cells]),(.row false 2 [[.nil,.nil]]),(.row false 8 [fI f (q.es).length (q.ws.length)]),(.row false 1 (Ax (rG 0 (nw R)) f.blocks.length)),(.row false 1 (Ax (rG 1 (nw R)) f.blocks.length)),(.row true 1 (bC f.blocks.length (q.w))),(.row true 1 (q.es)),(.row false 1 (Ax (Pf (Aw f)) f.blocks.length)),(.row true 1 (f.blocks.map (U2 R))),(.row true 1 (f.blocks.map (U1 R)))]) (F3 (rI f.blocks.length R q.I) (rI f.blocks.length R q.O) (rA f.blocks.length (Aw f))))⟩) (fun q=>LQI f R q) (fun q=>ud f R q) (tU f.blocks.length) (Sub.mk' Cf (BY (k0:=10) rfl (by repeat(first | exact trivial | refine⟨⟨by first | rfl | exact Hi rfl |(show some (AObj.row false 8 [fI f ((List.range f.blocks.length).map BG).length f.blocks.length])=some (AObj.row false 8 [fI f ((List.range f.blocks.length).map BG).length (List.range f.blocks.length).length]);rw[List.length_range]),by first | rfl | exact Ad (fun _ _=>CM _ _ _ _) | exact Ad (fun _ _=>CJ _ _ _)⟩,?_⟩)) (fun x_=>(Kz _ _ x_).trans (Ao _ _ _)) Kk)) (LQI.first f R) (fun g b hb=>BH (k0:=10) rfl hb) ?_
 intro q hQ;obtain⟨I,O,w,ws,es⟩:=q;dsimp only at hQ |-;refine wk 10 ?_;refine asp 17 (fun hb1=>?_) fun hb1=>?_
 .
  refine act ?_;obtain⟨ws',b,hws⟩: ∃ws' b,ws=ws'++[b]:=by
   rcases EW ws with h | h
   . have h2:=hb1;rw[h]at h2;simp at h2
   . exact h
  subst hws;have hpop:=hQ.wt.pop;have hb:=hpop.2.1;obtain⟨x,hx⟩:=Ae hb;have hxm:=List.mem_of_getElem? hx;have hle:=hQ.wt.le;have hgr:=hQ.k.grow hs hx hRt;refine wk 9 ?_;refine aq 23 (AU (r:=.int .i64 (ws'.length:Int)) rfl rfl rfl (KE (by have:=hQ.wt.le;simp at this;omega))) ?_;refine wk 9 ?_;refine aq 29 (Ab Ag rfl rfl rfl rfl rfl rfl rfl rfl rfl (Int.natCast_nonneg _) (by simp;omega)) ?_;refine aq 30 (At Ag rfl rfl rfl (.ptr _ _ _ _ _ _ _ (BG b) rfl rfl (by rw[Nat.zero_add,Int.toNat_natCast];exact hQ.st.get)) rfl) ?_;refine wk 10 ?_;refine aq 37 (Fm Ag (es:=es) (m:=ws'.length) rfl rfl rfl rfl rfl rfl rfl rfl rfl (by simp)) ?_;refine wk 11 ?_;refine aq 45 (Ab Ag rfl rfl rfl rfl rfl rfl rfl (An _ _).symm rfl (Int.natCast_nonneg _) (by omega)) ?_;refine AOps.w rfl rfl (o_store Ag rfl rfl rfl rfl rfl rfl (An _ _).symm Lh rfl (by decide) rfl Dy) ?_;refine wk 5 ?_;refine AOps.call 48 (hn:=KA _ (HS f R es ws'.length (Cu w b false) (F3 (rI f.blocks.length R (AZ I b (inN x (DP I (O b) x)))) (rI f.blocks.length R (AZ O b (DP I (O b) x))) (rA f.blocks.length (Aw f))))) (r:=.bool (chg (inN x (DP I (O b) x)) (I b) (nw R))) rfl rfl rfl (N7 (es:=es) (len:=ws'.length) (w:=Cu w b false) rfl Tryz.func89 (by kernel_rfl) rfl rfl rfl (by repeat(first | exact trivial | refine⟨by first | rfl | exact congrArg (fun es=>some (AObj.row true 1 es)) (H5 false),?_⟩)) fS (B7 (fun _=>A1 _) (fun _=>A1 _) (fun _=>Cz _)) (B7 (fun _=>A1 _) (fun _=>A1 _) (fun _=>Cz _)) rfl (ik f hs R hR es ws'.length (Cu w b false) I O (rA f.blocks.length (Aw f)) (fun _=>Cz _) b x hx hn)) ?_
  refine an ?_;refine asp 48 (fun hb2=>?_) fun hb2=>?_
  .
   refine act ?_;have hch:chg (inN x (DP I (O b) x)) (I b) (nw R)=true:=hb2;refine wk 7 ?_;refine aq 54 (Ab Ag rfl rfl rfl rfl rfl rfl rfl (An _ _).symm rfl (Int.natCast_nonneg _) (by omega)) ?_;refine aq 55 (At Ag rfl rfl rfl (.ptr _ _ _ _ _ _ _ [Pf (Aw f) b] rfl (An _ _).symm Lh) rfl) ?_;refine aq 56 (FE Ag rfl rfl rfl rfl) ?_;refine wk 3 ?_;refine Bb (γ:=LP) (kf 10) (fun p=>⟨103,(Aa (Aa (Aa (Aa (Aa (Aa (Aa A9 1 (.ptr 0 1 0 0)) 2 (.ptr 1 1 0 0)) 3 (.ptr 2 1 0 0)) 5 (.int .i64 (b:Int))) 55 (Pf (Aw f) b)) 56 (.int .i64 ((Aw f b).length:Int))) 57 (.int .i64 (p.j:Int))),(Hp (nb [(.row false 2 [f.cells]),(.row false 2 [[.nil,.nil]]),(.row false 8 [fI f (p.es).length (p.ws.length)]),(.row false 1 (Ax (rG 0 (nw R)) f.blocks.length)),(.row false 1 (Ax (rG 1 (nw R)) f.blocks.length)),(.row true 1 (bC f.blocks.length (p.w))),(.row true 1 (p.es)),(.row false 1 (Ax (Pf (Aw f)) f.blocks.length)),(.row true 1 (f.blocks.map (U2 R))),(.row true 1 (f.blocks.map (U1 R)))]) (F3 (rI f.blocks.length R (AZ I b (inN x (DP I (O b) x)))) (rI f.blocks.length R (AZ O b (DP I (O b) x))) (rA f.blocks.length (Aw f))))⟩) (fun p=>LPI f R (AZ I b (inN x (DP I (O b) x))) (AZ O b (DP I (O b) x)) b p) (fun p=>(Aw f b).length-p.j) ⟨Cu w b false,ws',es,0⟩ (Sub.mk' (by repeat(first | exact ESub.new _ | refine ESub.put ?_ (by first | rfl | exact congrArg (fun m:Nat=>some (AV.int .i64 (m:Int))) (by simp)))) (BY (k0:=10) rfl aG (fun x_=>(Kz _ _ x_).trans (Ao _ _ _)) Kk)) ⟨by have h:=hgr.1;rw[hch]at h;exact h,hpop.1,hQ.st.pop⟩ (fun g b hb=>BH (k0:=10) rfl hb) ?_
   intro p hP;refine wk 5 ?_;refine asp 58 (fun hb3=>?_) fun hb3=>?_
   .
    refine act ?_;have hjl:p.j<(Aw f b).length:=by have h:=hb3;simp at h;exact h
    obtain⟨a,ha⟩:=Ae hjl;have ha2:=JF (List.mem_of_getElem? ha);refine wk 5 ?_;refine aq 59 (IA Ag (b:=3*b+2+16) (es:=(Aw f b).map BG) rfl rfl rfl rfl rfl rfl ((Ao _ _ _).trans (congrArg some (kY hb))) rfl (Int.natCast_nonneg _) (by rw[List.length_map];omega)) ?_;refine aq 60 (At Ag rfl rfl rfl (.ptr _ _ _ _ true 1 ((Aw f b).map BG) (BG a) ((Ao _ _ _).trans (congrArg some ((kY hb).trans (Rt (k:=p.j) (by rw[List.length_map];omega))))) rfl (by rw[Int.toNat_natCast,List.getElem?_map,ha];rfl)) rfl) ?_;refine wk 5 ?_;refine AOps.call 63 (hn:=KA _ (HS f R (CY p.w p.es p.ws.length a) (Hb p.w p.ws a).length (JJ p.w a) (F3 (rI f.blocks.length R (AZ I b (inN x (DP I (O b) x)))) (rI f.blocks.length R (AZ O b (DP I (O b) x))) (rA f.blocks.length (Aw f))))) (r:=.tup []) rfl rfl rfl (N7 (es:=p.es) (len:=p.ws.length) (w:=p.w) rfl Tryz.func90 (by kernel_rfl) rfl rfl rfl SQ fS (B7 (fun _=>A1 _) (fun _=>A1 _) (fun _=>Cz _)) (B7 (fun _=>A1 _) (fun _=>A1 _) (fun _=>Cz _)) rfl (by have h:=WN f R p.es p.ws.length p.w (F3 (rI f.blocks.length R (AZ I b (inN x (DP I (O b) x)))) (rI f.blocks.length R (AZ O b (DP I (O b) x))) (rA f.blocks.length (Aw f))) a ha2 hn hP.st.le hP.st.max;rw[Ni]at h;exact h)) ?_
    refine wk 2 ?_;refine aq 64 (Bj rfl rfl hjl (by have:=Ki f b;simp only[maxLen];omega)) ?_;refine wk 2 ?_;exact⟨⟨JJ p.w a,Hb p.w p.ws a,CY p.w p.es p.ws.length a,p.j+1⟩,DropK.mk' (by repeat(first | exact EDropK.new _ _ | refine EDropK.put ?_ (by first | rfl) (by first | rfl | exact CJ _ _ _))) (Bl (k0:=10) rfl aG (fun x_=>(Kz _ _ x_).trans (Ao _ _ _)) (B7 (fun _=>A1 _) (fun _=>A1 _) (fun _=>Cz _))),(hP.next ha),(by show(Aw f b).length-(p.j+1)<(Aw f b).length-p.j;omega)⟩
   refine acf ?_;have hjge:(Aw f b).length<=p.j:=by have h:=hb3;simp at h;omega
   refine wk 1 ?_;exact⟨⟨(AZ I b (inN x (DP I (O b) x))),(AZ O b (DP I (O b) x)),p.w,p.ws,p.es⟩,DropK.mk' Ik (Bl (k0:=10) rfl aG fS (B7 (fun _=>A1 _) (fun _=>A1 _) (fun _=>Cz _))),(hP.done hjge),(gW (hgr.2.1 hch) hP.wt.le)⟩
  refine acf ?_;have hch:chg (inN x (DP I (O b) x)) (I b) (nw R)=false:=hb2;refine fH ?_;exact⟨⟨(AZ I b (inN x (DP I (O b) x))),(AZ O b (DP I (O b) x)),Cu w b false,ws',es⟩,DropK.mk' Ik (Bl (k0:=10) rfl aG fS (B7 (fun _=>A1 _) (fun _=>A1 _) (fun _=>Cz _))),⟨by have h:=hgr.1;rw[hch]at h;exact h,hpop.1,hQ.st.pop⟩,(gX hgr.2.2 (by simp))⟩
 refine acf ?_;have hws:ws=[]:=by
  rcases EW ws with h |⟨L,b,h⟩
  . exact h
  . have h2:=hb1;rw[h]at h2;simp at h2
 subst hws;have hK:=hQ.k;have hW:=hQ.wt;refine wk 3 ?_;refine ax 8 (EO Ag 10) ?_;refine wk 3 ?_;refine AGo.ghost (CE 10 (es':=[[Ed 11 [],Ed 12 []]]) rfl rfl (Nh ⟨Wk.nil _,Wk.nil _,trivial⟩)) ?_;refine wk 7 ?_;refine Bb (γ:=Nat) (kf 13) (fun k=>⟨103,(Aa (Aa (Aa (Aa (Aa (Aa A9 1 (.ptr 0 1 0 0)) 2 (.ptr 1 1 0 0)) 3 (.ptr 2 1 0 0)) 8 (.ptr 10 1 0 0)) 67 (.int .i64 (f.blocks.length:Int))) 68 (.int .i64 (k:Int))),(Hp (nb [(.row false 2 [f.cells]),(.row false 2 [[.nil,.nil]]),(.row false 8 [fI f (es).length (0)]),(.row false 1 (Ax (rG 0 (nw R)) f.blocks.length)),(.row false 1 (Ax (rG 1 (nw R)) f.blocks.length)),(.row true 1 (bC f.blocks.length (w))),(.row true 1 (es)),(.row false 1 (Ax (Pf (Aw f)) f.blocks.length)),(.row true 1 (f.blocks.map (U2 R))),(.row true 1 (f.blocks.map (U1 R))),(.row false 2 [[Ed 11 (((HV f).take k).map CW),Ed 12 (((HK f).take k).map CW)]]),(Ia 1 (((HV f).take k).map CW)),(Ia 1 (((HK f).take k).map CW))]) (F3 (rI f.blocks.length R I) (rI f.blocks.length R O) (rA f.blocks.length (Aw f))))⟩) (fun k=>k<=f.blocks.length) (fun k=>f.blocks.length-k) 0 (Sub.mk' Et (BY (k0:=13) rfl (by repeat(first | exact trivial | refine⟨⟨by rfl,by first | rfl | exact Mi (by decide) | exact Dr _ _ | exact Ad (fun _ _=>CM _ _ _ _) | exact Ad (fun _ _=>CJ _ _ _)⟩,?_⟩)) FO m7)) (Nat.zero_le _) (fun g b hb=>BH (k0:=13) rfl hb) ?_
 intro k hk;refine wk 5 ?_;refine asp 69 (fun hb4=>?_) fun hb4=>?_
 .
  refine act ?_;have hkl:k<f.blocks.length:=by have h:=hb4;simp at h;exact h
  obtain⟨x,hx⟩:=Ae hkl;have hxm:=List.mem_of_getElem? hx;refine wk 17 ?_;refine dq 78 (Ab Ag rfl rfl rfl rfl rfl rfl rfl (An _ _).symm rfl (Int.natCast_nonneg _) (by omega)) ?_;refine dq 79 (At Ag rfl rfl rfl (.ptr _ _ _ _ _ _ _ [rG 0 (nw R) k] rfl (An _ _).symm (by rw[Nat.zero_add,Int.toNat_natCast];exact BT hkl)) rfl) ?_;refine wk 2 ?_;refine dx 82 (Qa (q:=AObj.row true 1 (Bs R (I k))) (r:=Cs (XB f k)) (3*k+0+16) rfl Tryz.func91 (by kernel_rfl) rfl rfl (by simp only[List.all_cons,List.all_nil,Bool.and_true];exact UP (by show mem _ _=true;exact KL _) rfl) (by(try simp only[hputs]);(repeat(first | refine Az (by exact Af (by omega)) ?_ | refine hrm_skip (by omega) ?_));exact(Ao _ _ _).trans (congrArg some (gA hkl))) rfl rfl (by have h:=NF (3*k+0) R (I k) hR;rw[hK.inRow hs hRt hW hkl]at h;rw[hRf];exact h)) ?_;refine dx 83 (Cn Ag rfl rfl rfl rfl rfl rfl (by decide) rfl rfl rfl rfl rfl rfl) ?_
  refine dx 84 (o_append1J Ag (b:=11) (es:=((HV f).take k).map CW) rfl rfl rfl rfl rfl rfl rfl rfl BA rfl rfl (Nat.zero_lt_succ _) (Jq fun _=>rfl) (Gq fun _=>rfl) rfl rfl (by rw[List.length_map,List.length_take];show(_+1)*24<=_;omega) (by rw[List.length_map,List.length_take];simp only[maxLen];omega)) ?_;refine wk 1 ?_;refine DOps.w rfl rfl (o_store1 Ag rfl rfl rfl rfl rfl rfl rfl rfl rfl (Ds _ _) (by decide) (Dt _ _) (by intro h;cases h)) ?_;refine Fb Dj [([],[]),([10],[]),([],[]),([],[]),([],[]),([2],[]),([],[]),([3],[]),([3],[]),([],[]),([0],[]),([16],[]),([],[]),([11],[11]),([],[]),([10],[10])] nf (by kernel_rfl) ?_;refine wk 8 ?_;refine dq 93 (Ab Ag rfl rfl rfl rfl rfl rfl rfl (An _ _).symm rfl (Int.natCast_nonneg _) (by omega)) ?_;refine dq 94 (At Ag rfl rfl rfl (.ptr _ _ _ _ _ _ _ [rG 1 (nw R) k] rfl (An _ _).symm (by rw[Nat.zero_add,Int.toNat_natCast];exact BT hkl)) rfl) ?_
  refine wk 2 ?_;refine dx 97 (Qa (q:=AObj.row true 1 (Bs R (O k))) (r:=Cs (RU f x)) (3*k+1+16) rfl Tryz.func91 (by kernel_rfl) rfl rfl (by simp only[List.all_cons,List.all_nil,Bool.and_true];exact UP (by show mem _ _=true;exact KL _) rfl) (by(try simp only[hputs]);(repeat(first | refine Az (by exact Af (by omega)) ?_ | refine hrm_skip (by omega) ?_));exact(Ao _ _ _).trans (congrArg some (qq hkl))) rfl rfl (by have h:=NF (3*k+1) R (O k) hR;rw[hK.outRow hs hRt hW hx]at h;rw[hRf];exact h)) ?_;refine dx 98 (Cn Ag rfl rfl rfl rfl rfl rfl (by decide) rfl rfl rfl rfl rfl rfl) ?_;refine dx 99 (o_append1J Ag (b:=12) (es:=((HK f).take k).map CW) rfl rfl rfl rfl rfl rfl rfl rfl BA rfl rfl (Nat.zero_lt_succ _) (Jq fun _=>rfl) (Gq fun _=>rfl) rfl rfl (by rw[List.length_map,List.length_take];show(_+1)*24<=_;omega) (by rw[List.length_map,List.length_take];simp only[maxLen];omega)) ?_
  refine wk 1 ?_;refine DOps.w rfl rfl (o_store1 Ag rfl rfl rfl rfl rfl rfl rfl rfl rfl (Ds _ _) (by decide) (Dt _ _) (by intro h;cases h)) ?_;refine Fb Dj [([],[]),([10],[]),([],[]),([],[]),([],[]),([2],[]),([],[]),([4],[]),([4],[]),([],[]),([0],[]),([17],[]),([],[]),([12],[12]),([],[]),([10],[10])] nf (by kernel_rfl) ?_;refine XT ?_;refine aq 101 (Bj rfl rfl hkl (by simp only[maxLen];omega)) ?_;refine wk 2 ?_;exact⟨k+1,DropK.mk' Ik (Bl (k0:=13) rfl (by repeat(first | exact trivial | refine⟨⟨by first | rfl | exact congrArg (fun es=>some (Ia 1 es)) (Fh (OA hkl)) | exact congrArg (fun es=>some (Ia 1 es)) (Fh (Mn hx)) |(rw[<-Fh (OA hkl),<-Fh (Mn hx)];rfl),by first | rfl | exact Mi (by decide) | exact Dr _ _ | exact Ad (fun _ _=>CM _ _ _ _) | exact Ad (fun _ _=>CJ _ _ _)⟩,?_⟩)) FO (B7 (fun _=>A1 _) (fun _=>A1 _) (fun _=>Cz _))),hkl,by omega⟩
 refine acf ?_;have hge:f.blocks.length<=k:=by have h:=hb4;simp at h;omega
 refine wk 2 ?_;have hkn:k=f.blocks.length:=by omega
 subst hkn;refine AGo.ghost (.endCell 10 0 11 rfl rfl rfl (by decide)) ?_;refine AGo.ghost (.endCell 10 1 12 rfl rfl rfl (by decide)) ?_;refine wk 5 ?_;refine⟨[_],⟨⟨_,_,_,_,rfl,rfl,.ptr _ _ _ _ _ _ _ _ rfl rfl rfl,rfl⟩,trivial⟩,?_,rfl⟩;show AV.agg [AV.lst false _,AV.lst false _]=AV.agg [AV.lst false _,AV.lst false _];rw[List.take_of_length_le (by simp[HV]),List.take_of_length_le (by simp[HK])];rfl
theorem UE(f:BFunc)(R:Nat)(S:CS)(G:GG)(es:List (List AV))(len:Nat)(w:Nat->Bool)(b:Nat)(hb:b<R)(hR:R<=100000)(hl:len<=es.length)(he:es.length<=R):ACall Tryz.prog 83 [.ptr 2 1 0 0,.int .i64 (b:Int)] (DH (In f R S (es) (len) (w)) (DF f R S G)) (fun r h'=>r= .tup []/\HSub (EQ hNone (DH (In f R S (CY w es len b) (DE w len b) (Cu w b true)) (DF f R S G))) h'):=by
 refine ACall.of_body (n:=28) Ag Tryz.func83 rfl rfl ?_;refine wk 7 ?_;refine aq 9 (Ab Ag rfl rfl rfl rfl rfl rfl rfl (An _ _).symm rfl (Int.natCast_nonneg _) (by omega)) ?_;refine aq 10 (At Ag rfl rfl rfl (.ptr _ _ _ _ _ _ _ [.bool (w b)] rfl (An _ _).symm Lh) rfl) ?_;refine wk 2 ?_;refine asp 11 (fun hb1=>?_) fun hb1=>?_
 .
  refine act ?_;have hwb:w b=false:=by have h:=hb1;simpa using h
  refine wk 7 ?_;refine aq 17 (Ab Ag rfl rfl rfl rfl rfl rfl rfl (An _ _).symm rfl (Int.natCast_nonneg _) (by omega)) ?_;refine AOps.w rfl rfl (o_store Ag rfl rfl rfl rfl rfl rfl (An _ _).symm Lh rfl (by decide) rfl Dy) ?_;refine wk 8 ?_;refine ax 24 (Cn Ag rfl rfl rfl rfl rfl rfl (by decide) rfl rfl rfl rfl rfl rfl) ?_;refine ax 25 (LD Ag (es:=es) rfl rfl rfl rfl rfl rfl rfl rfl rfl rfl hl rfl rfl (Nat.zero_lt_succ _) (.lst _ _) rfl (fun _=>rfl) (by show _*8<=_;omega) (by simp only[maxLen];omega)) ?_;refine wk 4 ?_;have e1:CY w es len b=CV es len (BG b):=by unfold CY;rw[hwb];rfl
  have e2:DE w len b=len+1:=by unfold DE;rw[hwb];rfl
  rw[e1,e2];exact⟨[],trivial,rfl,(L1 rfl (by repeat(first | exact trivial | refine⟨by first | rfl | exact congrArg (fun es=>some (AObj.row true 1 es)) (H5 true),?_⟩)) GY)⟩
 refine acf ?_;have hwb:w b=true:=by have h:=hb1;simpa using h
 refine fH ?_;have e1:CY w es len b=es:=by unfold CY;rw[hwb];rfl
 have e2:DE w len b=len:=by unfold DE;rw[hwb];rfl
 rw[e1,e2,Hd hwb];exact fP
theorem UG(f:BFunc)(R:Nat)(S:CS)(G:GG)(es:List (List AV))(len:Nat)(w:Nat->Bool)(b:Nat)(x:Block)(hx:f.blocks[b]?=some x)(s:Site)(hat:s.at_<=x.ins.length):ACall Tryz.prog 85 [.ptr 2 1 0 0,.int .i64 (b:Int),.agg (G1 s)] (DH (In f R S (es) (len) (w)) (DF f R S G)) (fun r h'=>r= .bool (leftS (G b) x.ins.length s)/\HSub (EQ hNone (DH (In f R S (es) (len) (w)) (DF f R S G))) h'):=by
 have hb:b<f.blocks.length:=(List.getElem?_eq_some_iff.1 hx).1;refine ACall.of_body (n:=34) Ag Tryz.func85 rfl rfl ?_;refine MJ ?_;refine ax 5 (GJ 3 8) ?_;refine wk 12 ?_;refine dq 15 (MH Ag (AM hx)) ?_;refine wk 5 ?_;refine DOps.split 20 rfl (fun hb1=>?_) (fun hb1=>?_)
 .
  refine wk 12 ?_;refine dq 33 (Fo true rfl rfl rfl rfl) ?_;exact mP
 have hc0:=hb1;have hne: ¬s.at_=x.ins.length:=by have h:=hc0;simp at h;omega
 refine wk 5 ?_;refine dq 26 (Ab Ag rfl rfl rfl rfl rfl rfl rfl (An _ _).symm rfl (Int.natCast_nonneg _) (by omega)) ?_;refine dq 27 (At Ag rfl rfl rfl (.ptr _ _ _ _ _ _ _ [gR f b] rfl (An _ _).symm Lh) rfl) ?_;refine wk 2 ?_;refine dq 30 (Ab Ag rfl rfl rfl rfl rfl rfl fR (by rw[An,Cw hx]) rfl (Int.natCast_nonneg _) (by rw[Cw hx];omega)) ?_;refine dq 31 (At Ag rfl rfl rfl (.ptr _ _ _ _ true 1 (bC x.ins.length (G b)) [.bool (G b s.at_)] fR (by rw[An,Cw hx]) (by rw[Nat.zero_add,Int.toNat_natCast];exact BT (by omega))) rfl) ?_;refine dq 32 (Tq rfl rfl) ?_;refine dq 33 (Ez false rfl rfl rfl rfl) ?_;exact mP
theorem ZL(f:BFunc)(R:Nat)(S:CS)(G:GG)(es:List (List AV))(ws:List Nat)(w:Nat->Bool)(b p:Nat)(x:Block)(hx:f.blocks[b]?=some x)(hp:p<x.ins.length)(t:Tac)(ht: ∀u∈t.uses,0<=u/\u<R)(hR:R<=100000)(hq:QId R ⟨G,w,ws,es⟩):ACall Tryz.prog 87 [.ptr 2 1 0 0,.int .i64 (b:Int),.int .i64 (p:Int),.agg t.cells] (DH (In f R S (es) (ws.length) (w)) (DF f R S G)) (fun r h'=>r= .tup []/\HSub (EQ hNone (DH (In f R S (BU b p t.uses ⟨G,w,ws,es⟩).es (BU b p t.uses ⟨G,w,ws,es⟩).ws.length (BU b p t.uses ⟨G,w,ws,es⟩).w) (DF f R S (BU b p t.uses ⟨G,w,ws,es⟩).G))) h'):=by
 have hb:b<f.blocks.length:=(List.getElem?_eq_some_iff.1 hx).1;refine ACall.of_body (n:=30) Ag Tryz.func87 rfl rfl ?_;refine MJ ?_;refine ax 7 (GJ 8 0) ?_;refine wk 8 ?_;refine aq 15 (Ab Ag rfl rfl rfl rfl rfl rfl rfl (An _ _).symm rfl (Int.natCast_nonneg _) (by omega)) ?_;refine aq 16 (At Ag rfl rfl rfl (.ptr _ _ _ _ _ _ _ [gR f b] rfl (An _ _).symm Lh) rfl) ?_;refine wk 1 ?_;refine aq 18 (Ab Ag rfl rfl rfl rfl rfl rfl fR (by rw[An,Cw hx]) rfl (Int.natCast_nonneg _) (by rw[Cw hx];omega)) ?_;refine AOps.w rfl rfl (o_store Ag (es:=bC x.ins.length (G b)) (cs:=[.bool (G b p)]) rfl rfl rfl rfl rfl fR (by rw[An,Cw hx]) (by rw[Nat.zero_add,Int.toNat_natCast];exact BT hp) rfl (by decide) rfl (fun _=>rfl)) ?_;refine wk 4 ?_;refine ax 20 (DQ Tryz.func81 (O9 _)) ?_;refine wk 4 ?_;refine Bb (γ:=Nat) (kf 8) (fun k=>⟨30,(Aa (Aa (Aa (Aa A9 0 (.ptr 2 1 0 0)) 20 (A0 t.uses)) 21 (.int .i64 (t.uses.length:Int))) 22 (.int .i64 (k:Int))),(Hp (nb [(.row false 8 [t.cells]),.free,(.row false 8 [SO f R (((t.uses.take k).foldl (fun st u=>Gl st u.toNat) (⟨DJ G b p,w,ws,es⟩:RSd)).es).length (((t.uses.take k).foldl (fun st u=>Gl st u.toNat) (⟨DJ G b p,w,ws,es⟩:RSd)).ws.length)]),(.row false 1 (Ax (aR (Aw f)) f.blocks.length)),(.row false 1 (Ax (oR f.blocks.length R S) R)),(.row false 1 (Ax (gR f) f.blocks.length)),(.row true 1 (((t.uses.take k).foldl (fun st u=>Gl st u.toNat) (⟨DJ G b p,w,ws,es⟩:RSd)).es)),(.row true 1 (bC R (((t.uses.take k).foldl (fun st u=>Gl st u.toNat) (⟨DJ G b p,w,ws,es⟩:RSd)).w)))]) (DF f R S (DJ G b p)))⟩) (fun k=>QId R ((t.uses.take k).foldl (fun st u=>Gl st u.toNat) (⟨DJ G b p,w,ws,es⟩:RSd))/\k<=t.uses.length) (fun k=>t.uses.length-k) 0 (Sub.mk' Et (BY (k0:=8) rfl jY (fun x_=>by(try simp only[hputs]);(repeat(first | refine Az (by exact Af (by omega)) ?_ | refine hrm_skip (by omega) ?_));exact(DG aF _ _ x_).trans (congrArg some (lZ hb hx x_).symm)) fE)) ⟨⟨hq.wt,hq.st⟩,Nat.zero_le _⟩ (fun g b hb=>BH (k0:=8) rfl hb) ?_
 intro k hQ;generalize hqe:((t.uses.take k).foldl (fun st u=>Gl st u.toNat) (⟨DJ G b p,w,ws,es⟩:RSd))=q at hQ |-;refine wk 5 ?_;refine asp 23 (fun hb1=>?_) fun hb1=>?_
 .
  refine act ?_;have hkl:k<t.uses.length:=by have h:=hb1;simp[A0]at h;exact h
  obtain⟨u,hu⟩:=Ae hkl;have hub:=ht u (List.mem_of_getElem? hu);refine wk 5 ?_;refine aq 24 (MH Ag (AM hu)) ?_;refine wk 6 ?_;refine AOps.call 28 (hn:=EQ _ (DH (In f R S (CY q.w q.es q.ws.length u.toNat) ((Hb q.w q.ws u.toNat).length) (JJ q.w u.toNat)) (DF f R S (DJ G b p)))) (r:=.tup []) rfl rfl rfl (Ef (In f R S (q.es) (q.ws.length) (q.w)) (In f R S (CY q.w q.es q.ws.length u.toNat) ((Hb q.w q.ws u.toNat).length) (JJ q.w u.toNat)) (DF f R S (DJ G b p)) rfl Tryz.func83 (by kernel_rfl) rfl rfl rfl rfl rfl (Cc _ _ _ _ _ _) (Cc _ _ _ _ _ _) Rb GY (Bc CB f R _ _) (Bc CB f R _ _) rfl (by have h:=UE f R S (DJ G b p) q.es q.ws.length q.w u.toNat (by omega) hR hQ.1.st.le hQ.1.st.max;rw[Ni,Int.toNat_of_nonneg hub.1]at h;exact h)) ?_;refine wk 2 ?_;refine aq 29 (Bj rfl rfl hkl (by have:=Kp t;simp only[maxLen];omega)) ?_;refine wk 2 ?_;exact⟨k+1,DropK.mk' Ik (Bl (k0:=8) rfl (by repeat(first | exact trivial | refine⟨⟨by first | rfl | exact BQ rfl |(rw[Ml hu,hqe];first | rfl | exact BQ rfl),by first | rfl | exact Ad (fun _ _=>Bd (As _) _ _) | exact Ad (fun _ _=>A4 (As _) _ _ _ _) | exact Ad (fun _ _=>BX (As _) _ _)⟩,?_⟩)) GY (Bc (As _) f R _ _)),⟨by rw[Ml hu,hqe];exact hQ.1.push (by omega),hkl⟩,by omega⟩
 refine acf ?_;have hge:t.uses.length<=k:=by have h:=hb1;simp[A0]at h;omega
 refine wk 1 ?_;have hk:k=t.uses.length:=by omega
 subst hk;rw[List.take_length]at hqe;have e1:BU b p t.uses ⟨G,w,ws,es⟩=q:=hqe;have e2:q.G=DJ G b p:=by rw[<-e1];exact MV _ _ _ _
 rw[e1,e2];exact fP
theorem UF(f:BFunc)(hs:f.sane)(R:Nat)(G:GG)(es:List (List AV))(len:Nat)(w:Nat->Bool)(v:Nat)(hv:v<R)(hn:f.blocks.length<=100000)(hR:R<=100000)(hi: ∀x∈f.blocks,x.ins.length<=100000):ACall Tryz.prog 84 [.ptr 2 1 0 0,.int .i64 (v:Int)] (DH (In f R (SB f) (es) (len) (w)) (DF f R (SB f) G)) (fun r h'=>r=Cs (G3 f.blocks.length (fun b=>V9 (Cq f G) v b))/\HSub (EQ hNone (DH (In f R (SB f) (es) (len) (w)) (DF f R (SB f) G))) h'):=by
 refine ACall.of_body (n:=122) Ag Tryz.func84 rfl rfl ?_;refine wk 12 ?_;refine ax 21 (AA Ag (n:=f.blocks.length) (m:=f.blocks.length) 0 true rfl rfl rfl ((by simp)) ((by simp)) rfl rfl rfl rfl rfl (Nat.zero_lt_succ _) rfl (Nat.le_refl _) (by show 8*f.blocks.length<=_;omega) (by simp only[maxLen];omega)) ?_;refine wk 10 ?_;refine ax 28 (AA Ag (n:=f.blocks.length) (m:=f.blocks.length) 1 true rfl rfl rfl ((by simp)) ((by simp)) rfl rfl rfl rfl rfl (Nat.zero_lt_succ _) rfl (Nat.le_refl _) (by show 1*f.blocks.length<=_;omega) (by simp only[maxLen];omega)) ?_;refine wk 8 ?_;refine AGo.ghost (.dry 7 8 1 true rfl rfl rfl (by decide)) ?_;refine wk 6 ?_;refine aq 34 (Ab Ag rfl rfl rfl rfl rfl rfl BA (An _ _).symm rfl (Int.natCast_nonneg _) (by omega)) ?_;refine aq 35 (At Ag rfl rfl rfl (.ptr _ _ _ _ _ _ _ [oR f.blocks.length R (SB f) v] BA (An _ _).symm X8) rfl) ?_;refine aq 36 (FE Ag rfl rfl rfl rfl) ?_;refine wk 3 ?_;refine Bb (γ:=Nat×List (List AV)) (kf 9) (fun q=>⟨122,(Aa (Aa (Aa (Aa (Aa (Aa (Aa (Aa A9 0 (.ptr 2 1 0 0)) 1 (.int .i64 (v:Int))) 5 (.ref 0 f.blocks.length 0 f.blocks.length)) 6 (.ref 1 f.blocks.length 0 f.blocks.length)) 7 (.ref 8 q.2.length 0 (todoK f G v q.1).length)) 35 (oR f.blocks.length R (SB f) v)) 36 (.int .i64 ((JQ f.blocks.length R (SB f) v).length:Int))) 37 (.int .i64 (q.1:Int))),(Hp (nb [(.row true 1 (iC f.blocks.length (HW f G v q.1))),(.row true 1 (bC f.blocks.length (SN f G v q.1))),(.row false 8 [SO f R (es).length (len)]),(.row false 1 (Ax (aR (Aw f)) f.blocks.length)),(.row false 1 (Ax (oR f.blocks.length R (SB f)) R)),(.row false 1 (Ax (gR f) f.blocks.length)),(.row true 1 (es)),(.row true 1 (bC R (w))),(.row true 1 q.2)]) (DF f R (SB f) G))⟩) (fun q=>q.1<=(Fy f v).length/\StackI f.blocks.length q.2 (todoK f G v q.1)) (fun q=>(Fy f v).length-q.1) (0,[]) (Sub.mk' (by repeat(first | exact ESub.new _ | refine ESub.put ?_ (by first | rfl))) (BY (k0:=9) rfl (by repeat(first | exact trivial | refine⟨⟨by first | rfl | exact congrArg (fun es=>some (AObj.row true 1 es)) ((Hu _ _).trans (by rw[QQ];rfl)) | exact congrArg (fun es=>some (AObj.row true 1 es)) ((Hu _ _).trans (by unfold SN;rw[QQ];rfl)) |((try simp only[hputs]);repeat(first | rfl | exact Aq _ _ _ | refine Az (by exact Af (by omega)) ?_ | refine hrm_skip (by omega) ?_ | refine(CD _ Ps).trans ?_)),by first | rfl | exact Ad (fun _ _=>Bd (As _) _ _) | exact Ad (fun _ _=>A4 (As _) _ _ _ _) | exact Ad (fun _ _=>BX (As _) _ _) | exact EE _⟩,?_⟩)) FO X9)) ⟨Nat.zero_le _,by unfold todoK;exact StackI.none _⟩ (fun g b hb=>BH (k0:=9) rfl hb) ?_
 intro q hq;refine wk 5 ?_;refine asp 38 (fun hb1=>?_) fun hb1=>?_
 .
  refine act ?_;have hkl:q.1<(Fy f v).length:=by have h:=hb1;rw[D4]at h;simp only[decide_eq_true_eq]at h;exact Int.ofNat_lt.1 h
  obtain⟨i,hgi⟩:=Ae hkl;have hig:i<f.blocks.length/\0<(SB f i v).length:=Sg (S:=SB f) hgi;obtain⟨x,hx⟩:=Ae hig.1;refine wk 5 ?_;refine aq 39 (NU Ag rfl rfl rfl rfl rfl rfl ((Ao _ _ _).trans (congrArg some (SH hv))) rfl (Int.natCast_nonneg _) (by rw[D4];exact Int.ofNat_lt.2 hkl)) ?_;refine aq 40 (At Ag rfl rfl rfl (.ptr _ _ _ _ false 2 (JQ f.blocks.length R (SB f) v) (Up R (SB f) v i) ((Ao _ _ _).trans (congrArg some ((SH hv).trans (Rs (k:=q.1) (by rw[D4];exact hkl))))) rfl (by rw[Int.toNat_natCast];show((Fy f v).map (Up R (SB f) v))[_]?=_;rw[List.getElem?_map,hgi];rfl)) rfl) ?_;refine ax 9 (HL Ag 9 rfl rfl BA rfl (Nat.zero_lt_succ _) rfl) ?_;refine wk 10 ?_;refine Bb (γ:=Nat) (kf 10) (fun j=>⟨122,(Aa (Aa (Aa (Aa (Aa (Aa (Aa (Aa (Aa (Aa (Aa (Aa A9 0 (.ptr 2 1 0 0)) 1 (.int .i64 (v:Int))) 5 (.ref 0 f.blocks.length 0 f.blocks.length)) 6 (.ref 1 f.blocks.length 0 f.blocks.length)) 7 (.ref 8 q.2.length 0 (todoK f G v q.1).length)) 35 (oR f.blocks.length R (SB f) v)) 36 (.int .i64 ((JQ f.blocks.length R (SB f) v).length:Int))) 37 (.int .i64 (q.1:Int))) 9 (.ptr 9 1 0 0)) 42 (.ref (4*(v+R*i)+3+16) (Hg f v i).length 0 (Hg f v i).length)) 43 (.int .i64 ((Hg f v i).length:Int))) 44 (.int .i64 (j:Int))),(Hp (nb [(.row true 1 (iC f.blocks.length (HW f G v q.1))),(.row true 1 (bC f.blocks.length (SN f G v q.1))),(.row false 8 [SO f R (es).length (len)]),(.row false 1 (Ax (aR (Aw f)) f.blocks.length)),(.row false 1 (Ax (oR f.blocks.length R (SB f)) R)),(.row false 1 (Ax (gR f) f.blocks.length)),(.row true 1 (es)),(.row true 1 (bC R (w))),(.row true 1 q.2),(.row false 2 [Up R (SB f) v i])]) (DF f R (SB f) G))⟩) (fun j=>C7 (G i) x.ins.length ((Hg f v i).drop j)=firstG f G v i/\j<=(Hg f v i).length) (fun j=>(Hg f v i).length-j) 0 (Sub.mk' Et (BY (k0:=10) rfl ri FO Kk)) ⟨by rw[List.drop_zero,DA hx,F9 hx],Nat.zero_le _⟩ (fun g b hb=>BH (k0:=10) rfl hb) ?_
  intro j hF;refine wk 5 ?_;refine asp 45 (fun hb2=>?_) fun hb2=>?_
  .
   refine act ?_;have hjl:j<(Hg f v i).length:=by have h:=hb2;simp at h;exact h
   obtain⟨s,hsj⟩:=Ae hjl;have hat:=W5 hx hsj;refine wk 5 ?_;refine aq 46 (Ab Ag rfl rfl rfl rfl rfl rfl ((Ao _ _ _).trans (congrArg some (Nd hv hig.2))) (List.length_map _).symm rfl (Int.natCast_nonneg _) (by omega)) ?_;refine aq 47 (At Ag rfl rfl rfl (.ptr _ _ _ _ true 3 ((Hg f v i).map G1) (G1 s) ((Ao _ _ _).trans (congrArg some (Nd hv hig.2))) (List.length_map _).symm (by rw[Nat.zero_add,Int.toNat_natCast,List.getElem?_map,hsj];rfl)) rfl) ?_;refine ax 11 (HL Ag 10 rfl rfl BA rfl (Nat.zero_lt_succ _) rfl) ?_;refine wk 9 ?_;refine AOps.call 52 (hn:=EQ _ (DH (In f R (SB f) (es) (len) (w)) (DF f R (SB f) G))) (r:=.bool (leftS (G i) x.ins.length s)) rfl rfl rfl (Ef (In f R (SB f) (es) (len) (w)) (In f R (SB f) (es) (len) (w)) (DF f R (SB f) G) rfl Tryz.func85 (by kernel_rfl) rfl rfl rfl rfl rfl (Cc _ _ _ _ _ _) (Cc _ _ _ _ _ _) Rb GY (Bc CB f R _ _) (Bc CB f R _ _) rfl (UG f R (SB f) G es len w i x hx s hat)) ?_
   refine wk 2 ?_;refine asp 53 (fun hb3=>?_) fun hb3=>?_
   .
    refine act ?_;have hlf:leftS (G i) x.ins.length s=false:=by have h:=hb3;simpa using h
    refine wk 2 ?_;refine aq 73 (Bj rfl rfl hjl (by have:=MO hx (v:=v);have:=hi x (List.mem_of_getElem? hx);simp only[maxLen];omega)) ?_;refine wk 2 ?_;exact⟨j+1,DropK.mk' (by repeat(first | exact EDropK.new _ _ | refine EDropK.put ?_ (by first | rfl | exact congrArg (fun(n:Nat)=>some (AV.int .i64 (n:Int))) (by simp)) (by first | rfl | exact A4 (As _) _ _ _ _ | exact T9 _ _))) (Bl (k0:=10) rfl tK GY (Bc (As _) f R _ _)),⟨by rw[<-first_skip hsj hlf];exact hF.1,hjl⟩,(by omega)⟩
   refine acf ?_;have hlf:leftS (G i) x.ins.length s=true:=by have h:=hb3;simpa using h
   refine wk 6 ?_;refine aq 57 (Ab Ag rfl rfl rfl rfl rfl rfl BA (An _ _).symm rfl (Int.natCast_nonneg _) (by omega)) ?_;refine AOps.w rfl rfl (o_store Ag rfl rfl rfl rfl rfl BA (An _ _).symm (by rw[Nat.zero_add,Int.toNat_natCast];exact BT hig.1) rfl (by decide) rfl (fun _=>rfl)) ?_;refine wk 7 ?_;refine asp 59 (fun hb4=>?_) fun hb4=>?_
   .
    refine act ?_;have hfg:firstG f G v i=1:=by rw[<-hF.1,OJ hsj hlf,show s.r=true from hb4];rfl
    refine wk 5 ?_;refine aq 63 (Ab Ag rfl rfl rfl rfl rfl rfl BA (by rw[List.length_set];exact(An _ _).symm) rfl (Int.natCast_nonneg _) (by omega)) ?_;refine AOps.w rfl rfl (o_store Ag rfl rfl rfl rfl rfl BA (by rw[List.length_set];exact(An _ _).symm) (List.getElem?_set_self (by rw[An];omega)) rfl (by decide) rfl (fun _=>rfl)) ?_;refine wk 6 ?_;refine aq 67 (Ab Ag rfl rfl rfl rfl rfl rfl BA (An _ _).symm rfl (Int.natCast_nonneg _) (by omega)) ?_;refine AOps.w rfl rfl (o_store Ag rfl rfl rfl rfl rfl BA (An _ _).symm (by rw[Nat.zero_add,Int.toNat_natCast];exact BT hig.1) rfl (by decide) rfl (fun _=>rfl)) ?_;refine wk 5 ?_;refine ax 71 (Cn Ag rfl rfl rfl rfl rfl rfl (by decide) rfl rfl rfl rfl rfl rfl) ?_;refine ax 72 (LD Ag (es:=q.2) rfl rfl rfl rfl rfl rfl rfl rfl BA rfl hq.2.le rfl rfl (Nat.zero_lt_succ _) (.lst _ _) rfl (fun _=>rfl) (by have:=hq.2.max;show _*8<=_;omega) (by have:=hq.2.max;simp only[maxLen];omega)) ?_
    refine wk 4 ?_;refine aq 74 (Bj rfl rfl hkl jV) ?_;refine wk 2 ?_;exact⟨(q.1+1,CV q.2 (todoK f G v q.1).length (BG i)),DropK.mk' tJ (Bl (k0:=9) rfl tO GY (Bc (As _) f R _ _)),⟨hkl,by rw[<-No hgi hfg];exact hq.2.push (Nat.lt_of_le_of_lt (Yu f G v q.1) (Nat.lt_of_lt_of_le hkl (Sf (SB f) f.blocks.length v)))⟩,(by show(Fy f v).length-(q.1+1)<(Fy f v).length-q.1;omega)⟩
   refine acf ?_;have hfg:firstG f G v i=2:=by rw[<-hF.1,OJ hsj hlf,show s.r=false from hb4];rfl
   refine wk 3 ?_;exact m5
  refine acf ?_;have hjge:(Hg f v i).length<=j:=by have h:=hb2;simp at h;omega
  have hfg:firstG f G v i=0:=by rw[<-hF.1,List.drop_eq_nil_iff.2 hjge];rfl
  refine wk 2 ?_;exact m5
 refine acf ?_;have hkge:(Fy f v).length<=q.1:=by have h:=hb1;rw[D4]at h;simp only[decide_eq_false_iff_not]at h;exact Nat.le_of_not_lt fun e=>h (Int.ofNat_lt.2 e)
 refine wk 3 ?_;refine Bb (γ:=MQ) (kf 9) (fun m=>⟨122,(Aa (Aa (Aa (Aa (Aa A9 0 (.ptr 2 1 0 0)) 1 (.int .i64 (v:Int))) 5 (.ref 0 f.blocks.length 0 f.blocks.length)) 6 (.ref 1 f.blocks.length 0 f.blocks.length)) 7 (.ref 8 m.es.length 0 m.todo.length)),(Hp (nb [(.row true 1 (iC f.blocks.length (firstG f G v))),(.row true 1 (bC f.blocks.length m.inn)),(.row false 8 [SO f R (es).length (len)]),(.row false 1 (Ax (aR (Aw f)) f.blocks.length)),(.row false 1 (Ax (oR f.blocks.length R (SB f)) R)),(.row false 1 (Ax (gR f) f.blocks.length)),(.row true 1 (es)),(.row true 1 (bC R (w))),(.row true 1 m.es)]) (DF f R (SB f) G))⟩) (fun m=>BfI f G v m.inn m.todo 0 []/\StackI f.blocks.length m.es m.todo) (fun m=>2*L3 f.blocks.length m.inn+m.todo.length) ⟨SN f G v q.1,todoK f G v q.1,q.2⟩ (Sub.mk' Cf (BY (k0:=9) rfl (by repeat(first | exact trivial | refine⟨⟨by first | rfl | exact congrArg (fun w=>some (AObj.row true 1 (iC _ w))) (Us hkge),by first | rfl | exact Ad (fun _ _=>Bd (As _) _ _) | exact Ad (fun _ _=>A4 (As _) _ _ _ _) | exact Ad (fun _ _=>BX (As _) _ _) | exact EE _⟩,?_⟩)) FO X9)) ⟨BfI.first hkge,hq.2⟩ (fun g b hb=>BH (k0:=9) rfl hb) ?_
 intro m hM;obtain⟨inn,todo,es'⟩:=m;dsimp only at hM |-;refine wk 7 ?_;refine asp 77 (fun hb5=>?_) fun hb5=>?_
 .
  refine act ?_;obtain⟨todo',b,htd⟩: ∃todo' b,todo=todo'++[b]:=by
   rcases EW todo with h | h
   . have h2:=hb5;rw[h]at h2;simp at h2
   . exact h
  subst htd;have hib:=hM.1.tod b (List.mem_append.2 (.inr (List.mem_singleton.2 rfl)));have hb:=(hM.1.sound b hib).1;refine wk 7 ?_;refine aq 81 (AU (r:=.int .i64 (todo'.length:Int)) rfl rfl rfl (KE (by have:=hM.1.cnt;simp at this;omega))) ?_;refine aq 82 (Ab Ag rfl rfl rfl rfl rfl rfl BA rfl rfl (Int.natCast_nonneg _) (by simp;omega)) ?_;refine aq 83 (At Ag rfl rfl rfl (.ptr _ _ _ _ _ _ _ (BG b) BA rfl (by rw[Nat.zero_add,Int.toNat_natCast];exact hM.2.get)) rfl) ?_;refine wk 7 ?_;refine aq 87 (AU (r:=.int .i64 (todo'.length:Int)) rfl rfl rfl (KE (by have:=hM.1.cnt;simp at this;omega))) ?_;refine aq 88 (Fm Ag (es:=es') (m:=todo'.length) rfl rfl rfl rfl rfl rfl BA rfl rfl (by simp)) ?_;refine wk 9 ?_;refine aq 94 (Ab Ag rfl rfl rfl rfl rfl rfl BA (An _ _).symm rfl (Int.natCast_nonneg _) (by omega)) ?_;refine aq 95 (At Ag rfl rfl rfl (.ptr _ _ _ _ _ _ _ [aR (Aw f) b] BA (An _ _).symm Lh) rfl) ?_
  refine aq 96 (FE Ag rfl rfl rfl rfl) ?_;refine wk 3 ?_;refine Bb (γ:=MP) (kf 9) (fun p=>⟨122,(Aa (Aa (Aa (Aa (Aa (Aa (Aa (Aa (Aa A9 0 (.ptr 2 1 0 0)) 1 (.int .i64 (v:Int))) 5 (.ref 0 f.blocks.length 0 f.blocks.length)) 6 (.ref 1 f.blocks.length 0 f.blocks.length)) 7 (.ref 8 p.es.length 0 p.todo.length)) 12 (.int .i64 (b:Int))) 95 (aR (Aw f) b)) 96 (.int .i64 ((Aw f b).length:Int))) 97 (.int .i64 (p.j:Int))),(Hp (nb [(.row true 1 (iC f.blocks.length (firstG f G v))),(.row true 1 (bC f.blocks.length p.inn)),(.row false 8 [SO f R (es).length (len)]),(.row false 1 (Ax (aR (Aw f)) f.blocks.length)),(.row false 1 (Ax (oR f.blocks.length R (SB f)) R)),(.row false 1 (Ax (gR f) f.blocks.length)),(.row true 1 (es)),(.row true 1 (bC R (w))),(.row true 1 p.es)]) (DF f R (SB f) G))⟩) (fun p=>MPI f G v b (2*L3 f.blocks.length inn+todo'.length) p) (fun p=>(Aw f b).length-p.j) ⟨inn,todo',es',0⟩ (Sub.mk' (by repeat(first | exact ESub.new _ | refine ESub.put ?_ (by first | rfl | exact congrArg (fun m:Nat=>some (AV.int .i64 (m:Int))) (by simp)))) (BY (k0:=9) rfl j5 FO X9)) ⟨hM.1.pop,hib,hM.2.pop,Nat.le_refl _⟩ (fun g b hb=>BH (k0:=9) rfl hb) ?_
  intro p hP;refine wk 5 ?_;refine asp 98 (fun hb6=>?_) fun hb6=>?_
  .
   refine act ?_;have hjl:p.j<(Aw f b).length:=by have h:=hb6;simp at h;exact h
   obtain⟨a,ha⟩:=Ae hjl;have ha2:=JF (List.mem_of_getElem? ha);refine wk 5 ?_;refine aq 99 (IA Ag (b:=4*b+0+16) (es:=(Aw f b).map BG) rfl rfl rfl rfl rfl rfl ((Ao _ _ _).trans (congrArg some (jB hb))) rfl (Int.natCast_nonneg _) (by rw[List.length_map];omega)) ?_;refine aq 100 (At Ag rfl rfl rfl (.ptr _ _ _ _ true 1 ((Aw f b).map BG) (BG a) ((Ao _ _ _).trans (congrArg some ((jB hb).trans (Rt (k:=p.j) (by rw[List.length_map];omega))))) rfl (by rw[Int.toNat_natCast,List.getElem?_map,ha];rfl)) rfl) ?_;refine wk 6 ?_;refine aq 103 (Ab Ag rfl rfl rfl rfl rfl rfl BA (An _ _).symm rfl (Int.natCast_nonneg _) (by omega)) ?_;refine aq 104 (At Ag rfl rfl rfl (.ptr _ _ _ _ _ _ _ [.int .i64 (firstG f G v a:Int)] BA (An _ _).symm (by rw[Nat.zero_add,Int.toNat_natCast];exact BT ha2)) rfl) ?_;refine wk 2 ?_;refine EP 106 (fun hb7=>?_) fun hb7=>?_
   .
    refine wk 1 ?_;have hz:=hb7;refine wk 1 ?_;refine aq 109 (Ab Ag rfl rfl rfl rfl rfl rfl BA (An _ _).symm rfl (Int.natCast_nonneg _) (by omega)) ?_;refine aq 110 (At Ag rfl rfl rfl (.ptr _ _ _ _ _ _ _ [.bool (p.inn a)] BA (An _ _).symm (by rw[Nat.zero_add,Int.toNat_natCast];exact BT ha2)) rfl) ?_;refine wk 3 ?_;refine asp 112 (fun hb8=>?_) fun hb8=>?_
    .
     refine act ?_;have h0:firstG f G v a=0:=by have h:=hz;simp at h;omega
     have hni:p.inn a=false:=by have h:=hb8;simpa using h
     refine wk 4 ?_;refine aq 115 (Ab Ag rfl rfl rfl rfl rfl rfl BA (An _ _).symm rfl (Int.natCast_nonneg _) (by omega)) ?_;refine AOps.w rfl rfl (o_store Ag rfl rfl rfl rfl rfl BA (An _ _).symm (by rw[Nat.zero_add,Int.toNat_natCast];exact BT ha2) rfl (by decide) rfl (fun _=>rfl)) ?_;refine wk 4 ?_;refine ax 118 (Cn Ag rfl rfl rfl rfl rfl rfl (by decide) rfl rfl rfl rfl rfl rfl) ?_;refine ax 119 (LD Ag (es:=p.es) rfl rfl rfl rfl rfl rfl rfl rfl BA rfl hP.st.le rfl rfl (Nat.zero_lt_succ _) (.lst _ _) rfl (fun _=>rfl) (by have:=hP.st.max;show _*8<=_;omega) (by have:=hP.st.max;simp only[maxLen];omega)) ?_;refine wk 3 ?_;refine aq 120 (Bj rfl rfl hjl (by have:=Ki f b;simp only[maxLen];omega)) ?_;refine wk 2 ?_;exact⟨⟨Cu p.inn a true,p.todo++[a],CV p.es p.todo.length (BG a),p.j+1⟩,DropK.mk' ni (Bl (k0:=9) rfl tM FO (Bc (As _) f R _ _)),(hP.push ha h0 hni),(by show(Aw f b).length-(p.j+1)<(Aw f b).length-p.j;omega)⟩
    refine acf ?_;have hno: ¬(firstG f G v a=0/\p.inn a=false):=fun e=>by
     have h:=hz;have h2:=hb8;simp[e.1,e.2]at h h2
    exact zt20
   refine wk 1 ?_;have hz:=hb7;refine wk 7 ?_;have hno: ¬(firstG f G v a=0/\p.inn a=false):=fun e=>by
    have h:=hz;have h2:=hb7;simp[e.1,e.2]at h h2
   exact zt20
  refine acf ?_;have hjge:(Aw f b).length<=p.j:=by have h:=hb6;simp at h;omega
  refine wk 1 ?_;exact⟨⟨p.inn,p.todo,p.es⟩,DropK.mk' Ik (Bl (k0:=9) rfl j5 FO (Bc (As _) f R _ _)),⟨(by have h:=hP.k;rw[List.drop_eq_nil_iff.2 hjge]at h;exact h.any),hP.st⟩,(Nat.lt_of_le_of_lt hP.mu (by show 2*L3 f.blocks.length inn+todo'.length<2*L3 f.blocks.length inn+(todo'++[b]).length;simp))⟩
 refine acf ?_;have htd:todo=[]:=by
  rcases EW todo with h |⟨L,b,h⟩
  . exact h
  . have h2:=hb5;rw[h]at h2;simp at h2
 subst htd;refine wk 2 ?_;refine AGo.ghost (.freezeA 6 1 rfl rfl (An _ _).symm) ?_;refine wk 5 ?_;refine⟨[_],⟨rfl,trivial⟩,?_,(L1 rfl (by repeat(first | exact trivial | refine⟨by first | rfl |((try simp only[hputs]);repeat(first | rfl | exact Aq _ _ _ | refine Az (by exact Af (by omega)) ?_ | refine hrm_skip (by omega) ?_ | refine(CD _ Ps).trans ?_)),?_⟩)) (fun x_=>by dsimp only;rw[E5 _ (by omega)];exact Ao _ _ _))⟩;show AV.lst false (bC f.blocks.length inn)=_;rw[fd];exact congrArg Cs (J9 fun b hb=>hM.1.done hs hb)
theorem er(t:Tac):APure Tryz.prog 86 [.agg t.cells] (fun r=>r= .bool t.pure):=by
 refine APure.of_body (n:=19) Ag Tryz.func86 rfl rfl ?_;refine MJ ?_;refine ax 1 (GJ 8 0) ?_;refine wk 15 ?_;refine asp 5 (fun hb1=>?_) fun hb1=>?_
 .
  refine wk 7 ?_;exact X0
 refine wk 6 ?_;refine asp 5 (fun hb2=>?_) fun hb2=>?_
 .
  refine wk 7 ?_;exact X0
 refine wk 5 ?_;refine asp 5 (fun hb3=>?_) fun hb3=>?_
 .
  refine wk 5 ?_;exact X0
 refine wk 6 ?_;refine asp 9 (fun hb4=>?_) fun hb4=>?_
 .
  refine wk 7 ?_;refine EP 14 (fun hb5=>?_) fun hb5=>?_
  .
   refine wk 6 ?_;exact X0
  refine wk 6 ?_;exact X0
 refine wk 6 ?_;exact X0
theorem Sm(f:BFunc)(hs:f.sane)(R:Nat)(hRf:f.regs=(R:Int))(st:RSd)(hq:QId R st)(v:Nat)(hv:v<R)(hn:f.blocks.length<=100000)(hR:R<=100000)(hi: ∀x∈f.blocks,x.ins.length<=100000):ACall Tryz.prog 59 [.ptr 2 1 0 0,.int .i64 (v:Int)] (DH (In f R (SB f) (st.es) (st.ws.length) (st.w)) (DF f R (SB f) st.G)) (fun r h'=>r= .tup []/\HSub (EQ hNone (DH (In f R (SB f) (HF f v st).es (HF f v st).ws.length (HF f v st).w) (DF f R (SB f) (HF f v st).G))) h'):=by
 obtain⟨inn,hinn⟩: ∃inn:Nat->Bool,inn=fun b=>V9 (Cq f st.G) v b:=⟨_,rfl⟩
 refine ACall.of_body (n:=109) Ag Tryz.func59 rfl rfl ?_;refine wk 8 ?_;refine aq 18 (Ab Ag rfl rfl rfl rfl rfl rfl rfl (An _ _).symm rfl (Int.natCast_nonneg _) (by omega)) ?_;refine aq 19 (At Ag rfl rfl rfl (.ptr _ _ _ _ _ _ _ [oR f.blocks.length R (SB f) v] BA (An _ _).symm X8) rfl) ?_;refine aq 20 (FE Ag rfl rfl rfl rfl) ?_;refine wk 2 ?_;refine asp 21 (fun hb1=>?_) fun hb1=>?_
 .
  refine act ?_;have hz0:(Fy f v).length=0:=by have h:=hb1;rw[D4]at h;simp only[beq_iff_eq]at h;exact Int.ofNat_inj.1 h
  refine FZ ?_;rw[YL hz0];exact fP
 refine acf ?_
 skip
 refine wk 5 ?_;refine AOps.call 24 (hn:=EQ _ (DH (In f R (SB f) (st.es) (st.ws.length) (st.w)) (DF f R (SB f) st.G))) (r:=Cs (G3 f.blocks.length inn)) rfl rfl rfl (Ef (In f R (SB f) (st.es) (st.ws.length) (st.w)) (In f R (SB f) (st.es) (st.ws.length) (st.w)) (DF f R (SB f) st.G) rfl Tryz.func84 (by kernel_rfl) rfl rfl rfl rfl rfl (Cc _ _ _ _ _ _) (Cc _ _ _ _ _ _) Rb GY (Bc CB f R _ _) (Bc CB f R _ _) rfl (by rw[hinn];exact UF f hs R st.G st.es st.ws.length st.w v hv hn hR hi)) ?_;refine wk 9 ?_;refine aq 30 (Ab Ag rfl rfl rfl rfl rfl rfl BA (An _ _).symm rfl (Int.natCast_nonneg _) (by omega)) ?_;refine aq 31 (At Ag rfl rfl rfl (.ptr _ _ _ _ _ _ _ [oR f.blocks.length R (SB f) v] BA (An _ _).symm X8) rfl) ?_;refine aq 32 (FE Ag rfl rfl rfl rfl) ?_;refine wk 3 ?_;refine Bb (γ:=Nat) (kf 8) (fun k=>⟨109,(Aa (Aa (Aa (Aa (Aa (Aa A9 0 (.ptr 2 1 0 0)) 1 (.int .i64 (v:Int))) 4 (Cs (G3 f.blocks.length inn))) 31 (oR f.blocks.length R (SB f) v)) 32 (.int .i64 ((JQ f.blocks.length R (SB f) v).length:Int))) 33 (.int .i64 (k:Int))),(Hp (nb [.free,.free,(.row false 8 [SO f R ((J4 f inn v st k).es).length ((J4 f inn v st k).ws.length)]),(.row false 1 (Ax (aR (Aw f)) f.blocks.length)),(.row false 1 (Ax (oR f.blocks.length R (SB f)) R)),(.row false 1 (Ax (gR f) f.blocks.length)),(.row true 1 ((J4 f inn v st k).es)),(.row true 1 (bC R ((J4 f inn v st k).w)))]) (DF f R (SB f) (J4 f inn v st k).G))⟩) (fun k=>k<=(Fy f v).length/\QId R (J4 f inn v st k)) (fun k=>(Fy f v).length-k) 0 (Sub.mk' (by repeat(first | exact ESub.new _ | refine ESub.put ?_ (by first | rfl))) (BY (k0:=8) rfl tK GY fE)) ⟨Nat.zero_le _,hq⟩ (fun g b hb=>BH (k0:=8) rfl hb) ?_
 intro k hQ;generalize hK:(J4 f inn v st k)=q at hQ |-;refine wk 5 ?_;refine asp 34 (fun hb2=>?_) fun hb2=>?_
 .
  refine act ?_;have hkl:k<(Fy f v).length:=by have h:=hb2;rw[D4]at h;simp only[decide_eq_true_eq]at h;exact Int.ofNat_lt.1 h
  obtain⟨i,hgi⟩:=Ae hkl;have hig:i<f.blocks.length/\0<(SB f i v).length:=Sg (S:=SB f) hgi;obtain⟨x,hx⟩:=Ae hig.1;have hxm:=List.mem_of_getElem? hx;refine wk 5 ?_;refine aq 35 (NU Ag rfl rfl rfl rfl rfl rfl ((Ao _ _ _).trans (congrArg some (SH hv))) rfl (Int.natCast_nonneg _) (by rw[D4];exact Int.ofNat_lt.2 hkl)) ?_;refine aq 36 (At Ag rfl rfl rfl (.ptr _ _ _ _ false 2 (JQ f.blocks.length R (SB f) v) (Up R (SB f) v i) ((Ao _ _ _).trans (congrArg some ((SH hv).trans (Rs (k:=k) (by rw[D4];exact hkl))))) rfl (by rw[Int.toNat_natCast];show((Fy f v).map (Up R (SB f) v))[_]?=_;rw[List.getElem?_map,hgi];rfl)) rfl) ?_;refine ax 6 (HL Ag 8 rfl rfl BA rfl (Nat.zero_lt_succ _) rfl) ?_;refine wk 15 ?_;refine dq 43 (Au Ag rfl rfl rfl rfl rfl rfl (Int.natCast_nonneg _) (AM (CI hx)) rfl) ?_;refine wk 5 ?_;refine Bb (γ:=Nat) (kf 9) (fun j=>⟨109,(Aa (Aa (Aa (Aa (Aa (Aa (Aa (Aa (Aa (Aa (Aa A9 0 (.ptr 2 1 0 0)) 1 (.int .i64 (v:Int))) 4 (Cs (G3 f.blocks.length inn))) 31 (oR f.blocks.length R (SB f) v)) 32 (.int .i64 ((JQ f.blocks.length R (SB f) v).length:Int))) 33 (.int .i64 (k:Int))) 6 (.ptr 8 1 0 0)) 7 (.bool (UO inn x j))) 44 (A0 x.nexts)) 45 (.int .i64 (x.nexts.length:Int))) 46 (.int .i64 (j:Int))),(Hp (nb [.free,.free,(.row false 8 [SO f R (q.es).length (q.ws.length)]),(.row false 1 (Ax (aR (Aw f)) f.blocks.length)),(.row false 1 (Ax (oR f.blocks.length R (SB f)) R)),(.row false 1 (Ax (gR f) f.blocks.length)),(.row true 1 (q.es)),(.row true 1 (bC R (q.w))),(.row false 2 [Up R (SB f) v i])]) (DF f R (SB f) q.G))⟩) (fun j=>True) (fun j=>x.nexts.length-j) 0 (Sub.mk' Et (BY (k0:=9) rfl ri FO X9)) trivial (fun g b hb=>BH (k0:=9) rfl hb) ?_
  intro j _;refine wk 5 ?_;refine asp 47 (fun hb3=>?_) fun hb3=>?_
  .
   refine act ?_;have hjl:j<x.nexts.length:=by have h:=hb3;simp[A0]at h;exact h
   obtain⟨d,hd⟩:=Ae hjl;have hd0:=hs.next x hxm d (List.mem_of_getElem? hd);have hdn:d.toNat<f.blocks.length:=by omega
   refine wk 5 ?_;refine aq 48 (MH Ag (AM hd)) ?_;refine wk 6 ?_;refine EP 51 (fun hb4=>?_) fun hb4=>?_
   .
    refine wk 8 ?_;exact mU
   refine wk 2 ?_;have hz9:=hb4;refine aq 54 (Au Ag rfl rfl rfl rfl rfl rfl hd0.1 (AM (TS hdn)) rfl) ?_;refine wk 5 ?_;exact mU
  refine acf ?_;have hjge:x.nexts.length<=j:=by have h:=hb3;simp[A0]at h;omega
  refine wk 6 ?_;refine aq 61 (AU (r:=.int .i64 ((((Hg f v i).length-0:Nat):Int)-1)) rfl rfl rfl (YJ (by have h1:(SB f i v).length<=x.ins.length+1:=MO hx;have:=hi x hxm;omega))) ?_;refine wk 3 ?_;refine Bb (γ:=Nat) (kf 9) (fun m=>⟨109,(Aa (Aa (Aa (Aa (Aa (Aa (Aa (Aa (Aa A9 0 (.ptr 2 1 0 0)) 1 (.int .i64 (v:Int))) 4 (Cs (G3 f.blocks.length inn))) 31 (oR f.blocks.length R (SB f) v)) 32 (.int .i64 ((JQ f.blocks.length R (SB f) v).length:Int))) 33 (.int .i64 (k:Int))) 6 (.ptr 8 1 0 0)) 7 (.bool (CG inn v x i q m).2)) 10 (.int .i64 ((((Hg f v i).length-m:Nat):Int)-1))),(Hp (nb [.free,.free,(.row false 8 [SO f R ((CG inn v x i q m).1.es).length ((CG inn v x i q m).1.ws.length)]),(.row false 1 (Ax (aR (Aw f)) f.blocks.length)),(.row false 1 (Ax (oR f.blocks.length R (SB f)) R)),(.row false 1 (Ax (gR f) f.blocks.length)),(.row true 1 ((CG inn v x i q m).1.es)),(.row true 1 (bC R ((CG inn v x i q m).1.w))),(.row false 2 [Up R (SB f) v i])]) (DF f R (SB f) (CG inn v x i q m).1.G))⟩) (fun m=>m<=(Hg f v i).length/\QId R (CG inn v x i q m).1) (fun m=>(Hg f v i).length-m) 0 (Sub.mk' (by repeat(first | exact ESub.new _ | refine ESub.put ?_ (by first | rfl | exact congrArg (fun z=>some (AV.bool z)) (fg hjge) | exact congrArg (fun(n:Nat)=>some (AV.int .i64 (n:Int))) (by simp)))) (BY (k0:=9) rfl ri FO X9)) ⟨Nat.zero_le _,hQ.2⟩ (fun g b hb=>BH (k0:=9) rfl hb) ?_
  intro m hF;generalize hS2:(CG inn v x i q m)=S2 at hF |-;refine wk 6 ?_;refine asp 63 (fun hb5=>?_) fun hb5=>?_
  .
   refine act ?_;obtain⟨kk,hkk⟩: ∃kk,m+kk+1=(Hg f v i).length:=⟨(Hg f v i).length-m-1,by have h:=hb5;simp at h;omega⟩
   obtain⟨s,hsk⟩:=Ae (l:=Hg f v i) (k:=kk) (by omega);have hat:=W5 hx hsk;rw[show(((Hg f v i).length-m:Nat):Int)-1=(kk:Int) by omega];refine wk 8 ?_;refine aq 69 (Ab Ag rfl rfl rfl rfl rfl rfl ((Ao _ _ _).trans (congrArg some (Nd hv hig.2))) (List.length_map _).symm rfl (Int.natCast_nonneg _) (by show((kk:Nat):Int)<((Hg f v i).length:Int);omega)) ?_;refine aq 70 (At Ag rfl rfl rfl (.ptr _ _ _ _ true 3 ((Hg f v i).map G1) (G1 s) ((Ao _ _ _).trans (congrArg some (Nd hv hig.2))) (List.length_map _).symm (by rw[Nat.zero_add,Int.toNat_natCast,List.getElem?_map,hsk];rfl)) rfl) ?_;refine ax 11 (HL Ag 9 rfl rfl BA rfl (Nat.zero_lt_succ _) rfl) ?_;refine wk 9 ?_;refine AOps.call 75 (hn:=EQ _ (DH (In f R (SB f) (S2.1.es) (S2.1.ws.length) (S2.1.w)) (DF f R (SB f) S2.1.G))) (r:=.bool (leftS (S2.1.G i) x.ins.length s)) rfl rfl rfl (Ef (In f R (SB f) (S2.1.es) (S2.1.ws.length) (S2.1.w)) (In f R (SB f) (S2.1.es) (S2.1.ws.length) (S2.1.w)) (DF f R (SB f) S2.1.G) rfl Tryz.func85 (by kernel_rfl) rfl rfl rfl rfl rfl (Cc _ _ _ _ _ _) (Cc _ _ _ _ _ _) Rb GY (Bc CB f R _ _) (Bc CB f R _ _) rfl (UG f R (SB f) S2.1.G S2.1.es S2.1.ws.length S2.1.w i x hx s hat)) ?_
   refine wk 2 ?_;refine asp 76 (fun hb6=>?_) fun hb6=>?_
   .
    refine act ?_;have hlf:leftS (S2.1.G i) x.ins.length s=false:=by have h:=hb6;simpa using h
    have hnx2:CG inn v x i q (m+1)=S2:=by rw[Fl (by rw[<-DA hx];exact hsk) (by rw[<-DA hx];exact hkk),hS2];exact Vr hlf
    refine wk 3 ?_;exact rh
   refine acf ?_;have hlf:leftS (S2.1.G i) x.ins.length s=true:=by have h:=hb6;simpa using h
   refine wk 7 ?_;refine asp 78 (fun hb7=>?_) fun hb7=>?_
   .
    refine act ?_;have hss:s.s=true:=hb7;obtain⟨t,ht⟩:=bl hx hsk hss;have htu: ∀u∈t.uses,0<=u/\u<R:=fun u hu=>by have:=(hs.low x hxm t (List.mem_of_getElem? ht)).2 u hu;rw[hRf]at this;exact this
    refine wk 10 ?_;refine dq 86 (MH Ag (AM hx)) ?_;refine wk 4 ?_;refine dq 91 (MH Ag (AM ht)) ?_;refine wk 1 ?_;refine dx 12 (HL Ag 10 rfl rfl BA rfl (Nat.zero_lt_succ _) rfl) ?_;refine wk 7 ?_;refine EP 95 (fun hb8=>?_) fun hb8=>?_
    .
     refine wk 1 ?_;have hz:=hb8;refine ax 97 (DQ Tryz.func86 (er _)) ?_;refine wk 2 ?_;refine asp 98 (fun hb9=>?_) fun hb9=>?_
     .
      refine act ?_;have hnx2:CG inn v x i q (m+1)=(BU i s.at_ t.uses S2.1,S2.2):=by rw[Fl (by rw[<-DA hx];exact hsk) (by rw[<-DA hx];exact hkk),hS2];exact Ta hlf ht hss (by have h:=hz;simpa using h) hb9
      refine wk 8 ?_;refine AOps.call 105 (hn:=EQ _ (DH (In f R (SB f) ((BU i s.at_ t.uses S2.1).es) ((BU i s.at_ t.uses S2.1).ws.length) ((BU i s.at_ t.uses S2.1).w)) (DF f R (SB f) (BU i s.at_ t.uses S2.1).G))) (r:=.tup []) rfl rfl rfl (Ef (In f R (SB f) (S2.1.es) (S2.1.ws.length) (S2.1.w)) (In f R (SB f) ((BU i s.at_ t.uses S2.1).es) ((BU i s.at_ t.uses S2.1).ws.length) ((BU i s.at_ t.uses S2.1).w)) (DF f R (SB f) (BU i s.at_ t.uses S2.1).G) rfl Tryz.func87 (by kernel_rfl) rfl rfl rfl rfl rfl (Cc _ _ _ _ _ _) (Cc _ _ _ _ _ _) Rb GY (Bc CB f R _ _) (Bc CB f R _ _) rfl (ZL f R (SB f) S2.1.G S2.1.es S2.1.ws S2.1.w i s.at_ x hx (List.getElem?_eq_some_iff.1 ht).1 t htu hR hF.2)) ?_;refine wk 4 ?_;refine aq 65 (AU (r:=.int .i64 ((((Hg f v i).length-(m+1):Nat):Int)-1)) rfl rfl rfl (ja hkk (by have:=MO hx (v:=v);have:=hi x hxm;omega))) ?_;refine wk 2 ?_;exact⟨m+1,DropK.mk' m9 (Bl (k0:=9) rfl tL nj (Bc (As _) f R _ _)),⟨by omega,by rw[hnx2];exact hF.2.leaveR htu⟩,(by omega)⟩
     refine acf ?_;have hk2:s.s=true->∀t,x.ins[s.at_]?=some t->(!S2.2&&t.pure)=false:=fun _ t' e=>by
      rw[ht]at e;cases e;first |(rw[show t.pure=false from hb9];exact Bool.and_false _) |(rw[hz];rfl)
     refine wk 9 ?_;refine asp 107 (fun hb10=>?_) fun hb10=>?_
     .
      refine act ?_;have hr:s.r=true:=hb10;exact jL
     refine acf ?_;have hr:s.r=false:=hb10;exact jK
    refine wk 1 ?_;have hz:=hb8;refine wk 4 ?_;have hk2:s.s=true->∀t,x.ins[s.at_]?=some t->(!S2.2&&t.pure)=false:=fun _ t' e=>by
     rw[ht]at e;cases e;first |(rw[show t.pure=false from hb8];exact Bool.and_false _) |(rw[hz];rfl)
    refine wk 9 ?_;refine asp 107 (fun hb11=>?_) fun hb11=>?_
    .
     refine act ?_;have hr:s.r=true:=hb11;exact jL
    refine acf ?_;have hr:s.r=false:=hb11;exact jK
   refine acf ?_;have hss:s.s=false:=hb7;have hk2:s.s=true->∀t,x.ins[s.at_]?=some t->(!S2.2&&t.pure)=false:=fun e=>by rw[hss]at e;cases e
   refine wk 6 ?_;refine asp 107 (fun hb12=>?_) fun hb12=>?_
   .
    refine act ?_;have hr:s.r=true:=hb12;exact jL
   refine acf ?_;have hr:s.r=false:=hb12;exact jK
  refine acf ?_;have hmge:(Hg f v i).length<=m:=by have h:=hb5;simp at h;omega
  have hnx:J4 f inn v st (k+1)=S2.1:=by rw[<-YM hgi hx hmge,hK,hS2]
  refine wk 2 ?_;refine aq 108 (Bj rfl rfl hkl jV) ?_;refine wk 2 ?_;exact⟨k+1,DropK.mk' (by repeat(first | exact EDropK.new _ _ | refine EDropK.put ?_ (by first | rfl | exact congrArg (fun(n:Nat)=>some (AV.int .i64 (n:Int))) (by simp)) (by first | rfl | exact A4 (As _) _ _ _ _))) (Bl (k0:=8) rfl (by repeat(first | exact trivial | refine⟨⟨by first | rfl | exact BQ rfl |(rw[hnx];first | rfl | exact BQ rfl),by first | rfl | exact Ad (fun _ _=>Bd (As _) _ _) | exact Ad (fun _ _=>A4 (As _) _ _ _ _) | exact Ad (fun _ _=>BX (As _) _ _) | exact EE _⟩,?_⟩)) (fun x_=>by rw[hnx];(try simp only[hputs]);(try dsimp only);first | exact Ao _ _ _ | exact(EA _ _ x_).trans (Ao _ _ _)) (Bc (As _) f R _ _)),⟨hkl,by rw[hnx];exact hF.2⟩,(by omega)⟩
 refine acf ?_;have hkge:(Fy f v).length<=k:=by have h:=hb2;rw[D4]at h;simp only[decide_eq_false_iff_not]at h;exact Nat.le_of_not_lt fun e=>h (Int.ofNat_lt.2 e)
 refine wk 1 ?_;have hkk0:k=(Fy f v).length:=by omega
 have hreg:HF f v st=q:=by rw[<-hK,hkk0,hinn];rfl
 rw[hreg];exact fP
end Go.Proofs.YtbbfelelocccmaaGreat.Sv
