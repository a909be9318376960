/-
  WALKS OF THE FORWARDING PASS (1): a register is set. Own work.
-/
import Derived.Test.YtbbfelelocccmaaGreatPOptimizeLess5
import Derived.Test.YtbbfelelocccmaaGreatPOptimizeLess3
import Derived.Test.YtbbfelelocccmaaGreatPOptimizeLess4
import Derived.Test.YtbbfelelocccmaaGreatPOptimizeLess2
import Derived.Test.YtbbfelelocccmaaGreatPOptimizeLess6
import Derived.RangeFuncFrom
import Derived.TacticsIn
import Derived.RangeFuncLeaves
import Derived.RangeFuncKeeps
import Derived.Shelf.Abstract
import Derived.WalkKit
import Derived.OwnWalkIn
import Derived.TacticsInMore
import Derived.LoopNIn
import Derived.LoopIn
set_option linter.unusedVariables false
set_option linter.unusedSimpArgs false
set_option maxRecDepth 100000
set_option maxHeartbeats 2000000
namespace Go.Proofs.YtbbfelelocccmaaGreat.Sv
open Go
set_option maxRecDepth 100000
def jl(fr:List Int)(ks l:List Int)(g:List Int):Prop:=g.length=fr.length/\∀v:Nat,v<fr.length->rget g v=if(v:Int)∈ks/\(v:Int)∉l then(v:Int)else rget fr v
theorem PQ{h:Ac}{b:Nat}{o:AObj}(hb:h b=some o):hput (hrm h b) b o=h:=by
 funext x
 by_cases hx:x=b
 . subst hx;rw[Aq,hb]
 . rw[AL _ _ hx,Fc _ hx]
theorem dJ{h:Ac}{a b:Nat}{o:AObj}(hab:a≠b):hput (hrm h b) a o=hrm (hput h a o) b:=by
 funext x
 by_cases hx:x=a
 . subst hx;rw[Aq,Fc _ hab,Aq]
 . rw[AL _ _ hx]
   by_cases hb:x=b
   . subst hb;rw[Gz,Gz]
   . rw[Fc _ hb,Fc _ hb,AL _ _ hx]
theorem io(h:Ac){R:Nat}{fr:List Int}{to:List (Option Nat)}{maps:List (List Int)}(hI:FwI R fr to maps){d:Nat}(hd:d<R):ACall Tryz.prog 78 [.ptr 2 1 0 0,.int .i64 (d:Int)] (FH h R fr to maps) (fun r h'=>r= .tup []/\∃maps',FwI R (Cn d fr) (to.set d none) maps'/\maps'.length=maps.length/\HSub (FH h R (Cn d fr) (to.set d none) maps') h'):=by
 refine ACall.of_body (n:=56) Ag Tryz.func78 rfl rfl ?_
 have hdf:(0:Int)<=(d:Int)/\(d:Int)<fr.length:=by rw[hI.lenF];omega
 obtain⟨s,hs⟩: ∃s:Nat,rget fr d=s:=⟨(rget fr d).toNat,by have:=(hI.ran d hd).1;omega⟩
 have hsR:s<R:=by have:=(hI.ran d hd).2;omega
 refine wk 1 ?_;refine AGo.join (γ:=List (List Int)) (fun m1=>⟨56,Aa (Aa Ba 0 (.ptr 2 1 0 0)) 1 (.int .i64 (d:Int)),FH h R (AS fr (d:Int) d) to m1⟩) (fun m1=>FwI R (AS fr (d:Int) d) to m1/\m1.length=maps.length) ?_ ?_
 .
  refine wk 7 ?_;refine aq 11 (Ab Ag rfl rfl rfl rfl rfl rfl rfl (by rw[B7,hI.lenF]) rfl hdf.1 (by omega)) ?_;refine aq 12 (At Ag rfl rfl rfl (.ptr _ _ _ _ _ _ _ _ rfl (by rw[B7,hI.lenF]) (K8 hdf)) rfl) ?_;refine wk 8 ?_;refine asp 15 (fun hb1=>?_) fun hb1=>?_
  .
   have hne : s ≠ d := by rw[hs]at hb1;have:(s:Int)≠d:=by simpa using hb1
                          omega
   obtain⟨j,ks,k1,k2,k3⟩:=hI.off hd hs hne
   have hjl:j<maps.length:=(List.getElem?_eq_some_iff.1 k2).1
   refine wk 8 ?_;refine aq 21 (Ab Ag rfl rfl rfl rfl rfl rfl rfl (by rw[List.length_map,hI.lenT]) rfl (by rw[hs];omega) (by rw[hs];omega)) ?_;refine aq 22 (At Ag rfl rfl rfl (.ptr _ _ _ _ _ _ _ _ rfl (by rw[List.length_map,hI.lenT]) (by rw[hs];exact IX k1)) rfl) ?_;refine wk 1 ?_;refine AOps.w rfl rfl (Oe Ag rfl rfl rfl rfl (by rw[Jd,H4 k2]) rfl rfl rfl rfl) ?_;refine wk 1 ?_
   rw[Ut]
   show AGo _ _ ⟨_,_,hput (FH h R fr to maps) (j+16) _⟩ _
   rw[WT _ hjl]
   refine wk 7 ?_;refine aq 30 (Ab Ag rfl rfl rfl rfl rfl rfl rfl (by rw[B7,hI.lenF]) rfl hdf.1 (by omega)) ?_;refine AOps.w rfl rfl (o_store Ag rfl rfl rfl rfl rfl rfl (by rw[B7,hI.lenF]) (K8 hdf) rfl (by decide) rfl (by intro h;rfl)) ?_;refine wk 1 ?_;refine⟨_,Sub.mk' Ci ?_,k3,by simp⟩
   show HSub _ (hput (FH h R fr to (maps.set j (ks.erase (d:Int)))) 3 (.row true 1 ((Gx fr).set (0+((d:Nat):Int).toNat) [.int .i64 (d:Int)])))
   rw[JI,Nm]
   exact HSub.refl _
  have he : s = d := by rw[hs]at hb1;have: ¬((s:Int)≠d):=by simpa using hb1
                        omega
  subst he
  refine wk 2 ?_
  have hoff:=hI.off0 hd hs
  refine⟨maps,Sub.mk' Ci (by rw[hoff];exact HSub.refl _),by rw[hoff];exact hI,rfl⟩
 rintro m1 ⟨hI1,hm1⟩
 have hd1:rget (AS fr (d:Int) d) d=d:=by rw[E3 (by rw[hI.lenF];exact hd),if_pos rfl]
 have hfin:=hI1.clear hd hd1
 rw[LA hI hd]at hfin
 obtain⟨o,ho⟩:=hI1.to_of hd
 refine wk 1 ?_
 have hd3:(0:Int)<=(d:Int)/\(d:Int)<(AS fr (d:Int) d).length:=by rw[hI1.lenF];omega
 refine AGo.join (γ:=Unit) (fun _=>⟨56,Aa (Aa Ba 0 (.ptr 2 1 0 0)) 1 (.int .i64 (d:Int)),FH h R (Cn d fr) to m1⟩) (fun _=>True) ?_ ?_
 .
  cases o with
  | none=>
   have hrs:Cn d fr=AS fr (d:Int) d:=by
    rw[<-LA hI hd]
    exact KH (Dj _ _) fun v hv=>by
     rw[Dj]at hv
     rw[Dk hv]
     by_cases e:rget (AS fr (d:Int) d) v=d
     . have:=hI1.nn d ho v (by rw[<-hI1.lenF];exact hv) e
       subst this;rw[hd1];simp
     . have hvd:v≠d:=fun e2=>e (by rw[e2];exact hd1)
       rw[show((v:Int)==d)=false from beq_eq_false_iff_ne.2 (by omega),show(rget (AS fr (d:Int) d) v==(d:Int))=false from beq_eq_false_iff_ne.2 e];rfl
   refine WW Ag (n:=56) (e:=Aa (Aa (Aa Ba 0 (.ptr 2 1 0 0)) 1 (.int .i64 (d:Int))) 37 (.val (.map none))) (h:=FH h R (AS fr (d:Int) d) to m1) 7 rfl ?_ ⟨rfl,rfl,rfl⟩ rfl rfl rfl ⟨rfl,rfl,rfl⟩ ⟨rfl,rfl,rfl⟩ (by decide) ⟨rfl,rfl,rfl⟩ ?_
   .
    exact ml
   . exact⟨(),Sub.mk' Ci (by rw[hrs];exact HSub.refl _),trivial⟩
  | some j=>
   obtain⟨ks,k1,k2,k3⟩:=hI1.sm d j ho
   have hj16:3≠j+16:=by omega
   have hbk: ∀g,jl (AS fr (d:Int) d) ks [] g->g=Cn d fr:=fun g ⟨g1,g2⟩=>by
    rw[<-LA hI hd]
    refine KH (by rw[g1,Dj]) fun v hv=>?_
    rw[g1]at hv
    rw[g2 v hv,Dk hv]
    have hvR:v<R:=by rw[<-hI1.lenF];exact hv
    by_cases e:rget (AS fr (d:Int) d) v=d
    . by_cases e2:v=d
      . subst e2
        rw[if_neg (fun h=>((k3 v).1 h.1).2.2.1 rfl)];simp[hd1]
      . rw[if_pos ⟨(k3 v).2 ⟨by omega,by omega,by omega,e⟩,by simp⟩];simp[e]
    . have hvd:v≠d:=fun e2=>e (by rw[e2];exact hd1)
      rw[if_neg (fun h=>e ((k3 v).1 h.1).2.2.2),show((v:Int)==d)=false from beq_eq_false_iff_ne.2 (by omega),show(rget (AS fr (d:Int) d) v==(d:Int))=false from beq_eq_false_iff_ne.2 e];rfl
   refine WX Ag (K:=.i64) (γ:=List Int) (S:=fun rb g=>⟨56,Aa (Aa (Aa Ba 0 (.ptr 2 1 0 0)) 1 (.int .i64 (d:Int))) 38 (.val (.pointer (some ⟨rb,0,none⟩))),hrm (FH h R g to m1) (j+16)⟩) (J:=fun l g=>jl (AS fr (d:Int) d) ks l g/\∀v∈l,v∈ks/\l.Nodup) (m:=S7 ks) (b:=j+16)
     (e:=Aa (Aa (Aa Ba 0 (.ptr 2 1 0 0)) 1 (.int .i64 (d:Int))) 37 (.map (j+16))) (h:=FH h R (AS fr (d:Int) d) to m1) (AS fr (d:Int) d) 7 rfl ?_ ⟨rfl,rfl,rfl⟩ rfl rfl rfl (by rw[Jd,H4 k1]) ⟨rfl,rfl,rfl⟩ ⟨rfl,rfl,rfl⟩ ⟨rfl,rfl,rfl⟩ ⟨rfl,rfl,rfl⟩ ⟨rfl,rfl,rfl⟩ (by decide) (by decide) (by decide) (fun _ _=>⟨rfl,rfl,rfl,rfl,rfl,rfl,rfl⟩) ?_ (fun _=>Sub.mk' Ci (HSub.refl _)) ?_ ?_
   .
    exact ml
   . rw[cu]
     exact⟨⟨rfl,fun v hv=>by rw[if_neg (fun h=>h.2 h.1)]⟩,fun v hv=>⟨hv,k2⟩⟩
   .
    rintro rb l1 z l2 g ⟨⟨g1,g2⟩,g3⟩
    have hz:=g3 z (by simp)
    obtain⟨z0,z1,z2,z3⟩:=(k3 z).1 hz.1
    have hzg:(0:Int)<=z/\z<g.length:=by rw[g1,hI1.lenF];omega
    refine wk 7 ?_;refine aq 49 (Ab Ag rfl rfl rfl rfl rfl rfl rfl (by rw[B7,g1,hI1.lenF]) rfl z0 (by omega)) ?_;refine AOps.w rfl rfl (o_store Ag rfl rfl rfl rfl rfl rfl (by rw[B7,g1,hI1.lenF]) (K8 hzg) rfl (by decide) rfl (by intro h;rfl)) ?_;refine wk 1 ?_;refine⟨rfl,AS g z z,⟨⟨by rw[C5,g1],fun v hv=>?_⟩,fun v hv=>⟨(g3 v ((List.Sublist.append_left (List.sublist_cons_self _ _) _).subset hv)).1,?_⟩⟩,Sub.mk' Ci ?_⟩
    . obtain⟨u,rfl⟩: ∃u:Nat,z=u:=⟨z.toNat,by omega⟩
      rw[E3 (by omega)]
      have hnd:=hz.2
      rw[List.nodup_append]at hnd
      have hnd2:=List.nodup_cons.1 hnd.2.1
      by_cases e:v=u
      . subst e
        rw [if_pos rfl, if_pos ⟨hz.1, fun h => by rcases List.mem_append.1 h with h | h
                                                  . exact hnd.2.2 _ h _ (by simp) rfl
                                                  . exact hnd2.1 h⟩]
      . rw[if_neg e,g2 v hv]
        have hm:(v:Int)∈l1++(u:Int)::l2↔(v:Int)∈l1++l2:=by simp[show(v:Int)≠u from by omega]
        simp only[hm]
    . have hnd:=hz.2
      exact hnd.sublist (List.Sublist.append_left (List.sublist_cons_self _ _) _)
    . show HSub _ (hput (hrm (FH h R g to m1) (j+16)) 3 (.row true 1 ((Gx g).set (0+z.toNat) [.int .i64 z])))
      rw[JI,dJ hj16,Nm]
      exact HSub.refl _
   . rintro rb g ⟨hg,_⟩
     refine⟨(),Sub.mk' Ci ?_,trivial⟩
     rw[PQ (by rw[Jd,H4 k1]),hbk g hg]
     exact HSub.refl _
 intro _ _
 refine wk 6 ?_;refine aq 55 (Ab Ag rfl rfl rfl rfl rfl rfl rfl (by rw[List.length_map,hI.lenT]) rfl hdf.1 (by omega)) ?_;refine AOps.w rfl rfl (o_store Ag rfl rfl rfl rfl rfl rfl (by rw[List.length_map,hI.lenT]) (IX ho) rfl (by decide) rfl (by intro h;cases h)) ?_;refine wk 1 ?_;refine⟨[],trivial,rfl,m1,hfin,hm1,?_⟩
 have hsp:Ei (MW o) 0 [AV.val (.map none)]=MW none:=by cases o<;>rfl
 show HSub _ (hput (FH h R (Cn d fr) to m1) 4 (.row false 1 ((to.map MW).set (0+((d:Nat):Int).toNat) (Ei (MW o) 0 [AV.val (.map none)]))))
 rw[hsp,OT,jn]
 exact HSub.refl _
end Go.Proofs.YtbbfelelocccmaaGreat.Sv
namespace Go.Proofs.YtbbfelelocccmaaGreat.Sv
open Go
set_option maxRecDepth 100000
theorem Wz(h:Ac){R:Nat}{fr:List Int}{to:List (Option Nat)}{maps:List (List Int)}(hI:FwI R fr to maps){d a:Nat}(hd:d<R)(ha:a<R)(hne:a≠d)(hs:rget fr d=d)(hn:to[d]?=some none)(hra:rget fr a=a):
 ACall Tryz.prog 79 [.ptr 2 1 0 0,.int .i64 (d:Int),.int .i64 (a:Int)] (FH h R fr to maps) (fun r h'=>r= .tup []/\∃to' maps',FwI R (AS fr (d:Int) a) to' maps'/\HSub (FH h R (AS fr (d:Int) a) to' maps') h'):=by
 refine ACall.of_body (n:=36) Ag Tryz.func79 rfl rfl ?_;have hdf:(0:Int)<=(d:Int)/\(d:Int)<fr.length:=by rw[hI.lenF];omega
 obtain⟨o,ho⟩:=hI.to_of ha;refine wk 8 ?_;refine aq 12 (Ab Ag rfl rfl rfl rfl rfl rfl rfl (by rw[B7,hI.lenF]) rfl hdf.1 (by omega)) ?_;refine AOps.w rfl rfl (o_store Ag rfl rfl rfl rfl rfl rfl (by rw[B7,hI.lenF]) (K8 hdf) rfl (by decide) rfl (by intro h;rfl)) ?_;refine wk 1 ?_;refine AGo.sub (s':=⟨36,Aa (Aa (Aa Ba 0 (.ptr 2 1 0 0)) 1 (.int .i64 (d:Int))) 2 (.int .i64 (a:Int)),FH h R (AS fr (d:Int) a) to maps⟩) (Sub.mk' Ci ?_) ?_
 . show HSub _ (hput (FH h R fr to maps) 3 (.row true 1 ((Gx fr).set (0+((d:Nat):Int).toNat) [.int .i64 (a:Int)])));rw[JI,Nm];exact HSub.refl _
 have hidx:(0:Int)<=(a:Int)/\(a:Int)<R:=by omega
 rcases hI.copied hd ha hne hs hn hra with⟨j,ks,k1,k2,k3,k4⟩ |⟨k1,k4⟩
 .
  have hjl:j<maps.length:=(List.getElem?_eq_some_iff.1 k2).1;refine wk 8 ?_;refine aq 18 (Ab Ag rfl rfl rfl rfl rfl rfl rfl (by rw[List.length_map,hI.lenT]) rfl hidx.1 (by omega)) ?_;refine aq 19 (At Ag rfl rfl rfl (.ptr _ _ _ _ _ _ _ _ rfl (by rw[List.length_map,hI.lenT]) (IX k1)) rfl) ?_;refine aq 20 (TL Ag (r:=false) (.inr ⟨⟨j+16,rfl⟩,rfl⟩) rfl rfl) ?_;refine wk 9 ?_;refine aq 33 (Ab Ag rfl rfl rfl rfl rfl rfl rfl (by rw[List.length_map,hI.lenT]) rfl hidx.1 (by omega)) ?_;refine aq 34 (At Ag rfl rfl rfl (.ptr _ _ _ _ _ _ _ _ rfl (by rw[List.length_map,hI.lenT]) (IX k1)) rfl) ?_;refine wk 1 ?_;refine AOps.w rfl rfl (o_mapUpdate Ag rfl rfl rfl rfl rfl rfl (by rw[Jd,H4 k2]) rfl rfl rfl rfl) ?_;refine wk 1 ?_;refine⟨[],trivial,rfl,to,_,k4,?_⟩;show HSub _ (hput (FH h R (AS fr (d:Int) a) to maps) (j+16) (.map (kvs .i64 (JO (d:Int) (.bool true) (S7 ks)))));rw[OI k3,WT _ hjl]
  exact HSub.refl _
 refine wk 8 ?_;refine aq 18 (Ab Ag rfl rfl rfl rfl rfl rfl rfl (by rw[List.length_map,hI.lenT]) rfl hidx.1 (by omega)) ?_;refine aq 19 (At Ag rfl rfl rfl (.ptr _ _ _ _ _ _ _ _ rfl (by rw[List.length_map,hI.lenT]) (IX k1)) rfl) ?_;refine aq 20 (TL Ag (r:=true) (.inl ⟨rfl,rfl⟩) rfl rfl) ?_;refine wk 8 ?_;refine ax 26 (Jy .i64 (maps.length+16) rfl (by rw[Jd,ZL])) ?_;refine aq 27 (Ab (p:=false) (sz:=1) (es:=to.map MW) Ag rfl rfl rfl rfl rfl rfl rfl (by rw[List.length_map,hI.lenT]) rfl hidx.1 (by omega)) ?_;refine AOps.w rfl rfl (o_store (p:=false) (sz:=1) (es:=to.map MW) Ag rfl rfl rfl rfl rfl rfl (by rw[List.length_map,hI.lenT]) (IX k1) rfl (by decide) rfl (by intro h;cases h)) ?_;refine wk 1 ?_;refine AGo.sub (s':=⟨36,Aa (Aa (Aa Ba 0 (.ptr 2 1 0 0)) 1 (.int .i64 (d:Int))) 2 (.int .i64 (a:Int)),FH h R (AS fr (d:Int) a) (to.set a (some maps.length)) (maps++[[]])⟩) (Sub.mk' Ci ?_) ?_
 . show HSub _ (hput (hput (FH h R (AS fr (d:Int) a) to maps) (maps.length+16) (.map (kvs .i64 (S7 [])))) 4 (.row false 1 ((to.map MW).set (0+((a:Nat):Int).toNat) (MW (some maps.length)))));rw[OT,lQ,jn];exact HSub.refl _
 have hto:(to.set a (some maps.length))[a]?=some (some maps.length):=List.getElem?_set_self (by rw[hI.lenT];exact ha);have hmp:(maps++[[]])[maps.length]?=some ([]:List Int):=by rw[List.getElem?_append_right (Nat.le_refl _)];simp
 refine wk 6 ?_;refine aq 33 (Ab Ag rfl rfl rfl rfl rfl rfl rfl (by rw[List.length_map,List.length_set,hI.lenT]) rfl hidx.1 (by omega)) ?_;refine aq 34 (At Ag rfl rfl rfl (.ptr _ _ _ _ _ _ _ _ rfl (by rw[List.length_map,List.length_set,hI.lenT]) (IX hto)) rfl) ?_;refine wk 1 ?_;refine AOps.w rfl rfl (o_mapUpdate Ag rfl rfl rfl rfl rfl rfl (by rw[Jd,H4 hmp]) rfl rfl rfl rfl) ?_;refine wk 1 ?_;refine⟨[],trivial,rfl,_,_,k4,?_⟩;show HSub _ (hput (FH h R (AS fr (d:Int) a) (to.set a (some maps.length)) (maps++[[]])) (maps.length+16) (.map (kvs .i64 (JO (d:Int) (.bool true) (S7 [])))));rw[OI (by simp),WT _ (by simp)];have h9:(maps++[([]:List Int)]).set maps.length ([]++[(d:Int)])=maps++[[(d:Int)]]:=by simp
 rw[h9];exact HSub.refl _
end Go.Proofs.YtbbfelelocccmaaGreat.Sv
namespace Go.Proofs.YtbbfelelocccmaaGreat.Sv
open Go
theorem WL(op:Int):APure Tryz.prog 64 [.int .i64 op] (fun r=>r= .bool (setsOp op)):=by
 refine APure.of_body (n:=11) Ag Tryz.func64 rfl rfl ?_;refine wk 16 ?_;refine asp 4 (fun hb1=>?_) fun hb1=>?_
 .
  refine wk 7 ?_;exact Vr
 refine wk 6 ?_;refine asp 4 (fun hb2=>?_) fun hb2=>?_
 .
  refine wk 7 ?_;exact Vr
 refine wk 6 ?_;refine asp 4 (fun hb3=>?_) fun hb3=>?_
 .
  refine wk 7 ?_;exact Vr
 refine wk 6 ?_;refine asp 4 (fun hb4=>?_) fun hb4=>?_
 .
  refine wk 7 ?_;exact Vr
 refine wk 6 ?_;refine asp 4 (fun hb5=>?_) fun hb5=>?_
 .
  refine wk 7 ?_;exact Vr
 refine wk 5 ?_;refine asp 4 (fun hb6=>?_) fun hb6=>?_
 .
  refine wk 5 ?_;exact Vr
 refine wk 6 ?_;exact Vr
theorem Z8(op:Int):APure Tryz.prog 65 [.int .i64 op] (fun r=>r= .int .i64 (VZ op)):=by
 refine APure.of_body (n:=12) Ag Tryz.func65 rfl rfl ?_;refine wk 16 ?_;refine asp 4 (fun hb1=>?_) fun hb1=>?_
 .
  refine wk 7 ?_;exact Vu
 refine wk 6 ?_;refine asp 4 (fun hb2=>?_) fun hb2=>?_
 .
  refine wk 7 ?_;exact Vu
 refine wk 6 ?_;refine asp 4 (fun hb3=>?_) fun hb3=>?_
 .
  refine wk 7 ?_;exact Vu
 refine wk 5 ?_;refine asp 4 (fun hb4=>?_) fun hb4=>?_
 .
  refine wk 5 ?_;exact Vu
 refine wk 7 ?_;refine asp 9 (fun hb5=>?_) fun hb5=>?_
 .
  refine wk 7 ?_;exact Vu
 refine wk 5 ?_;refine asp 9 (fun hb6=>?_) fun hb6=>?_
 .
  refine wk 5 ?_;exact Vu
 refine wk 6 ?_;exact Vu
theorem Pm(t:Tac):APure Tryz.prog 81 [.agg t.cells] (fun r=>r=AZ t.uses):=by
 refine APure.of_body (n:=18) Ag Tryz.func81 rfl rfl ?_;refine Nk ?_;refine ax 1 (GW 8 0) ?_;refine wk 7 ?_;refine ax 5 (DX Tryz.func65 (Z8 _)) ?_;refine wk 7 ?_;refine asp 6 (fun hb1=>?_) fun hb1=>?_
 .
  refine wk 5 ?_;refine ax 10 (Cp Ag rfl rfl rfl rfl rfl rfl (by decide) rfl rfl rfl rfl rfl rfl) ?_;refine wk 2 ?_;exact jE
 refine wk 6 ?_;refine asp 11 (fun hb2=>?_) fun hb2=>?_
 .
  refine wk 7 ?_;refine ax 17 (Cp Ag rfl rfl rfl rfl rfl rfl (by decide) rfl rfl rfl rfl rfl rfl) ?_;refine wk 2 ?_;exact jE
 refine wk 6 ?_;refine AGo.ghost (.empty 2 rfl) ?_;exact jE
theorem Li(t:Tac):APure Tryz.prog 77 [.agg t.cells] (fun r=>r= .int .i64 t.sets):=by
 refine APure.of_body (n:=8) Ag Tryz.func77 rfl rfl ?_;refine Nk ?_;refine ax 1 (GW 8 0) ?_;refine wk 7 ?_;refine ax 5 (DX Tryz.func64 (WL _)) ?_;refine an ?_;refine asp 5 (fun hb1=>?_) fun hb1=>?_
 .
  refine wk 7 ?_;refine GN ⟨[_],⟨rfl,trivial⟩,?_,rfl⟩;show AV.int .i64 _=AV.int .i64 _;congr 1;simp_all[Tac.sets]
 refine wk 6 ?_;refine GN ⟨[_],⟨rfl,trivial⟩,?_,rfl⟩;show AV.int .i64 _=AV.int .i64 _;congr 1;simp_all[Tac.sets]
set_option maxRecDepth 100000
def G1(R q:Nat):List Int:=(List.range R).map fun v=>if v<q then(v:Int)else 0
theorem L6(R q:Nat):(G1 R q).length=R:=by simp[G1]
theorem Wy{R q:Nat}(h:q<R):AS (G1 R q) (q:Int) q=G1 R (q+1):=by
 unfold AS G1;apply List.ext_getElem?;intro v;rw[show((q:Nat):Int).toNat=q from rfl,List.getElem?_set,List.getElem?_map,List.getElem?_map]
 by_cases e:q=v
 . subst e;rw[if_pos rfl];simp[h]
 . rw[if_neg e]
   by_cases hv:v<R
   . simp[hv]
     by_cases h1:v<q
     . rw[if_pos h1,if_pos (by omega)]
     . rw[if_neg h1,if_neg (by omega)]
   . simp[hv]
theorem ZK(R:Nat):G1 R R=Kr R:=by
 unfold G1 Kr;apply List.map_congr_left;intro v hv;rw[if_pos (List.mem_range.1 hv)]
theorem ey{R:Nat}{l:List Tac}{i:Nat}{t:Tac}(hx:l[i]?=some t):(Du R l i)[0+((i:Nat):Int).toNat]?=some [.int .i64 0,.int .i64 0,.int .i64 0,.int .i64 0,.int .i64 0,.int .i64 0,.int .i64 0,.int .u32 0]:=by
 have hi:i<l.length:=(List.getElem?_eq_some_iff.1 hx).1;rw[Nat.zero_add,show((i:Nat):Int).toNat=i from rfl];unfold Du;rw[List.getElem?_append_right (by rw[List.length_map,GA,List.length_take];omega),List.length_map,GA,List.length_take,show i-min i l.length=0 by omega,List.getElem?_replicate,if_pos (by omega)]
theorem UB(k:Nat->Bool)(l:List Tac):(Eh l).avoid k=true:=by
 rfl
theorem Md(b:Block):(AObj.row false 5 [b.cells]).avoid k6=true:=by
 rfl
theorem I3(R:Nat)(l:List Tac)(i:Nat):(AObj.row true 8 (Du R l i)).avoid k6=true:=by
 rfl
theorem gj{t:Tac}(h:decide (t.sets>=0)=true):setsOp t.op=true/\t.sets=t.d:=by
 unfold Tac.sets at h |-
 cases e:setsOp t.op with
 | true=>exact⟨rfl,rfl⟩
 | false=>rw[e]at h;cases h
theorem SD(b:Block)(R:Nat)(hR:R<=4000)(hlen:b.ins.length<=1000000000)(hins: ∀t∈b.ins,fp R t)(hv:b.fin=2->0<=b.v/\b.v<R):APure Tryz.prog 57 [.agg b.cells,.int .i64 (R:Int)] (fun r=>r= .agg (b.forward R).cells):=by
 refine APure.of_body (n:=108) Ag Tryz.func57 rfl rfl ?_;refine wk 2 ?_;refine ax 2 (GW 5 0) ?_;refine ax 4 (EU Ag 1) ?_;refine wk 4 ?_;refine dx 12 (AB Ag (n:=R) (m:=R) 3 true rfl rfl rfl rfl rfl rfl rfl rfl rfl rfl (Nat.zero_lt_succ _) rfl (Nat.le_refl _) (by show 8*R<=_;omega) (by simp only[maxLen];omega)) ?_;refine wk 1 ?_;refine dx 14 (AB Ag (n:=R) (m:=R) 4 false rfl rfl rfl rfl rfl rfl rfl rfl rfl rfl (Nat.zero_lt_succ _) rfl (Nat.le_refl _) (by show 8*R<=_;omega) (by simp only[maxLen];omega)) ?_;refine wk 1 ?_;refine dx 5 (EU Ag 2) ?_;refine wk 2 ?_;refine AGo.sub (s':=⟨108,Aa (Aa (Aa (Aa Ba 1 (.int .i64 (R:Int))) 2 (.ptr 0 1 0 0)) 4 (.ptr 1 1 0 0)) 5 (.ptr 2 1 0 0),FH (WB b .free .free) R (G1 R 0) (List.replicate R none) []⟩) (Sub.mk' Ci (Mj rfl rfl rfl (congrArg (fun es=>some (AObj.row true 1 es)) (by simp[Gx,G1,List.map_const'])) (congrArg (fun es=>some (AObj.row false 1 es)) (by simp[MW])) rfl rfl (fun j=>rfl))) ?_
 refine wk 40 ?_;refine AGo.loopI (γ:=Nat) (fun q=>⟨108,Aa (Aa (Aa (Aa (Aa (Aa (Aa Ba 1 (.int .i64 (R:Int))) 2 (.ptr 0 1 0 0)) 4 (.ptr 1 1 0 0)) 5 (.ptr 2 1 0 0)) 17 (.ref 3 R 0 R)) 18 (.int .i64 (R:Int))) 19 (.int .i64 (q:Int)),FH (WB b .free .free) R (G1 R q) (List.replicate R none) []⟩) (fun q=>q<=R) (fun q=>R-q) 0 (Sub.mk' Ci (HSub.refl _)) (Nat.zero_le _) ?_
 intro q hq
 refine wk 40 ?_;refine asp 20 (fun hb1=>?_) fun hb1=>?_
 .
  have hqR:q<R:=by have:=hb1;simp at this;exact this
  have hqz:(0:Int)<=(q:Int)/\(q:Int)<(G1 R q).length:=by rw[L6];omega
  refine wk 40 ?_;refine aq 26 (Ab Ag rfl rfl rfl rfl rfl rfl rfl (by rw[B7,L6]) rfl hqz.1 (by omega)) ?_;refine AOps.w rfl rfl (o_store Ag rfl rfl rfl rfl rfl rfl (by rw[B7,L6]) (K8 hqz) rfl (by decide) rfl (by intro h;rfl)) ?_;refine wk 40 ?_;refine⟨q+1,Sub.mk' (by repeat(first | exact ESub.new _ | refine ESub.put ?_ (by first | rfl | exact congrArg (fun x=>some (AV.int .i64 x)) (Jg hqR (by simp only[maxLen];omega))))) ?_,hqR,by omega⟩
  show HSub _ (hput (FH (WB b .free .free) R (G1 R q) (List.replicate R none) []) 3 (.row true 1 ((Gx (G1 R q)).set (0+((q:Nat):Int).toNat) [.int .i64 (q:Int)])))
  rw[JI,Wy hqR,Nm]
  exact HSub.refl _
 have hqR:q=R:=by have:=hb1;simp at this;omega
 refine wk 40 ?_;refine ax 31 (AB Ag (n:=b.ins.length) (m:=b.ins.length) 5 true rfl rfl rfl (congrArg (fun(m:Nat)=>(m:Int)) (List.length_map _)) (congrArg (fun(m:Nat)=>(m:Int)) (List.length_map _)) rfl rfl rfl rfl rfl (Nat.zero_lt_succ _) rfl (Nat.le_refl _) (by show 64*b.ins.length<=_;omega) (by simp only[maxLen];omega)) ?_;refine wk 40 ?_
 rw[hqR]
 refine Bc (γ:=Nat×List Int×List (Option Nat)×List (List Int)) k6 (fun g=>⟨108,Aa (Aa (Aa (Aa (Aa (Aa (Aa Ba 2 (.ptr 0 1 0 0)) 4 (.ptr 1 1 0 0)) 5 (.ptr 2 1 0 0)) 7 (.ref 5 b.ins.length 0 b.ins.length)) 33 (Eh b.ins)) 34 (.int .i64 (b.ins.length:Int))) 35 (.int .i64 (g.1:Int)),FH (WB b (.row true 8 (Du R b.ins g.1)) .free) R g.2.1 g.2.2.1 g.2.2.2⟩) (fun g=>t9 R b.ins g.1 g.2.1 g.2.2.1 g.2.2.2) (fun g=>b.ins.length-g.1) (0,Kr R,List.replicate R none,[]) (Sub.mk' (by repeat(first | exact ESub.new _ | refine ESub.put ?_ (by first | rfl | exact congrArg (fun(m:Nat)=>some (AV.int .i64 (m:Int))) (List.length_map _)))) ?_) ⟨Nat.zero_le _,rfl,lu R⟩ (fun g x hx=>?_) ?_
 . exact Mj rfl rfl rfl (by show some (AObj.row true 1 (Gx (G1 R R)))=some (AObj.row true 1 (Gx (Kr R)));rw[ZK]) rfl (by show some (AObj.row true 8 (List.replicate b.ins.length ty91.zero))=some (AObj.row true 8 (Du R b.ins 0));rw[WE]) rfl (fun _=>rfl)
 . have:x=6:=by unfold k6 at hx;exact Nat.eq_of_beq_eq_true (by simpa using hx)
   subst this;rfl
 rintro⟨i,fr,to,maps⟩ hF
 dsimp only at hF |-
 refine wk 40 ?_;refine asp 36 (fun hb2=>?_) fun hb2=>?_
 .
  have hil:i<b.ins.length:=by have:=hb2;simp at this;exact this
  obtain⟨t,ht⟩:=Ae hil
  have hT:=hins t (List.mem_of_getElem? ht)
  have hI:=hF.inv
  have gg: ∀{z:Int},0<=z/\z<R->(0:Int)<=z/\z<fr.length:=fun h=>by rw[hI.lenF];exact h
  refine wk 40 ?_;refine aq 38 (MT Ag (AO ht)) ?_;refine wk 1 ?_;refine ax 9 (EU Ag 6) ?_;refine wk 9 ?_;refine AGo.sub (s':=⟨108,Aa (Aa (Aa (Aa (Aa (Aa (Aa (Aa (Aa (Aa Ba 2 (.ptr 0 1 0 0)) 4 (.ptr 1 1 0 0)) 5 (.ptr 2 1 0 0)) 7 (.ref 5 b.ins.length 0 b.ins.length)) 33 (Eh b.ins)) 34 (.int .i64 (b.ins.length:Int))) 35 (.int .i64 (i:Int))) 8 (.int .i64 (i:Int))) 9 (.ptr 6 1 0 0)) 41 (.int .i64 t.op),FH (WB b (.row true 8 (Du R b.ins i)) (.row false 8 [t.cells])) R fr to maps⟩) (Sub.mk' Ci (Mj rfl rfl rfl rfl rfl rfl rfl (fun _=>rfl))) ?_;refine AGo.join (γ:=Unit) (fun _=>⟨108,(Aa (Aa (Aa (Aa (Aa (Aa (Aa (Aa (Aa Ba 2 (.ptr 0 1 0 0)) 4 (.ptr 1 1 0 0)) 5 (.ptr 2 1 0 0)) 7 (.ref 5 b.ins.length 0 b.ins.length)) 33 (Eh b.ins)) 34 (.int .i64 (b.ins.length:Int))) 35 (.int .i64 (i:Int))) 8 (.int .i64 (i:Int))) 9 (.ptr 6 1 0 0)),FH (WB b (.row true 8 (Du R b.ins i)) (.row false 8 [(subT fr t).cells])) R fr to maps⟩) (fun _=>True) ?_ ?_
  .
   refine wk 2 ?_;refine AGo.join (γ:=Unit) (fun _=>⟨108,Aa (Aa (Aa (Aa (Aa (Aa (Aa (Aa (Aa (Aa (Aa Ba 2 (.ptr 0 1 0 0)) 4 (.ptr 1 1 0 0)) 5 (.ptr 2 1 0 0)) 7 (.ref 5 b.ins.length 0 b.ins.length)) 33 (Eh b.ins)) 34 (.int .i64 (b.ins.length:Int))) 35 (.int .i64 (i:Int))) 8 (.int .i64 (i:Int))) 9 (.ptr 6 1 0 0)) 41 (.int .i64 t.op)) 42 (.bool (use1 t.op)),FH (WB b (.row true 8 (Du R b.ins i)) (.row false 8 [t.cells])) R fr to maps⟩) (fun _=>True) ?_ ?_
   .
    refine wk 40 ?_;refine asp 42 (fun hc1=>?_) fun hc1=>?_
    . refine wk 40 ?_
      have hu:use1 t.op=true:=by unfold use1;simp at hc1;simp[hc1]
      exact Yi
    refine wk 40 ?_;refine asp 42 (fun hc2=>?_) fun hc2=>?_
    . refine wk 40 ?_
      have hu:use1 t.op=true:=by unfold use1;simp at hc2;simp[hc2]
      exact Yi
    refine wk 40 ?_;refine asp 42 (fun hc3=>?_) fun hc3=>?_
    . refine wk 40 ?_
      have hu:use1 t.op=true:=by unfold use1;simp at hc3;simp[hc3]
      exact Yi
    refine wk 40 ?_
    have hu:use1 t.op=(t.op==9):=by show(t.op==2||(t.op==5||(t.op==6||t.op==9)))=_;rw[show(t.op==2)=false by simpa using hc1,show(t.op==5)=false by simpa using hc2,show(t.op==6)=false by simpa using hc3];rfl
    exact Yi
   intro _ _
   refine asp 42 (fun hu=>?_) fun hu=>?_
   .
    have ha:=hT.u1 hu
    have hs:subT fr t={t with a:=rget fr t.a}:=by unfold subT;rw[hu];rfl
    refine wk 40 ?_;refine aq 51 (Ab Ag rfl rfl rfl rfl rfl rfl rfl (by rw[B7,hI.lenF]) rfl ha.1 ha.2) ?_;refine aq 52 (At Ag rfl rfl rfl (.ptr _ _ _ _ _ _ _ _ rfl (by rw[B7,hI.lenF]) (K8 (gg ha))) rfl) ?_;exact iU
   refine wk 1 ?_;refine wk 1 ?_;refine AGo.join (γ:=Unit) (fun _=>⟨108,Aa (Aa (Aa (Aa (Aa (Aa (Aa (Aa (Aa (Aa Ba 2 (.ptr 0 1 0 0)) 4 (.ptr 1 1 0 0)) 5 (.ptr 2 1 0 0)) 7 (.ref 5 b.ins.length 0 b.ins.length)) 33 (Eh b.ins)) 34 (.int .i64 (b.ins.length:Int))) 35 (.int .i64 (i:Int))) 8 (.int .i64 (i:Int))) 9 (.ptr 6 1 0 0)) 54 (.bool (use2 t.op)),FH (WB b (.row true 8 (Du R b.ins i)) (.row false 8 [t.cells])) R fr to maps⟩) (fun _=>True) ?_ ?_
   .
    refine wk 40 ?_;refine asp 54 (fun hc1=>?_) fun hc1=>?_
    . refine wk 40 ?_
      have hu:use2 t.op=true:=by unfold use2;simp at hc1;simp[hc1]
      exact Yi
    refine wk 40 ?_
    have hu:use2 t.op=(t.op==7):=by show(t.op==3||t.op==7)=_;rw[show(t.op==3)=false by simpa using hc1];rfl
    exact Yi
   intro _ _
   refine asp 54 (fun hu2=>?_) fun hu2=>?_
   .
    obtain⟨ha,hb⟩:=hT.u2 hu2
    have hs:subT fr t={t with a:=rget fr t.a,b:=rget fr t.b}:=by unfold subT;rw[hu,hu2];rfl
    refine wk 40 ?_;refine dq 61 (Ab Ag rfl rfl rfl rfl rfl rfl rfl (by rw[B7,hI.lenF]) rfl ha.1 ha.2) ?_;refine dq 62 (At Ag rfl rfl rfl (.ptr _ _ _ _ _ _ _ _ rfl (by rw[B7,hI.lenF]) (K8 (gg ha))) rfl) ?_;refine wk 40 ?_;refine dq 67 (Ab Ag rfl rfl rfl rfl rfl rfl rfl (by rw[B7,hI.lenF]) rfl hb.1 hb.2) ?_;refine dq 68 (At Ag rfl rfl rfl (.ptr _ _ _ _ _ _ _ _ rfl (by rw[B7,hI.lenF]) (K8 (gg hb))) rfl) ?_;exact iU
   have hs:subT fr t=t:=by unfold subT;rw[hu,hu2];rfl
   refine wk 40 ?_;exact⟨(),Sub.mk' Ci (by rw[hs];exact HSub.refl _),trivial⟩
  intro _ _
  refine wk 40 ?_;refine aq 74 (Ab Ag rfl rfl rfl rfl rfl rfl rfl (JK hF.le).symm rfl (Int.natCast_nonneg _) (by omega)) ?_;refine AOps.w rfl rfl (o_store Ag rfl rfl rfl rfl rfl rfl (JK hF.le).symm (ey ht) rfl (by decide) rfl (by intro h;rfl)) ?_;refine wk 1 ?_
  have hnx:(Du R b.ins i).set (0+((i:Nat):Int).toNat) (subT fr t).cells=Du R b.ins (i+1):=by have:=WF (R:=R) ht;rw[hF.pre]at this;exact this
  refine AGo.sub (s':=⟨108,(Aa (Aa (Aa (Aa (Aa (Aa (Aa (Aa (Aa Ba 2 (.ptr 0 1 0 0)) 4 (.ptr 1 1 0 0)) 5 (.ptr 2 1 0 0)) 7 (.ref 5 b.ins.length 0 b.ins.length)) 33 (Eh b.ins)) 34 (.int .i64 (b.ins.length:Int))) 35 (.int .i64 (i:Int))) 8 (.int .i64 (i:Int))) 9 (.ptr 6 1 0 0)),FH (WB b (.row true 8 (Du R b.ins (i+1))) (.row false 8 [(subT fr t).cells])) R fr to maps⟩) (Sub.mk' Ci (Mj rfl rfl rfl rfl rfl (congrArg (fun es=>some (AObj.row true 8 es)) hnx) rfl (fun _=>rfl))) ?_;refine wk 40 ?_;refine ax 76 (DX Tryz.func77 (Li (subT fr t))) ?_;refine wk 40 ?_
  have hst:=(RM fr t).2.2
  have hop:=(RM fr t).1
  refine asp 78 (fun hs1=>?_) fun hs1=>?_
  .
   obtain⟨hsp,hsd'⟩:=gj hs1
   have hsd:(subT fr t).sets=t.d:=by rw[hsd',(RM fr t).2.1]
   have hd:=hT.d (by rw[<-hop];exact hsp)
   obtain⟨d,hdd⟩: ∃d:Nat,t.d=d:=⟨t.d.toNat,by omega⟩
   have hdR:d<R:=by omega
   have hsn:(subT fr t).sets=(d:Int):=by rw[hsd,hdd]
   refine wk 40 ?_
   rw[hsn]
   refine AOps.inn 80 rfl rfl rfl ?_;refine qw rfl Tryz.func78 (by kernel_rfl) rfl rfl ?_;refine(io (WB b (.row true 8 (Du R b.ins (i+1))) (.row false 8 [(subT fr t).cells])) hI hdR).mono ?_
   rintro r h' ⟨rfl,maps',hI',hml,hsub⟩
   refine wk 1 ?_;refine AGo.sub (s':=⟨108,Aa (Aa (Aa (Aa (Aa (Aa (Aa (Aa (Aa (Aa Ba 2 (.ptr 0 1 0 0)) 4 (.ptr 1 1 0 0)) 5 (.ptr 2 1 0 0)) 7 (.ref 5 b.ins.length 0 b.ins.length)) 33 (Eh b.ins)) 34 (.int .i64 (b.ins.length:Int))) 35 (.int .i64 (i:Int))) 8 (.int .i64 (i:Int))) 9 (.ptr 6 1 0 0)) 10 (.int .i64 (d:Int)),FH (WB b (.row true 8 (Du R b.ins (i+1))) (.row false 8 [(subT fr t).cells])) R (Cn (d:Int) fr) (to.set d none) maps'⟩) (Sub.mk' Ci hsub) ?_;refine wk 40 ?_
   have hdf:(d:Int)<fr.length:=by rw[hI.lenF];omega
   refine EY 84 (fun hc=>?_) fun hc=>?_
   .
    have hu1 : use1 t.op = true := by have:t.op=2:=by {rw[<-hop];simpa using hc}
                                      unfold use1;rw[this];rfl
    have ha:=hT.u1 hu1
    have hsa:(subT fr t).a=rget fr t.a:=by unfold subT;rw[hu1];rfl
    obtain⟨a0,ha0⟩: ∃a0:Nat,t.a=a0:=⟨t.a.toNat,by omega⟩
    have ha1:=hI.ran a0 (by omega)
    obtain⟨a,haa⟩: ∃a:Nat,rget fr t.a=a:=⟨(rget fr t.a).toNat,by rw[ha0];omega⟩
    have haR:a<R:=by rw[ha0]at haa;omega
    have hra:rget fr a=a:=by have:=hI.root a0 (by omega);rw[<-ha0,haa]at this;exact this
    have hsa':(subT fr t).a=(a:Int):=by rw[hsa,haa]
    refine wk 40 ?_;refine asp 89 (fun hc2=>?_) fun hc2=>?_
    .
     have hne : a ≠ d := by rw[hsa']at hc2;have:(a:Int)≠d:=by simpa using hc2
                            omega
     have hn:Dt fr (subT fr t)=AS (Cn (d:Int) fr) (d:Int) a:=by unfold Dt;rw[hs1,hsn,hsa',show((subT fr t).op==2)=true from hc,show((a:Int) !=(d:Int))=true from by simp;omega];rfl
     refine wk 40 ?_
     rw[hsa']
     refine AOps.inn 93 rfl rfl rfl ?_;refine qw rfl Tryz.func79 (by kernel_rfl) rfl rfl ?_;refine(Wz (WB b (.row true 8 (Du R b.ins (i+1))) (.row false 8 [(subT fr t).cells])) hI' hdR haR hne (by rw[Dk (by omega)];simp) (List.getElem?_set_self (by rw[hI.lenT];exact hdR)) (by rw[Dk (by rw[hI.lenF];exact haR),hra];cases ((a:Int)==(d:Int)||(a:Int)==(d:Int))<;>rfl)).mono ?_
     rintro r h2 ⟨rfl,to2,maps2,hI2,hsub2⟩
     refine wk 1 ?_;refine AGo.sub (s':=⟨108,(Aa (Aa (Aa (Aa (Aa (Aa (Aa (Aa (Aa Ba 2 (.ptr 0 1 0 0)) 4 (.ptr 1 1 0 0)) 5 (.ptr 2 1 0 0)) 7 (.ref 5 b.ins.length 0 b.ins.length)) 33 (Eh b.ins)) 34 (.int .i64 (b.ins.length:Int))) 35 (.int .i64 (i:Int))) 8 (.int .i64 (i:Int))) 9 (.ptr 6 1 0 0)),FH (WB b (.row true 8 (Du R b.ins (i+1))) (.row false 8 [(subT fr t).cells])) R (AS (Cn (d:Int) fr) (d:Int) a) to2 maps2⟩) (Sub.mk' Ci hsub2) ?_;refine wk 40 ?_;exact⟨(i+1,AS (Cn (d:Int) fr) (d:Int) a,to2,maps2),DropK.mk' jU (S3 (o6:=.free) (Md b) rfl rfl rfl rfl rfl rfl (I3 _ _ _) (fun _=>rfl)),⟨hil,by rw[Lt ht,hF.pre,hn],hI2⟩,by show b.ins.length-(i+1)<b.ins.length-i;omega⟩
    have hn:Dt fr (subT fr t)=Cn (d:Int) fr:=by unfold Dt;rw[hs1,hsn,show((subT fr t).a !=(d:Int))=false from hc2];cases ((subT fr t).op==2)<;>rfl
    exact mB
   have hn:Dt fr (subT fr t)=Cn (d:Int) fr:=by unfold Dt;rw[hs1,hsn,show((subT fr t).op==2)=false from hc];rfl
   exact mB
  have hn:Dt fr (subT fr t)=fr:=by unfold Dt;rw[show decide ((subT fr t).sets>=0)=false from hs1];rfl
  refine wk 40 ?_;exact⟨(i+1,fr,to,maps),DropK.mk' jU (S3 (o6:=.free) (Md b) rfl rfl rfl rfl rfl rfl (I3 _ _ _) (fun _=>rfl)),⟨hil,by rw[Lt ht,hF.pre,hn],hI⟩,by show b.ins.length-(i+1)<b.ins.length-i;omega⟩
 have hin:i=b.ins.length:=by have:=hb2;simp at this;have:=hF.le;omega
 have hfr:(Db (Kr R) b.ins).2=fr:=by have:=hF.pre;rw[hin,List.take_length]at this;exact this
 have hgg: ∀{z:Int},0<=z/\z<R->(0:Int)<=z/\z<fr.length:=fun h=>by rw[hF.inv.lenF];exact h
 refine wk 2 ?_;refine AGo.ghost (Ghost.freeze 7 5 rfl rfl (JK hF.le).symm) ?_
 rw[List.drop_zero,List.take_of_length_le (Nat.le_of_eq (JK hF.le)),hin,ZR]
 refine wk 40 ?_;refine asp 99 (fun hc=>?_) fun hc=>?_
 .
  have hz:=hv (by simpa using hc)
  refine wk 40 ?_;refine aq 104 (Ab Ag rfl rfl rfl rfl rfl rfl rfl (by rw[B7,hF.inv.lenF]) rfl hz.1 hz.2) ?_;refine aq 105 (At Ag rfl rfl rfl (.ptr _ _ _ _ _ _ _ _ rfl (by rw[B7,hF.inv.lenF]) (K8 (hgg hz))) rfl) ?_;refine wk 40 ?_;refine⟨[_],⟨⟨_,_,_,_,rfl,rfl,.ptr _ _ _ _ _ _ _ _ rfl rfl rfl,rfl⟩,trivial⟩,?_,rfl⟩
  unfold Block.forward
  rw[hfr,show(b.fin==2)=true from hc];rfl
 refine wk 40 ?_;refine⟨[_],⟨⟨_,_,_,_,rfl,rfl,.ptr _ _ _ _ _ _ _ _ rfl rfl rfl,rfl⟩,trivial⟩,?_,rfl⟩
 unfold Block.forward
 rw[hfr,show(b.fin==2)=false from hc];rfl
end Go.Proofs.YtbbfelelocccmaaGreat.Sv
namespace Go.Proofs.YtbbfelelocccmaaGreat.Sv
open Go
set_option maxRecDepth 100000
structure tw(f:BFunc):Prop where
  r0:0<=f.regs
  r1:f.regs<=4000
  n:f.blocks.length<=1048576
  i: ∀x∈f.blocks,x.ins.length<=1048576
  t: ∀x∈f.blocks,∀t∈x.ins,fp f.regs.toNat t
  v: ∀x∈f.blocks,x.fin=2->0<=x.v/\x.v<f.regs.toNat
theorem forwardOf_ok(f:BFunc)(hf:tw f):APure Tryz.prog 42 [.agg f.cells] (fun r=>r= .tup [.agg f.forward.cells,.agg f.fcert.cells]):=by
 refine APure.of_body (n:=58) Ag Tryz.func42 rfl rfl ?_;have hn:=hf.n;have hr0:=hf.r0;have hr1:=hf.r1;refine wk 40 ?_;refine ax 1 (GW 2 0) ?_;refine ax 2 (EU Ag 1) ?_;refine ax 3 (EU Ag 2) ?_;refine wk 40 ?_;refine dx 15 (AB Ag (n:=f.blocks.length) (m:=f.blocks.length) 3 true rfl rfl rfl (by simp) (by simp) rfl rfl rfl rfl rfl (Nat.zero_lt_succ _) rfl (Nat.le_refl _) (by show 56*f.blocks.length<=_;omega) (by simp only[maxLen];omega)) ?_;refine wk 40 ?_;refine dx 4 (EU Ag 4) ?_;refine wk 40 ?_;refine ax 20 (AB Ag (n:=f.blocks.length) (m:=f.blocks.length) 5 true rfl rfl rfl (by simp) (by simp) rfl rfl rfl rfl rfl (Nat.zero_lt_succ _) rfl (Nat.le_refl _) (by show 24*f.blocks.length<=_;omega) (by simp only[maxLen];omega)) ?_;refine wk 40 ?_;refine ax 5 (EU Ag 6) ?_;refine wk 40 ?_;refine Bi (γ:=Nat) 7 (fun k=>⟨58,(Aa (Aa (Aa (Aa (Aa (Aa (Aa (Aa Ba 1 (.ptr 0 1 0 0)) 2 (.ptr 1 1 0 0)) 3 (.ptr 2 1 0 0)) 4 (.ptr 4 1 0 0)) 5 (.ptr 6 1 0 0)) 23 (B8 f.blocks)) 24 (.int .i64 (f.blocks.length:Int))) 25 (.int .i64 (k:Int))),(hput (hput (hput (hput (hput (hput (hput (BM 7) 0 (.row false 2 [f.cells])) 1 (.row false 2 [[.int .i64 0,.nil]])) 2 (.row false 1 [[.nil]])) 4 (.row false 2 [[.int .i64 f.regs,.ref 3 f.blocks.length 0 f.blocks.length]])) 6 (.row false 1 [[.ref 5 f.blocks.length 0 f.blocks.length]])) 3 (.row true 5 (((((f.blocks.map (Block.forward f.regs.toNat)).take (k)).map Block.cells)++List.replicate (f.blocks.length-(k)) [.nil,.int .i64 0,.int .i64 0,.int .i64 0,.int .i64 0])))) 5 (.row true 1 (((((List.replicate f.blocks.length (List.replicate f.regs.toNat true)).take (k)).map C0)++List.replicate (f.blocks.length-(k)) [.nil]))))⟩) (fun k=>k<=f.blocks.length) (fun k=>f.blocks.length-k) 0 (Sub.mk' Ez Ru) (Nat.zero_le _) (fun _=>(Ah (Ah (Ah (Ah (Ah (Ah (Ah (fun b hb=>A9 hb) rfl) rfl) rfl) rfl) rfl) rfl) rfl)) ?_
 intro k hk;refine wk 40 ?_;refine asp 26 (fun hb1=>?_) fun hb1=>?_
 .
  have hkl:k<f.blocks.length:=by simpa using hb1
  obtain⟨x,hx⟩:=Ae hkl;have hxm:=List.mem_of_getElem? hx;have hxf:(f.blocks.map (Block.forward f.regs.toNat))[k]?=some (x.forward f.regs.toNat):=by simp[hx]
  refine wk 40 ?_;refine aq 28 (MT Ag (AO hx)) ?_;refine wk 1 ?_;refine ax 7 (EU Ag 7) ?_;refine wk 40 ?_;have hfw:=SD x f.regs.toNat (by omega) (by have:=hf.i x hxm;omega) (hf.t x hxm) (hf.v x hxm);rw[show((f.regs.toNat:Nat):Int)=f.regs by omega]at hfw;refine DOps.x 36 rfl rfl rfl (DX Tryz.func57 hfw) ?_;refine dq 37 (Ab Ag rfl rfl rfl rfl rfl rfl rfl (AE (by simp:(f.blocks.map (Block.forward f.regs.toNat)).length=f.blocks.length) (Nat.le_of_lt hkl)) rfl (Int.natCast_nonneg _) (by omega)) ?_;refine DOps.w rfl rfl (o_store Ag rfl rfl rfl rfl rfl rfl (AE (by simp:(f.blocks.map (Block.forward f.regs.toNat)).length=f.blocks.length) (Nat.le_of_lt hkl)) (fill_get (by simp:(f.blocks.map (Block.forward f.regs.toNat)).length=f.blocks.length) hkl) rfl (by decide) rfl DG) ?_;refine wk 40 ?_;refine ax 40 (AB Ag (n:=f.regs.toNat) (m:=f.regs.toNat) 8 true rfl rfl rfl (by omega) (by omega) rfl rfl rfl rfl rfl (Nat.zero_lt_succ _) rfl (Nat.le_refl _) (by show 1*f.regs.toNat<=_;omega) (by simp only[maxLen];omega)) ?_;refine wk 40 ?_;refine Bi (γ:=Nat) 9 (fun j=>⟨58,(Aa (Aa (Aa (Aa (Aa (Aa (Aa (Aa (Aa (Aa (Aa (Aa Ba 1 (.ptr 0 1 0 0)) 2 (.ptr 1 1 0 0)) 3 (.ptr 2 1 0 0)) 4 (.ptr 4 1 0 0)) 5 (.ptr 6 1 0 0)) 23 (B8 f.blocks)) 24 (.int .i64 (f.blocks.length:Int))) 25 (.int .i64 (k:Int))) 6 (.int .i64 (k:Int))) 8 (.ref 8 f.regs.toNat 0 f.regs.toNat)) 42 (.int .i64 (f.regs.toNat:Int))) 43 (.int .i64 (j:Int))),hput (hput (hput (hput (hput (hput (hput (hput (BM 9) 0 (.row false 2 [f.cells])) 1 (.row false 2 [[.int .i64 0,.nil]])) 2 (.row false 1 [[.nil]])) 4 (.row false 2 [[.int .i64 f.regs,.ref 3 f.blocks.length 0 f.blocks.length]])) 6 (.row false 1 [[.ref 5 f.blocks.length 0 f.blocks.length]])) 3 (.row true 5 (((((f.blocks.map (Block.forward f.regs.toNat)).take (k+1)).map Block.cells)++List.replicate (f.blocks.length-(k+1)) [.nil,.int .i64 0,.int .i64 0,.int .i64 0,.int .i64 0])))) 5 (.row true 1 (((((List.replicate f.blocks.length (List.replicate f.regs.toNat true)).take (k)).map C0)++List.replicate (f.blocks.length-(k)) [.nil])))) 8 (.row true 1 ((((List.replicate f.regs.toNat true).take (j)).map A5)++List.replicate (f.regs.toNat-(j)) [.bool false]))⟩) (fun j=>j<=f.regs.toNat) (fun j=>f.regs.toNat-j) 0 (Sub.mk' Ci (by repeat(first | exact HSub.none _ | exact AH _ | exact AF (by decide) | refine HSub.put ?_ (by first | rfl | exact congrArg (fun es=>some (AObj.row true 5 es)) (BU (f:=Block.cells) (by simp:(f.blocks.map (Block.forward f.regs.toNat)).length=f.blocks.length) hxf)) | refine AG ?_ (by decide)))) (Nat.zero_le _) (fun _=>(Ah (Ah (Ah (Ah (Ah (Ah (Ah (Ah (fun b hb=>A9 hb) rfl) rfl) rfl) rfl) rfl) rfl) rfl) rfl)) ?_
  intro j hj;refine wk 40 ?_;refine asp 44 (fun hb2=>?_) fun hb2=>?_
  .
   have hjl:j<f.regs.toNat:=by have h:=hb2;simp at h;omega
   refine wk 40 ?_;refine aq 48 (Ab Ag rfl rfl rfl rfl rfl rfl rfl (AE (by simp:(List.replicate f.regs.toNat true).length=f.regs.toNat) (Nat.le_of_lt hjl)) rfl (Int.natCast_nonneg _) (by omega)) ?_;refine AOps.w rfl rfl (o_store Ag rfl rfl rfl rfl rfl rfl (AE (by simp:(List.replicate f.regs.toNat true).length=f.regs.toNat) (Nat.le_of_lt hjl)) (fill_get (by simp:(List.replicate f.regs.toNat true).length=f.regs.toNat) hjl) rfl (by decide) rfl DG) ?_;refine wk 2 ?_;refine aq 49 (Bk rfl rfl hjl (by simp only[maxLen];omega)) ?_;refine wk 40 ?_;exact mn
  have hge2:f.regs.toNat<=j:=by have h:=hb2;simp at h;omega
  refine wk 2 ?_;refine AGo.ghost (.freeze 8 8 rfl rfl (AE (by simp:(List.replicate f.regs.toNat true).length=f.regs.toNat) hj)) ?_;refine wk 40 ?_;refine aq 54 (Ab Ag rfl rfl rfl rfl rfl rfl rfl (AE (by simp:(List.replicate f.blocks.length (List.replicate f.regs.toNat true)).length=f.blocks.length) (Nat.le_of_lt hkl)) rfl (Int.natCast_nonneg _) (by omega)) ?_;refine AOps.w rfl rfl (o_store Ag rfl rfl rfl rfl rfl rfl (AE (by simp:(List.replicate f.blocks.length (List.replicate f.regs.toNat true)).length=f.blocks.length) (Nat.le_of_lt hkl)) (fill_get (by simp:(List.replicate f.blocks.length (List.replicate f.regs.toNat true)).length=f.blocks.length) hkl) rfl (by decide) rfl DG) ?_;refine wk 2 ?_;refine aq 55 (Bk rfl rfl hkl (by simp only[maxLen];omega)) ?_;refine wk 40 ?_;have hcr:=CT (f:=A5) (z:=[.bool false]) (by simp:(List.replicate f.regs.toNat true).length=f.regs.toNat) hge2
  have hrow:=BU (f:=C0) (z:=[.nil]) (x:=List.replicate f.regs.toNat true) (by simp:(List.replicate f.blocks.length (List.replicate f.regs.toNat true)).length=f.blocks.length) (by simp[hkl]:(List.replicate f.blocks.length (List.replicate f.regs.toNat true))[k]?=some (List.replicate f.regs.toNat true));exact⟨k+1,Drop.mk' Rs (by repeat(first | exact HDrop.none _ _ | exact HDrop.tail _ _ | refine HDrop.put ?_ (by first | rfl | exact congrArg (fun es=>some (AObj.row true 1 es)) (by rw[<-hrow];exact congrArg (fun b=>List.set _ _ [AV.lst false b]) hcr)) rfl rfl)),hkl,by omega⟩
 have hge:f.blocks.length<=k:=by simpa using hb1
 refine wk 2 ?_;refine AGo.ghost (.freezeCell 4 0 1 3 rfl rfl rfl rfl (AE (by simp:(f.blocks.map (Block.forward f.regs.toNat)).length=f.blocks.length) hk) (by decide)) ?_;refine AGo.ghost (.freezeCell 6 0 0 5 rfl rfl rfl rfl (AE (by simp:(List.replicate f.blocks.length (List.replicate f.regs.toNat true)).length=f.blocks.length) hk) (by decide)) ?_;refine wk 40 ?_;refine⟨[_,_],⟨⟨_,_,_,_,rfl,rfl,.ptr _ _ _ _ _ _ _ _ rfl rfl rfl,rfl⟩,⟨_,_,_,_,rfl,rfl,.ptr _ _ _ _ _ _ _ _ rfl rfl rfl,rfl⟩,trivial⟩,?_,rfl⟩;have e1:=CT (f:=Block.cells) (z:=[.nil,.int .i64 0,.int .i64 0,.int .i64 0,.int .i64 0]) (by simp:(f.blocks.map (Block.forward f.regs.toNat)).length=f.blocks.length) hge;exact l0
end Go.Proofs.YtbbfelelocccmaaGreat.Sv
namespace Go.Proofs.YtbbfelelocccmaaGreat.Sv
open Go
theorem Tt(f:BFunc)(hc:f.count<=1000000000):APure Tryz.prog 35 [.agg f.cells] (fun r=>r= .int .i64 (f.count:Int)):=by
 have hs3:=D2 f;refine APure.of_body (n:=25) Ag Tryz.func35 rfl rfl ?_;refine asq ?_;refine Je 0 rfl (fun H ι v=>P4) (fun hfit=>?_);refine Ya ?_;refine ax 1 (GW 2 0) ?_;refine wk 15 ?_;refine Bi (γ:=Nat) 1 (fun j=>⟨25,(Aa (Aa (Aa Ba 1 (.ptr 0 1 0 0)) 3 (.int .i64 ((f.blocks.length+Dn (f.blocks.take j):Nat):Int))) 4 (.int .i64 (j:Int))),(hput (BM 1) 0 (.row false 2 [f.cells]))⟩) (fun j=>True) (fun j=>f.blocks.length-j) 0 (Sub.mk' (by repeat(first | exact ESub.new _ | refine ESub.put ?_ (by first | rfl | exact congrArg (fun(n:Nat)=>some (AV.int .i64 (n:Int))) (by show(List.map Block.cells f.blocks).length=f.blocks.length+0;simp)))) FF) trivial (fun _=>Ah (fun b hb=>A9 hb) rfl) ?_;intro j _;refine wk 9 ?_;refine asp 12 (fun hb1=>?_) fun hb1=>?_
 .
  refine act ?_;have hjl:j<f.blocks.length:=by simpa using hb1
  obtain⟨x,hx⟩:=Ae hjl;have hs4:=Sw hx;have hs5:=Su (l:=f.blocks) (k:=j+1);refine wk 8 ?_;refine aq 19 (Au Ag rfl rfl rfl rfl rfl rfl (Int.natCast_nonneg _) (AO (by assumption)) rfl) ?_;refine wk 3 ?_;refine aq 23 (A2 (r:=.int .i64 (((f.blocks.length+Dn (f.blocks.take j))+x.ins.length:Nat):Int)) rfl rfl rfl (by simp only[AM,Bw,isShift,cond_false,if_true];rw[List.length_map,BJ (by omega) (by omega)];rfl)) ?_;refine wk 4 ?_;refine aq 14 (Bk rfl rfl hjl hfit.1) ?_;refine wk 2 ?_;exact⟨j+1,Drop.mk' (by repeat(first | exact EDrop.new _ _ | refine EDrop.put ?_ (by first | rfl | exact congrArg (fun(n:Nat)=>some (AV.int .i64 (n:Int))) (by rw[hs4];omega)) (by first | rfl | exact Cb _ rfl | exact Hk _ rfl))) Rw,trivial,by omega⟩
 refine acf ?_;have hje:Dn (f.blocks.take j)=Dn f.blocks:=by rw[List.take_of_length_le (by simpa using hb1)]
 refine wk 6 ?_;refine GN ⟨[_],⟨rfl,trivial⟩,?_,rfl⟩;show AV.int .i64 _=AV.int .i64 _;congr 1;rw[hje,hs3]
theorem NP(b:Blocks)(hc:b.count<=1000000000):APure Tryz.prog 27 [.agg b.cells] (fun r=>r= .int .i64 (b.count:Int)):=by
 refine APure.of_body (n:=21) Ag Tryz.func27 rfl rfl ?_;refine asq ?_;refine Je 0 rfl (fun H ι v=>NV) (fun hfit=>?_);refine Ya ?_;refine ax 1 (GW 2 0) ?_;refine wk 12 ?_;refine Bi (γ:=Nat) 1 (fun k=>⟨21,(Aa (Aa (Aa Ba 1 (.ptr 0 1 0 0)) 3 (.int .i64 ((((b.funcs.take k).map BFunc.count).sum:Nat):Int))) 4 (.int .i64 (k:Int))),(hput (BM 1) 0 (.row false 2 [b.cells]))⟩) (fun k=>True) (fun k=>b.funcs.length-k) 0 (Sub.mk' Ez FF) trivial (fun _=>Ah (fun b hb=>A9 hb) rfl) ?_;intro k _;refine wk 9 ?_;refine asp 9 (fun hb1=>?_) fun hb1=>?_
 .
  refine act ?_;have hkl:k<b.funcs.length:=by simpa using hb1
  obtain⟨f,hf⟩:=Ae hkl;have hs1:=sum_succ (p:=BFunc.count) hf;have hs2:_<=b.count:=Mq (l:=b.funcs) (p:=BFunc.count) (k:=k+1);have hs3:=D2 f;refine wk 8 ?_;refine aq 16 (Au Ag rfl rfl rfl rfl rfl rfl (Int.natCast_nonneg _) (AO (by assumption)) rfl) ?_;refine wk 1 ?_;refine ax 18 (DX Tryz.func35 (Tt f (by omega))) ?_;refine aq 19 (A2 (r:=.int .i64 ((((b.funcs.take k).map BFunc.count).sum+f.count:Nat):Int)) rfl rfl rfl (by simp only[AM,Bw,isShift,cond_false,if_true];rw[BJ (by omega) (by omega)];rfl)) ?_;refine wk 4 ?_;refine aq 11 (Bk rfl rfl hkl hfit.1) ?_;refine wk 2 ?_;exact⟨k+1,Drop.mk' (by repeat(first | exact EDrop.new _ _ | refine EDrop.put ?_ (by first | rfl | exact congrArg (fun(n:Nat)=>some (AV.int .i64 (n:Int))) (by rw[hs1])) (by first | rfl | exact Cb _ rfl | exact Hk _ rfl))) Rw,trivial,by omega⟩
 refine acf ?_;have hke:((b.funcs.take k).map BFunc.count).sum=b.count:=gd (by simpa using hb1);refine wk 6 ?_;refine GN ⟨[_],⟨rfl,trivial⟩,?_,rfl⟩;show AV.int .i64 _=AV.int .i64 _;congr 1;rw[hke]
theorem gh(t:Tac):APure Tryz.prog 74 [.agg t.cells] (fun r=>r= .int .i64 t.sets):=by
 refine APure.of_body (n:=14) Ag Tryz.func74 rfl rfl ?_;refine Nk ?_;refine ax 1 (GW 8 0) ?_;refine wk 15 ?_;refine asp 5 (fun hb1=>?_) fun hb1=>?_
 .
  refine wk 9 ?_;exact Vt
 refine wk 6 ?_;refine asp 5 (fun hb2=>?_) fun hb2=>?_
 .
  refine wk 9 ?_;exact Vt
 refine wk 6 ?_;refine asp 5 (fun hb3=>?_) fun hb3=>?_
 .
  refine wk 9 ?_;exact Vt
 refine wk 6 ?_;refine asp 5 (fun hb4=>?_) fun hb4=>?_
 .
  refine wk 9 ?_;exact Vt
 refine wk 6 ?_;refine asp 5 (fun hb5=>?_) fun hb5=>?_
 .
  refine wk 9 ?_;exact Vt
 refine wk 5 ?_;refine asp 5 (fun hb6=>?_) fun hb6=>?_
 .
  refine wk 7 ?_;exact Vt
 refine wk 6 ?_;exact Vt
theorem f7(t:Tac):APure Tryz.prog 75 [.agg t.cells] (fun r=>r=AZ t.uses):=by
 refine APure.of_body (n:=21) Ag Tryz.func75 rfl rfl ?_;refine Nk ?_;refine ax 1 (GW 8 0) ?_;refine wk 15 ?_;refine asp 5 (fun hb1=>?_) fun hb1=>?_
 .
  refine wk 7 ?_;exact fK
 refine wk 6 ?_;refine asp 5 (fun hb2=>?_) fun hb2=>?_
 .
  refine wk 7 ?_;exact fK
 refine wk 6 ?_;refine asp 5 (fun hb3=>?_) fun hb3=>?_
 .
  refine wk 7 ?_;exact fK
 refine wk 5 ?_;refine asp 5 (fun hb4=>?_) fun hb4=>?_
 .
  refine wk 5 ?_;exact fK
 refine wk 7 ?_;refine asp 13 (fun hb5=>?_) fun hb5=>?_
 .
  refine wk 9 ?_;refine ax 20 (Cp Ag rfl rfl rfl rfl rfl rfl (by decide) rfl rfl rfl rfl rfl rfl) ?_;refine wk 2 ?_;exact fM
 refine wk 5 ?_;refine asp 13 (fun hb6=>?_) fun hb6=>?_
 .
  refine wk 7 ?_;refine ax 20 (Cp Ag rfl rfl rfl rfl rfl rfl (by decide) rfl rfl rfl rfl rfl rfl) ?_;refine wk 2 ?_;exact fM
 refine wk 6 ?_;refine AGo.ghost (.empty 2 rfl) ?_;exact fM
theorem Ca(i j:Int):APure Tryz.prog 73 [.int .i64 i,.int .i64 j] (fun r=>r= .bool (AT i j)):=by
 refine APure.of_body (n:=12) Ag Tryz.func73 rfl rfl ?_;refine wk 9 ?_;refine EY 7 (fun hb1=>?_) fun hb1=>?_
 .
  refine wk 6 ?_;refine GN ⟨[_],⟨rfl,trivial⟩,?_,rfl⟩;refine bc ?_;simp_all[AT]<;>omega
 refine wk 6 ?_;refine GN ⟨[_],⟨rfl,trivial⟩,?_,rfl⟩;refine bc ?_;simp_all[AT]<;>omega
theorem ix(b:Block)(blocks regs:Int):APure Tryz.prog 54 [.agg b.cells,.int .i64 blocks,.int .i64 regs] (fun r=>r= .bool (b.ends blocks regs)):=by
 refine APure.of_body (n:=61) Ag Tryz.func54 rfl rfl ?_;refine Nk ?_;refine ax 3 (GW 5 0) ?_;refine wk 14 ?_;refine asp 9 (fun hb1=>?_) fun hb1=>?_
 .
  refine wk 6 ?_;refine ax 14 (DX Tryz.func73 (Ca _ _)) ?_;refine wk 1 ?_;refine EY 15 (fun hb2=>?_) fun hb2=>?_
  .
   refine wk 5 ?_;refine EY 20 (fun hb3=>?_) fun hb3=>?_
   .
    refine wk 6 ?_;exact PG
   refine wk 6 ?_;exact PG
  refine wk 11 ?_;exact PG
 refine wk 6 ?_;refine asp 25 (fun hb4=>?_) fun hb4=>?_
 .
  refine wk 6 ?_;refine ax 30 (DX Tryz.func73 (Ca _ _)) ?_;refine wk 1 ?_;refine EY 31 (fun hb5=>?_) fun hb5=>?_
  .
   refine wk 3 ?_;refine ax 35 (DX Tryz.func73 (Ca _ _)) ?_;refine wk 2 ?_;refine EY 37 (fun hb6=>?_) fun hb6=>?_
   .
    refine wk 3 ?_;refine ax 41 (DX Tryz.func73 (Ca _ _)) ?_;refine wk 3 ?_;exact PG
   refine wk 7 ?_;exact PG
  refine wk 13 ?_;exact PG
 refine wk 8 ?_;refine EY 46 (fun hb7=>?_) fun hb7=>?_
 .
  refine wk 5 ?_;refine EY 51 (fun hb8=>?_) fun hb8=>?_
  .
   refine wk 5 ?_;refine EY 56 (fun hb9=>?_) fun hb9=>?_
   .
    refine wk 6 ?_;exact PG
   refine wk 6 ?_;exact PG
  refine wk 11 ?_;exact PG
 refine wk 16 ?_;exact PG
theorem iq(t:Tac)(f regs words:Int)(hw:0<=words)(hw2:words<=1048576):APure Tryz.prog 55 [.agg t.cells,.int .i64 f,.int .i64 regs,.int .i64 words] (fun r=>r= .bool (t.fits f regs words)):=by
 refine APure.of_body (n:=166) Ag Tryz.func55 rfl rfl ?_;refine Nk ?_;refine ax 4 (GW 8 0) ?_;refine wk 9 ?_;refine EY 15 (fun hb1=>?_) fun hb1=>?_
 .
  refine wk 10 ?_;refine GN ⟨[_],⟨rfl,trivial⟩,?_,rfl⟩;refine bc ?_;exact(fits_op (by simp_all<;>omega)).symm
 refine wk 5 ?_;refine asp 19 (fun hb2=>?_) fun hb2=>?_
 .
  refine wk 5 ?_;refine GN ⟨[_],⟨rfl,trivial⟩,?_,rfl⟩;refine bc ?_;exact(fits_op (by simp_all<;>omega)).symm
 refine wk 7 ?_;refine ax 9 (EU Ag 1) ?_;refine wk 3 ?_;refine AGo.join (γ:=Int) (fun d=>⟨166,(Aa (Aa (Aa (Aa (Aa Ba 1 (.int .i64 f)) 2 (.int .i64 regs)) 3 (.int .i64 words)) 4 (.ptr 0 1 0 0)) 9 (.ptr 1 1 0 0)),(hput (hput (BM 2) 0 (.row false 8 [t.cells])) 1 (.row false 8 [[.int .i64 t.op,.int .i64 d,.int .i64 0,.int .i64 0,.int .i64 0,.int .i64 0,.int .i64 0,.int .u32 0]]))⟩) (fun d=>(!setsOp t.op||AT t.d regs)=true/\d=bif setsOp t.op then t.d else 0) ?_ ?_
 .
  refine wk 3 ?_;refine ax 24 (DX Tryz.func74 (gh _)) ?_;refine wk 2 ?_;refine EY 26 (fun hb3=>?_) fun hb3=>?_
  .
   refine wk 43 ?_;refine ax 62 (DX Tryz.func73 (Ca _ _)) ?_;refine wk 2 ?_;refine asp 63 (fun hb4=>?_) fun hb4=>?_
   .
    exact Vv
   exact jG
  refine wk 5 ?_;refine EY 31 (fun hb5=>?_) fun hb5=>?_
  .
   refine wk 38 ?_;refine ax 62 (DX Tryz.func73 (Ca _ _)) ?_;refine wk 2 ?_;refine asp 63 (fun hb6=>?_) fun hb6=>?_
   .
    exact Vv
   exact jG
  refine wk 5 ?_;refine EY 36 (fun hb7=>?_) fun hb7=>?_
  .
   refine wk 33 ?_;refine ax 62 (DX Tryz.func73 (Ca _ _)) ?_;refine wk 2 ?_;refine asp 63 (fun hb8=>?_) fun hb8=>?_
   .
    exact Vv
   exact jG
  refine wk 5 ?_;refine EY 41 (fun hb9=>?_) fun hb9=>?_
  .
   refine wk 28 ?_;refine ax 62 (DX Tryz.func73 (Ca _ _)) ?_;refine wk 2 ?_;refine asp 63 (fun hb10=>?_) fun hb10=>?_
   .
    exact Vv
   exact jG
  refine wk 5 ?_;refine EY 46 (fun hb11=>?_) fun hb11=>?_
  .
   refine wk 23 ?_;refine ax 62 (DX Tryz.func73 (Ca _ _)) ?_;refine wk 2 ?_;refine asp 63 (fun hb12=>?_) fun hb12=>?_
   .
    exact Vv
   exact jG
  refine wk 5 ?_;refine EY 51 (fun hb13=>?_) fun hb13=>?_
  .
   refine wk 18 ?_;refine ax 62 (DX Tryz.func73 (Ca _ _)) ?_;refine wk 2 ?_;refine asp 63 (fun hb14=>?_) fun hb14=>?_
   .
    exact Vv
   exact jG
  refine wk 5 ?_;refine asp 55 (fun hb15=>?_) fun hb15=>?_
  .
   refine wk 13 ?_;refine ax 62 (DX Tryz.func73 (Ca _ _)) ?_;refine wk 2 ?_;refine asp 63 (fun hb16=>?_) fun hb16=>?_
   .
    exact Vv
   exact jG
  refine wk 2 ?_;exact⟨0,Sub.mk' Ci FF,⟨by simp[setsOp, *],by simp[setsOp, *]⟩⟩
 intro d ⟨hd,hdd⟩;refine wk 3 ?_;refine ax 65 (DX Tryz.func75 (f7 _)) ?_;refine wk 8 ?_;refine Bi (γ:=Nat) 2 (fun j=>⟨166,(Aa (Aa (Aa (Aa (Aa (Aa (Aa Ba 1 (.int .i64 f)) 2 (.int .i64 regs)) 3 (.int .i64 words)) 4 (.ptr 0 1 0 0)) 9 (.ptr 1 1 0 0)) 10 (AZ t.uses)) 11 (.int .i64 (j:Int))),(hput (hput (BM 2) 0 (.row false 8 [t.cells])) 1 (.row false 8 [[.int .i64 t.op,.int .i64 d,.int .i64 0,.int .i64 0,.int .i64 0,.int .i64 0,.int .i64 0,.int .u32 0]]))⟩) (fun j=>(t.uses.take j).all (fun r=>AT r regs)=true) (fun j=>t.uses.length-j) 0 (Sub.mk' Ci FF) rfl (fun _=>Ah (Ah (fun b hb=>A9 hb) rfl) rfl) ?_;intro j hj;refine wk 8 ?_;refine asp 69 (fun hb17=>?_) fun hb17=>?_
 .
  refine act ?_;have hjl:j<t.uses.length:=F9 hb17;obtain⟨u,hu⟩:=Ae hjl;refine wk 7 ?_;refine aq 74 (Au Ag rfl rfl rfl rfl rfl rfl (Int.natCast_nonneg _) (AO (by assumption)) rfl) ?_;refine wk 2 ?_;refine ax 77 (DX Tryz.func73 (Ca _ _)) ?_;refine wk 2 ?_;refine asp 78 (fun hb18=>?_) fun hb18=>?_
  .
   refine act ?_;have hbw:=hb18;refine wk 4 ?_;refine GN ⟨[_],⟨rfl,trivial⟩,?_,rfl⟩;refine bc ?_;exact(d5 (Lj hu (by simpa using hbw))).symm
  refine acf ?_;have hbw:=hb18;refine wk 3 ?_;refine aq 71 (Bk rfl rfl hjl (Nat.le_trans (Ky t) (by decide))) ?_;exact mr
 refine acf ?_;have hall:=all_end hj (Gc hb17);refine wk 2 ?_;refine AGo.join (γ:=Int) (fun a=>⟨166,(Aa (Aa (Aa (Aa (Aa (Aa Ba 1 (.int .i64 f)) 2 (.int .i64 regs)) 3 (.int .i64 words)) 4 (.ptr 0 1 0 0)) 9 (.ptr 1 1 0 0)) 10 (AZ t.uses)),(hput (hput (BM 2) 0 (.row false 8 [t.cells])) 1 (.row false 8 [[.int .i64 t.op,.int .i64 d,.int .i64 a,.int .i64 0,.int .i64 0,.int .i64 0,.int .i64 0,.int .u32 0]]))⟩) (fun a=>a=bif use1 t.op||use2 t.op then t.a else 0) ?_ ?_
 .
  refine wk 6 ?_;refine asp 81 (fun hb19=>?_) fun hb19=>?_
  .
   refine wk 7 ?_;exact⟨t.a,Sub.mk' Ci FF,by have h3:=Nu t.op;cases h1:use1 t.op<;>cases h2:use2 t.op<;>simp_all[Tac.uses]⟩
  exact mz
 intro a haa;refine asq ?_;refine AGo.join (γ:=Int) (fun b=>⟨166,(Aa (Aa (Aa (Aa (Aa Ba 1 (.int .i64 f)) 2 (.int .i64 regs)) 3 (.int .i64 words)) 4 (.ptr 0 1 0 0)) 9 (.ptr 1 1 0 0)),(hput (hput (BM 2) 0 (.row false 8 [t.cells])) 1 (.row false 8 [[.int .i64 t.op,.int .i64 d,.int .i64 a,.int .i64 b,.int .i64 0,.int .i64 0,.int .i64 0,.int .u32 0]]))⟩) (fun b=>b=bif use2 t.op then t.b else 0) ?_ ?_
 .
  refine wk 6 ?_;refine asp 87 (fun hb20=>?_) fun hb20=>?_
  .
   refine wk 7 ?_;exact⟨t.b,Sub.mk' Ci FF,by have h3:=Nu t.op;cases h1:use1 t.op<;>cases h2:use2 t.op<;>simp_all[Tac.uses]⟩
  exact mz
 intro b hbb;refine wk 12 ?_;refine asp 93 (fun hb21=>?_) fun hb21=>?_
 .
  refine wk 11 ?_;exact iS
 refine wk 6 ?_;refine asp 98 (fun hb22=>?_) fun hb22=>?_
 .
  refine wk 14 ?_;refine EY 106 (fun hb23=>?_) fun hb23=>?_
  .
   refine wk 10 ?_;exact aK
  refine wk 5 ?_;refine asp 110 (fun hb24=>?_) fun hb24=>?_
  .
   refine wk 5 ?_;exact aK
  refine wk 6 ?_;exact iS
 refine wk 7 ?_;refine asp 111 (fun hb25=>?_) fun hb25=>?_
 .
  refine wk 15 ?_;refine ax 120 (DX Tryz.func73 (Ca _ _)) ?_;refine wk 2 ?_;refine asp 121 (fun hb26=>?_) fun hb26=>?_
  .
   refine wk 5 ?_;exact aK
  refine wk 6 ?_;exact iS
 refine wk 5 ?_;refine asp 111 (fun hb27=>?_) fun hb27=>?_
 .
  refine wk 13 ?_;refine ax 120 (DX Tryz.func73 (Ca _ _)) ?_;refine wk 2 ?_;refine asp 121 (fun hb28=>?_) fun hb28=>?_
  .
   refine wk 5 ?_;exact aK
  refine wk 6 ?_;exact iS
 refine wk 7 ?_;refine asp 122 (fun hb29=>?_) fun hb29=>?_
 .
  refine wk 20 ?_;refine EY 134 (fun hb30=>?_) fun hb30=>?_
  .
   refine wk 24 ?_;exact Tb
  refine wk 5 ?_;refine EY 139 (fun hb31=>?_) fun hb31=>?_
  .
   refine wk 19 ?_;exact Tb
  refine wk 5 ?_;refine EY 144 (fun hb32=>?_) fun hb32=>?_
  .
   refine wk 14 ?_;exact Tb
  refine wk 9 ?_;refine asp 152 (fun hb33=>?_) fun hb33=>?_
  .
   refine wk 5 ?_;exact Tb
  refine wk 6 ?_;exact iS
 refine wk 5 ?_;refine asp 122 (fun hb34=>?_) fun hb34=>?_
 .
  refine wk 18 ?_;refine EY 134 (fun hb35=>?_) fun hb35=>?_
  .
   refine wk 24 ?_;exact Tb
  refine wk 5 ?_;refine EY 139 (fun hb36=>?_) fun hb36=>?_
  .
   refine wk 19 ?_;exact Tb
  refine wk 5 ?_;refine EY 144 (fun hb37=>?_) fun hb37=>?_
  .
   refine wk 14 ?_;exact Tb
  refine wk 9 ?_;refine asp 152 (fun hb38=>?_) fun hb38=>?_
  .
   refine wk 5 ?_;exact Tb
  refine wk 6 ?_;exact iS
 refine wk 6 ?_;refine asp 153 (fun hb39=>?_) fun hb39=>?_
 .
  refine wk 13 ?_;refine ax 161 (DX Tryz.func73 (Ca _ _)) ?_;refine wk 2 ?_;refine asp 162 (fun hb40=>?_) fun hb40=>?_
  .
   refine wk 5 ?_;exact aK
  refine wk 6 ?_;exact iS
 refine wk 6 ?_;exact iS
theorem lc(f:BFunc)(number words:Int)(hw:0<=words)(hw2:words<=1048576):APure Tryz.prog 40 [.agg f.cells,.int .i64 number,.int .i64 words] (fun r=>r= .bool (f.one number words)):=by
 refine APure.of_body (n:=68) Ag Tryz.func40 rfl rfl ?_;refine asq ?_;refine Je 0 rfl (fun H ι v=>P4) (fun hfit=>?_);refine Ya ?_;refine ax 3 (GW 2 0) ?_;refine wk 9 ?_;refine EY 12 (fun hb1=>?_) fun hb1=>?_
 .
  refine wk 16 ?_;exact jz
 refine wk 5 ?_;refine EY 17 (fun hb2=>?_) fun hb2=>?_
 .
  refine wk 11 ?_;exact jz
 refine wk 6 ?_;refine asp 22 (fun hb3=>?_) fun hb3=>?_
 .
  refine wk 5 ?_;exact jz
 refine acf ?_;have h0:0<=f.regs/\f.regs<=4000/\f.blocks.length≠0:=by simp_all<;>omega
 refine wk 7 ?_;refine Bi (γ:=Nat) 1 (fun k=>⟨68,(Aa (Aa (Aa (Aa Ba 1 (.int .i64 number)) 2 (.int .i64 words)) 3 (.ptr 0 1 0 0)) 7 (.int .i64 (k:Int))),(hput (BM 1) 0 (.row false 2 [f.cells]))⟩) (fun k=>(f.blocks.take k).all (fun x=>x.ok f.blocks.length f.regs number words)=true) (fun k=>f.blocks.length-k) 0 (Sub.mk' Ci FF) rfl (fun _=>Ah (fun b hb=>A9 hb) rfl) ?_;intro k hk;refine wk 9 ?_;refine asp 27 (fun hb4=>?_) fun hb4=>?_
 .
  refine act ?_;have hkl:k<f.blocks.length:=F9 hb4;obtain⟨x,hx⟩:=Ae hkl;refine wk 9 ?_;refine dq 33 (Au Ag rfl rfl rfl rfl rfl rfl (Int.natCast_nonneg _) (AO (by assumption)) rfl) ?_;refine wk 6 ?_;refine dx 40 (DX Tryz.func54 (ix x _ _)) ?_;refine dq 41 (TJ rfl rfl) ?_;refine wk 1 ?_;refine asp 41 (fun hb5=>?_) fun hb5=>?_
  .
   refine act ?_;have hends:x.ends f.blocks.length f.regs=false:=by simpa using hb5
   refine wk 4 ?_;refine GN ⟨[_],⟨rfl,trivial⟩,?_,rfl⟩;refine bc ?_;rw[KP h0.1 h0.2.1 h0.2.2,Lj hx (by simp[Block.ok,hends])]
  refine acf ?_;have hends:x.ends f.blocks.length f.regs=true:=by simpa using hb5
  refine wk 6 ?_;refine Bi (γ:=Nat) 1 (fun j=>⟨68,(Aa (Aa (Aa (Aa (Aa Ba 1 (.int .i64 number)) 2 (.int .i64 words)) 3 (.ptr 0 1 0 0)) 7 (.int .i64 (k:Int))) 8 (.int .i64 (j:Int))),(hput (BM 1) 0 (.row false 2 [f.cells]))⟩) (fun j=>(x.ins.take j).all (fun t=>t.fits number f.regs words)=true) (fun j=>x.ins.length-j) 0 (Sub.mk' Ci FF) rfl (fun _=>Ah (fun b hb=>A9 hb) rfl) ?_;intro j hj;refine wk 7 ?_;refine aq 46 (Au Ag rfl rfl rfl rfl rfl rfl (Int.natCast_nonneg _) (AO (by assumption)) rfl) ?_;refine wk 5 ?_;refine asp 50 (fun hb6=>?_) fun hb6=>?_
  .
   refine act ?_;have hjl:j<x.ins.length:=F9 hb6;obtain⟨u,hu⟩:=Ae hjl;refine wk 8 ?_;refine dq 56 (Au Ag rfl rfl rfl rfl rfl rfl (Int.natCast_nonneg _) (AO (by assumption)) rfl) ?_;refine wk 3 ?_;refine dq 60 (Au Ag rfl rfl rfl rfl rfl rfl (Int.natCast_nonneg _) (AO (by assumption)) rfl) ?_;refine wk 5 ?_;refine dx 66 (DX Tryz.func55 (iq u _ _ _ hw hw2)) ?_;refine dq 67 (TJ rfl rfl) ?_;refine wk 1 ?_;refine asp 67 (fun hb7=>?_) fun hb7=>?_
   .
    refine act ?_;have hbw:=hb7;refine wk 4 ?_;refine GN ⟨[_],⟨rfl,trivial⟩,?_,rfl⟩;refine bc ?_;rw[KP h0.1 h0.2.1 h0.2.2,Lj hx (by simp only[Block.ok,Lj (p:=fun t=>Tac.fits t number f.regs words) hu (by simpa using hbw),Bool.and_false])]
   refine acf ?_;have hbw:=hb7;refine wk 3 ?_;refine aq 52 (Bk rfl rfl hjl (hfit.2 x (List.mem_of_getElem? hx))) ?_;exact mr
  refine acf ?_;have hins:=all_end hj (Gc hb6);refine wk 3 ?_;refine aq 29 (Bk rfl rfl hkl hfit.1) ?_;refine wk 2 ?_;exact⟨k+1,Drop.mk' Td Rw,Pp hx hk (by simp[Block.ok,hends,hins]),by omega⟩
 refine acf ?_;have hall:=all_end hk (Gc hb4);refine wk 5 ?_;refine GN ⟨[_],⟨rfl,trivial⟩,?_,rfl⟩;refine bc ?_;rw[KP h0.1 h0.2.1 h0.2.2,hall]
theorem bK(b:Blocks):APure Tryz.prog 29 [.agg b.cells] (fun r=>r= .bool b.right):=by
 refine APure.of_body (n:=35) Ag Tryz.func29 rfl rfl ?_;refine asq ?_;refine Je 0 rfl (fun H ι v=>NV) (fun hfit=>?_);refine Ya ?_;refine ax 1 (GW 2 0) ?_;refine wk 9 ?_;refine EY 7 (fun hb1=>?_) fun hb1=>?_
 .
  refine wk 16 ?_;exact jA
 refine wk 5 ?_;refine EY 12 (fun hb2=>?_) fun hb2=>?_
 .
  refine wk 11 ?_;exact jA
 refine wk 6 ?_;refine asp 17 (fun hb3=>?_) fun hb3=>?_
 .
  refine wk 5 ?_;exact jA
 refine acf ?_;have h0:0<=b.words/\b.words<=1048576/\b.funcs.length≠0:=by simp_all<;>omega
 refine wk 7 ?_;refine Bi (γ:=Nat) 1 (fun k=>⟨35,(Aa (Aa Ba 1 (.ptr 0 1 0 0)) 3 (.int .i64 (k:Int))),(hput (BM 1) 0 (.row false 2 [b.cells]))⟩) (fun k=>(b.funcs.zipIdx.take k).all (fun p=>p.1.one (p.2:Int) b.words)=true) (fun k=>b.funcs.length-k) 0 (Sub.mk' Ci FF) rfl (fun _=>Ah (fun b hb=>A9 hb) rfl) ?_;intro k hk;refine wk 9 ?_;refine asp 22 (fun hb4=>?_) fun hb4=>?_
 .
  refine act ?_;have hkl:k<b.funcs.length:=F9 hb4;obtain⟨x,hx⟩:=Ae hkl;refine wk 8 ?_;refine dq 28 (Au Ag rfl rfl rfl rfl rfl rfl (Int.natCast_nonneg _) (AO (by assumption)) rfl) ?_;refine wk 4 ?_;refine dx 33 (DX Tryz.func40 (lc x _ _ h0.1 h0.2.1)) ?_;refine dq 34 (TJ rfl rfl) ?_;refine wk 1 ?_;refine asp 34 (fun hb5=>?_) fun hb5=>?_
  .
   refine act ?_;have hone:=hb5;refine wk 4 ?_;refine GN ⟨[_],⟨rfl,trivial⟩,?_,rfl⟩;refine bc ?_;rw[Lz h0.1 h0.2.1 h0.2.2,Lj (Gh hx) (by simpa using hone)]
  refine acf ?_;have hone:=hb5;refine wk 3 ?_;refine aq 24 (Bk rfl rfl hkl hfit.1) ?_;refine wk 2 ?_;exact⟨k+1,Drop.mk' Td Rw,Pp (Gh hx) hk (by simpa using hone),by omega⟩
 refine acf ?_;have hall:=all_end hk (by rw[List.length_zipIdx];exact Gc hb4);refine wk 5 ?_;refine GN ⟨[_],⟨rfl,trivial⟩,?_,rfl⟩;refine bc ?_;rw[Lz h0.1 h0.2.1 h0.2.2,hall]
theorem VM(b:Blocks)(hL:b.Lim):APure Tryz.prog 13 [.agg b.cells] (fun r=>r= .bool (GR b)):=by
 have hn:=hL.n;refine APure.of_body (n:=37) Ag Tryz.func13 rfl rfl ?_;refine Nk ?_;refine ax 1 (GW 2 0) ?_;refine wk 10 ?_;refine EY 8 (fun hb1=>?_) fun hb1=>?_
 .
  refine wk 20 ?_;exact fJ
 refine wk 5 ?_;refine EY 13 (fun hb2=>?_) fun hb2=>?_
 .
  refine wk 15 ?_;exact fJ
 refine wk 1 ?_;refine ax 15 (DX Tryz.func29 (bK b)) ?_;refine wk 3 ?_;refine EY 18 (fun hb3=>?_) fun hb3=>?_
 .
  refine wk 10 ?_;exact fJ
 refine wk 1 ?_;refine ax 20 (DX Tryz.func27 (NP b (by have:=hL.c;omega))) ?_;refine wk 3 ?_;refine asp 22 (fun hb4=>?_) fun hb4=>?_
 .
  refine wk 5 ?_;exact fJ
 refine acf ?_;have hg1:b.funcs.length<=6:=by have h:=hb1;simp at h;omega
 have hg2:b.words<=400:=by have h:=hb2;simp at h;omega
 have hg3:b.right=true:=by have h:=hb3;simpa using h
 have hg4:b.count<=200:=by have h:=hb4;simp at h;omega
 refine wk 7 ?_;refine Bi (γ:=Nat) 1 (fun k=>⟨37,(Aa (Aa Ba 1 (.ptr 0 1 0 0)) 3 (.int .i64 (k:Int))),(hput (BM 1) 0 (.row false 2 [b.cells]))⟩) (fun k=>k<=b.funcs.length/\(b.funcs.take k).all OC=true) (fun k=>b.funcs.length-k) 0 (Sub.mk' Ez FF) ⟨Nat.zero_le _,rfl⟩ (fun _=>Ah (fun b hb=>A9 hb) rfl) ?_;intro k hF;refine wk 9 ?_;refine asp 27 (fun hb5=>?_) fun hb5=>?_
 .
  refine act ?_;have hkl:=F9 hb5;obtain⟨f,hf⟩:=Ae hkl;refine wk 8 ?_;refine aq 33 (MT Ag (AO hf)) ?_;refine wk 4 ?_;refine asp 36 (fun hb6=>?_) fun hb6=>?_
  .
   refine act ?_;have hno: ¬f.regs<=30:=by have h:=hb6;simp at h;omega
   have hnall:=ll (List.mem_of_getElem? hf) hno;refine wk 4 ?_;refine GN ⟨[_],⟨rfl,trivial⟩,?_,rfl⟩;refine bc ?_;simp[GR,hnall]
  refine acf ?_;have hyes:f.regs<=30:=by have h:=hb6;simp at h;omega
  refine wk 3 ?_;refine aq 29 (Bk rfl rfl hkl (by simp only[maxLen];omega)) ?_;refine wk 2 ?_;exact⟨k+1,Drop.mk' Td Rw,⟨hkl,di hf hF.2 hyes⟩,by omega⟩
 refine acf ?_;have hge:=Gc hb5;have hall:b.funcs.all OC=true:=by have h:=hF.2;rwa[List.take_of_length_le hge]at h
 refine wk 5 ?_;refine GN ⟨[_],⟨rfl,trivial⟩,?_,rfl⟩;refine bc ?_;simp[GR,hg1,hg2,hg3,hg4,hall]
theorem XY(k:Int):APure Tryz.prog 31 [.int .i64 k] (fun r=>r= .tup [.val (XC k),.bool (kind35 k)]):=by
 refine APure.of_body (n:=28) Ag Tryz.func31 rfl rfl ?_;refine wk 9 ?_;refine ax 4 (EU Ag 0) ?_;refine wk 13 ?_;refine asp 8 (fun hb1=>?_) fun hb1=>?_
 .
  refine act ?_;have hk1:k=1:=by simpa using hb1
  subst hk1;refine wk 4 ?_;refine aq 12 (KJ Ag rfl rfl rfl rfl (by intro h;cases h)) ?_;exact WZ
 refine acf ?_;have hn1:k≠1:=by simpa using hb1
 refine wk 5 ?_;refine asp 13 (fun hb2=>?_) fun hb2=>?_
 .
  refine act ?_;have hk2:k=2:=by simpa using hb2
  subst hk2;refine wk 4 ?_;refine aq 17 (KJ Ag rfl rfl rfl rfl (by intro h;cases h)) ?_;exact WZ
 refine acf ?_;have hn2:k≠2:=by simpa using hb2
 refine wk 5 ?_;refine asp 18 (fun hb3=>?_) fun hb3=>?_
 .
  refine act ?_;have hk3:k=3:=by simpa using hb3
  subst hk3;refine wk 4 ?_;refine aq 22 (KJ Ag rfl rfl rfl rfl (by intro h;cases h)) ?_;exact WZ
 refine acf ?_;have hn3:k≠3:=by simpa using hb3
 refine wk 5 ?_;refine asp 23 (fun hb4=>?_) fun hb4=>?_
 .
  refine act ?_;have hk4:k=4:=by simpa using hb4
  subst hk4;refine wk 4 ?_;refine aq 27 (KJ Ag rfl rfl rfl rfl (by intro h;cases h)) ?_;exact WZ
 refine acf ?_;have hn4:k≠4:=by simpa using hb4
 refine wk 7 ?_;refine⟨[_,_],⟨rfl,rfl,trivial⟩,?_,rfl⟩;rw[cz hn1 hn2 hn3 hn4,g8 hn1 hn2 hn3 hn4];rfl
structure BS where
  been:List Bool
  q:List Int
def HF(s:BS)(k:Int):BS:=bif notBeen s.been k then⟨s.been.set k.toNat true,s.q++[k]⟩else s
def GH(next:List (List Int))(s:BS):BS:=
  match s.q with
  | []=>s
  | at'::r=>(Bs next at').foldl HF ⟨s.been,r⟩
def Z5(next:List (List Int)):Nat->BS->BS
  | 0,s=>s
  | g+1,s=>if s.q.isEmpty then s else Z5 next g (GH next s)
def lG(n:Nat):BS:=⟨(List.replicate n false).set 0 true,[0]⟩
def lH(next:List (List Int)):List Bool:=(Z5 next (next.length+1) (lG next.length)).been
def X5(s:BS):Nat:=VD s.been+s.q.length
theorem fb(s:BS)(k:Int):X5 (HF s k)=X5 s:=by
 unfold HF X5
 cases e:notBeen s.been k with
 | false=>rfl
 | true=>
  obtain⟨h1,h2,h3⟩:=CQ e;have:=Jj h3;simp only[cond_true,List.length_append,List.length_singleton];omega
theorem Mf: ∀(l:List Int) (s:BS),X5 (l.foldl HF s)=X5 s
 | [],_=>rfl
 | k::r,s=>by rw[List.foldl_cons,Mf r,fb]
theorem Z7{next:List (List Int)}{s:BS}(h:s.q≠[]):X5 (GH next s)+1=X5 s:=by
 unfold GH;split
 . rename_i e;exact absurd e h
 . rename_i at' r e;rw[Mf];simp only[X5,e,List.length_cons];omega
theorem Z4{next:List (List Int)}{g:Nat}{s:BS}(h:s.q≠[]):Z5 next (g+1) s=Z5 next g (GH next s):=by
 show(if s.q.isEmpty then s else _)=_;rw[if_neg (by simpa using h)]
theorem Ty{l:List Bool}{i:Nat}{k:Int}(h:isBeen l k):isBeen (l.set i true) k:=by
 obtain⟨h1,h2⟩:=h;refine⟨h1,?_⟩;rw[List.getElem?_set];have hlt:=(List.getElem?_eq_some_iff.1 h2).1;split
 . rename_i he;rw[he,if_pos hlt]
 . exact h2
structure Vh(next:List (List Int))(s:BS):Prop where
  len:s.been.length=next.length
  q: ∀k∈s.q,0<=k/\k<next.length
  qb: ∀k∈s.q,isBeen s.been k
  zero:isBeen s.been 0
  only: ∀k,isBeen s.been k->Es next k
theorem aj{next:List (List Int)}{s:BS}{b:Int}(h:Vh next s)(hb:Es next b):Vh next (HF s b):=by
 unfold HF
 cases e:notBeen s.been b with
 | false=>exact h
 | true=>
  obtain⟨h1,h2,h3⟩:=CQ e;have hself:isBeen (s.been.set b.toNat true) b:=⟨h1,by rw[List.getElem?_set_self (by omega)]⟩;refine⟨by simp[h.len],fun k hk=>?_,fun k hk=>?_,Ty h.zero,fun k hk=>?_⟩
  . simp only[cond_true,List.mem_append,List.mem_singleton]at hk;rcases hk with hk | rfl
    . exact h.q k hk
    . rw[<-h.len];exact⟨h1,h2⟩
  . simp only[cond_true,List.mem_append,List.mem_singleton]at hk;rcases hk with hk | rfl
    . exact Ty (h.qb k hk)
    . exact hself
  . obtain⟨k1,k2⟩:=hk;simp only[cond_true]at k2;rw[List.getElem?_set]at k2
    by_cases hh:b.toNat=k.toNat
    . have:k=b:=by omega
      rw[this];exact hb
    . rw[if_neg hh]at k2;exact h.only k ⟨k1,k2⟩
theorem Pn{next:List (List Int)}: ∀(l:List Int) (s:BS),Vh next s->(∀t∈l,Es next t)->Vh next (l.foldl HF s)
 | [],_,h,_=>h
 | b::r,s,h,hl=>Pn r _ (aj h (hl b (by simp))) (fun t ht=>hl t (by simp[ht]))
theorem Z6{next:List (List Int)}{s:BS}(h:Vh next s):Vh next (GH next s):=by
 unfold GH;split
 . exact h
 . rename_i at' r e;have hat:at'∈s.q:=by rw[e];simp
   have h0:Vh next ⟨s.been,r⟩:=⟨h.len,fun k hk=>h.q k (by rw[e];simp[hk]),fun k hk=>h.qb k (by rw[e];simp[hk]),h.zero,h.only⟩;exact Pn _ _ h0 (fun t ht=>.step at' t (h.only at' (h.qb at' hat)) ht)
section
variable {f : BFunc}
def BFunc.inN(f:BFunc)(k:Int):Nat:=cntTo f.nexts f.reach k f.nexts.length
theorem aX(hle:f.leads){k:Int}(hk:0<=k):iget (waysF f.nexts f.reach) k=(f.inN k:Int):=Th (Uj hle) hk _ (Nat.le_refl _)
theorem NS(hle:f.leads){i:Nat}(hi:i<f.blocks.length):Kb f.nexts i=(f.blockAt i).nexts:=by
 have h:=Be (f:=f) (i:=(i:Int)) (by omega);rw[Int.toNat_natCast]at h;rw[Kb,CL h];rfl
def dK(paths:List (List Int))(a:Int):Int:=
  match paths.findIdx? (fun p=>decide (p.length>0)&&Dh p==a)with
  | some i=>(i:Int)
  | none=> -1
theorem Wt{paths:List (List Int)}{a:Int}(hno: ∀p∈paths,(decide (p.length>0)&&Dh p==a)=false):dK paths a= -1:=by
 unfold dK;rw[List.findIdx?_eq_none_iff.2 (fun p hp=>by rw[hno p hp])]
end
structure Chainy(f:BFunc)(p:List Int):Prop where
  nd:p.Nodup
  mem: ∀x,x∈p↔0<=x/\x<f.blocks.length
  zero:p[0]?=some 0
  next: ∀(j:Nat) (x y:Int),p[j]?=some x->p[j+1]?=some y->(f.blockAt x).fin=1/\(f.blockAt x).to=y
  last: ∀(j:Nat) (x:Int),p[j]?=some x->p[j+1]?=none->(f.blockAt x).fin=3
section
variable {f : BFunc} {p : List Int}
theorem Chainy.get_inj(h:Chainy f p){i j:Nat}{x:Int}(hi:p[i]?=some x)(hj:p[j]?=some x):i=j:=by
 obtain⟨a,b⟩:=List.getElem?_eq_some_iff.1 hi;obtain⟨c,d⟩:=List.getElem?_eq_some_iff.1 hj;exact(List.getElem_inj h.nd).1 (b.trans d.symm)
theorem Chainy.nexts(h:Chainy f p){j:Nat}{x:Int}(hx:p[j]?=some x):(f.blockAt x).nexts=match p[j+1]? with | some y=>[y] | none=>[]:=by
 cases e:p[j+1]? with
 | some y=>obtain⟨h1,h2⟩:=h.next j x y hx e;simp[Block.nexts,h1,h2]
 | none=>have h1:=h.last j x hx e;simp[Block.nexts,h1]
theorem Chainy.leads(h:Chainy f p):f.leads:=fun l hl t ht=>by
 simp only[BFunc.nexts,List.mem_map]at hl;obtain⟨b,hb,rfl⟩:=hl;obtain⟨k,hk⟩:=List.getElem?_of_mem hb;have hkl:=(List.getElem?_eq_some_iff.1 hk).1;have hin:(k:Int)∈p:=(h.mem k).2 (by omega);obtain⟨j,hj⟩:=List.getElem?_of_mem hin;have hbk:f.blockAt (k:Int)=b:=by simp[BFunc.blockAt,hk]
 have:=h.nexts hj;rw[hbk]at this;rw[this]at ht
 cases e:p[j+1]? with
 | none=>rw[e]at ht;simp at ht
 | some y=>
  rw[e]at ht;simp at ht;subst ht;exact(h.mem t).1 (List.mem_of_getElem? e)
theorem Chainy.ne(h:Chainy f p):f.blocks≠[]:=fun e=>by
 have:=(h.mem 0).1 (List.mem_of_getElem? h.zero);rw[e]at this;simp at this
theorem Chainy.reaches(h:Chainy f p): ∀(j:Nat) (x:Int),p[j]?=some x->Es f.nexts x
 | 0,x,hx=>by rw[h.zero]at hx;cases hx;exact .zero
 | j+1,x,hx=>by
  have hjl:=(List.getElem?_eq_some_iff.1 hx).1;obtain⟨w,hw⟩:=Ae (l:=p) (k:=j) (by omega);have hwr:=(h.mem w).1 (List.mem_of_getElem? hw);refine .step w x (h.reaches j w hw) ?_;rw[VY h.leads hwr,h.nexts hw,hx]
  simp
theorem Chainy.been(h:Chainy f p){x:Int}(hx:x∈p):isBeen f.reach x:=by
 obtain⟨j,hj⟩:=List.getElem?_of_mem hx;exact(bS h.leads h.ne x).2 (h.reaches j x hj)
theorem Chainy.pred(h:Chainy f p){j:Nat}{x y:Int}(hx:p[j]?=some x)(hy:p[j+1]?=some y){i:Nat}(hi:i<f.blocks.length)(hm:y∈Kb f.nexts i):(i:Int)=x/\(Kb f.nexts i).count y=1:=by
 rw[NS h.leads hi]at hm |-;obtain⟨k,hk⟩:=List.getElem?_of_mem ((h.mem i).2 (by omega));rw[h.nexts hk]at hm |-
 cases e:p[k+1]? with
 | none=>rw[e]at hm;simp at hm
 | some z=>
  rw[e]at hm;simp at hm;subst hm;have:=h.get_inj hy e;have hkj:k=j:=by omega
  subst hkj;rw[hx]at hk;cases hk
  simp
theorem Chainy.inN(h:Chainy f p){j:Nat}{x y:Int}(hx:p[j]?=some x)(hy:p[j+1]?=some y):f.inN y=1:=by
 have hxr:=(h.mem x).1 (List.mem_of_getElem? hx);have hnl:=AK f;have hlt:x.toNat<f.nexts.length:=by omega
 have hge:1<=f.inN y:=by
  have h1:=eH (next:=f.nexts) (reach:=f.reach) (k:=y) hlt (h.been (List.mem_of_getElem? hx)).2;have h2:0<(Kb f.nexts x.toNat).count y:=by
   refine List.count_pos_iff.2 ?_;rw[NS h.leads (by omega),show((x.toNat:Nat):Int)=x by omega,h.nexts hx,hy]
   simp
  unfold BFunc.inN;omega
 have hle: ¬2<=f.inN y:=fun h2=>by
  rcases X0 h2 with⟨i,k,a,b,c,d,e,g⟩ |⟨i,a,b,c⟩
  . have h3:=(h.pred hx hy (i:=i) (by omega) e).1;have h4:=(h.pred hx hy (i:=k) (by omega) g).1;omega
  . have hm:y∈Kb f.nexts i:=List.count_pos_iff.1 (by omega);have:=(h.pred hx hy (i:=i) (by omega) hm).2;omega
 omega
theorem Chainy.tk(h:Chainy f p){j:Nat}{x y:Int}(hx:p[j]?=some x)(hy:p[j+1]?=some y):iget f.tk x=y:=by
 have hxr:=(h.mem x).1 (List.mem_of_getElem? hx);have hyr:=(h.mem y).1 (List.mem_of_getElem? hy);obtain⟨h1,h2⟩:=h.next j x y hx hy;have hb:=(h.been (List.mem_of_getElem? hx)).2;have hN:=h.inN hx hy;have hw:=aX h.leads (k:=y) hyr.1;have hy0:y≠0:=fun e=>by rw[e]at hy;have:=h.get_inj hy h.zero;omega
 have hyx:y≠x:=fun e=>by rw[e]at hy;have:=h.get_inj hy hx;omega
 have c1:(y !=0)=true:=by rw[bne_iff_ne];exact hy0
 have c2:(y !=((x.toNat:Nat):Int))=true:=by rw[bne_iff_ne];omega
 rw[Tl h.leads hxr,takeOf,hb,h1,h2,hw,hN,c1,c2];rfl
theorem Chainy.tk_last(h:Chainy f p){j:Nat}{x:Int}(hx:p[j]?=some x)(hy:p[j+1]?=none):iget f.tk x= -1:=by
 have hxr:=(h.mem x).1 (List.mem_of_getElem? hx);rw[Tl h.leads hxr,takeOf,h.last j x hx hy]
 simp
theorem Chainy.chain(h:Chainy f p): ∀(g j:Nat) (x:Int),p[j]?=some x->p.length<=j+1+g->Sv.chain f.tk g x=p.drop (j+1)
 | 0,j,x,hx,hl=>by rw[List.drop_eq_nil_of_le (by omega)];rfl
 | g+1,j,x,hx,hl=>by
  unfold Sv.chain
  cases e:p[j+1]? with
  | none=>
   rw[h.tk_last hx e];have:p.length<=j+1:=List.getElem?_eq_none_iff.1 e;rw[List.drop_eq_nil_of_le this];rfl
  | some y=>
   have hyr:=(h.mem y).1 (List.mem_of_getElem? e);have hne:(iget f.tk x== -1)=false:=by rw[h.tk hx e,beq_eq_false_iff_ne];omega
   rw[hne,cond_false,h.tk hx e,h.chain g (j+1) y e (by omega)];obtain⟨a,b⟩:=List.getElem?_eq_some_iff.1 e;rw[List.drop_eq_getElem_cons (i:=j+1) a,b]
theorem Chainy.path(h:Chainy f p)(hl:p.length<=f.blocks.length+1):Bb f.tk 0=p:=by
 have htl:f.tk.length=f.blocks.length:=AP f f.reach;rw[Bb,h.chain f.tk.length 0 0 h.zero (by omega)];obtain⟨a,b⟩:=List.getElem?_eq_some_iff.1 h.zero;have:=List.drop_eq_getElem_cons (i:=0) a;rw[List.drop_zero,b]at this;exact this.symm
theorem Chainy.head(h:Chainy f p){k:Nat}(hk:0<k)(hkl:k<f.blocks.length):f.headOf k=false:=by
 cases e:f.headOf k with
 | false=>rfl
 | true=>
  obtain⟨j,hj⟩:=List.getElem?_of_mem ((h.mem k).2 (by omega))
  cases j with
  | zero=>
   rw[h.zero]at hj;have:=Option.some.inj hj;omega
  | succ j=>
   have hjl:=(List.getElem?_eq_some_iff.1 hj).1;obtain⟨w,hw⟩:=Ae (l:=p) (k:=j) (by omega);have hwr:=(h.mem w).1 (List.mem_of_getElem? hw);exact absurd (h.tk hw hj) ((Da h.leads e).2 w hwr)
theorem Chainy.paths(h:Chainy f p)(hl:p.length<=f.blocks.length+1):f.tpaths=[p]:=by
 have hpos:0<f.blocks.length:=List.length_pos_iff.2 h.ne;have key: ∀m,0<m->m<=f.blocks.length->f.pathsTo m=[p]:=fun m=>by
  induction m with
  | zero=>intro h0;omega
  | succ m ih=>
   intro _ hm
   by_cases h0:m=0
   . subst h0;rw[DU (Zx h.leads h.ne)];show []++[Bb f.tk ((0:Nat):Int)]=[p];rw[show((0:Nat):Int)=0 from rfl,h.path hl];rfl
   . rw[E6 (h.head (k:=m) (by omega) (by omega)),ih (by omega) (by omega)]
 exact key _ hpos (Nat.le_refl _)
end
structure QG where
  s:BS
  es:List Int
  off:Nat
  g:Nat
  gas:Nat
structure QInv(next:List (List Int))(q:QG):Prop where
  inv:Vh next q.s
  qe:q.s.q=q.es.drop q.off
  off:q.off<=q.es.length
  mu:X5 q.s<q.gas
  le:q.gas<=next.length+1
  tgt:(Z5 next q.gas q.s).been=lH next
structure QI where
  j:Nat
  es:List Int
  off:Nat
  g:Nat
structure QIInv(been:List Bool)(tl:List Int)(row:List Int)(i:QI):Prop where
  off:i.off<=i.es.length
  q:i.es.drop i.off=((row.take i.j).foldl HF ⟨been,tl⟩).q
theorem QInv.len{next:List (List Int)}{q:QG}(h:QInv next q)(hq:q.s.q≠[]){row:List Int}{i:QI}(hi:QIInv q.s.been q.s.q.tail row i):i.es.length-i.off<=next.length:=by
 have h1:i.es.length-i.off=((row.take i.j).foldl HF ⟨q.s.been,q.s.q.tail⟩).q.length:=by rw[<-hi.q,List.length_drop]
 have h2:=Mf (row.take i.j) ⟨q.s.been,q.s.q.tail⟩;have h3:=h.mu;have h4:=h.le;have h5:X5 ⟨q.s.been,q.s.q.tail⟩<=X5 q.s:=by simp[X5]
 have h6:((row.take i.j).foldl HF ⟨q.s.been,q.s.q.tail⟩).q.length<=X5 ((row.take i.j).foldl HF ⟨q.s.been,q.s.q.tail⟩):=Nat.le_add_left _ _;omega
theorem QInv.next{next:List (List Int)}{q:QG}(h:QInv next q)(hq:q.s.q≠[]){a:Int}(ha:q.s.q=a::q.s.q.tail){row:List Int}(hr:Bs next a=row){i:QI}(hi:QIInv q.s.been q.s.q.tail row i)(hj:row.length<=i.j):
 QInv next ⟨GH next q.s,i.es,i.off,i.g,q.gas-1⟩/\q.gas-1<q.gas/\(row.take i.j).foldl HF ⟨q.s.been,q.s.q.tail⟩=GH next q.s:=by
 have hb:(row.take i.j).foldl HF ⟨q.s.been,q.s.q.tail⟩=GH next q.s:=by
  rw[List.take_of_length_le hj];unfold GH;rw[ha];simp only[List.tail_cons,hr]
 have hm:=Z7 (next:=next) hq;have hmu:=h.mu;have hle:=h.le;refine⟨⟨Z6 h.inv,by rw[<-hb];exact hi.q.symm,hi.off,by show X5 (GH next q.s)<q.gas-1;omega,by show q.gas-1<=_;omega,?_⟩,by omega,hb⟩;rw[<-h.tgt];show _=(Z5 next q.gas q.s).been;rw[show q.gas=(q.gas-1)+1 by omega,Z4 hq,Nat.add_sub_cancel]
theorem Jc{n:Nat}{e:Av}{h:Ac}(b0 i j:Nat){p:Bool}{sz0:Nat}{es:List (List AV)}{cs:List AV}{x:AV}(y:AV)(hb0:h b0=some (.row p sz0 es))(hi:es[i]?=some cs)(hj:cs[j]?=some x)(hxy: ∀H ι v,Rel H ι x v->Rel H ι y v)(h1:y.cell1=true):
 Ghost ⟨n,e,h⟩ ⟨n,e,hput h b0 (.row p sz0 (es.set i (cs.set j y)))⟩:=fun H ι a w hs=>by
 obtain⟨u1,u2⟩:=hs.heap.recell hb0 hi hj (y:=y) (fun v hv=>hxy _ _ v hv) h1;exact⟨H,ι,⟨hs.n,hs.d,hs.env,u1⟩,u2⟩
section
variable {next : List (List Int)} {reach : List Bool} {a : Int} {i k : Nat} {r : Bool} {row : List Int}
end
section
variable {f : BFunc} {k : Nat}
structure FP(tk tgt:List Int)(q:jo):Prop where
  on:0<=q.c->FInv2 tk tgt q
  off:q.c<0->q.acc=tgt
def ly(q:jo):Nat:=if 0<=q.c then q.g+1 else 0
theorem FP.next(hle:f.leads){tgt:List Int}{q:jo}(h:FP f.tk tgt q)(hc:0<=q.c)(hb:0<=iget f.tk q.c):FP f.tk tgt ⟨iget f.tk q.c,q.acc++[iget f.tk q.c],q.g-1⟩/\ly ⟨iget f.tk q.c,q.acc++[iget f.tk q.c],q.g-1⟩<ly q:=by
 have hin:=Hn hle f.reach;obtain⟨h1,h2⟩:=(h.on hc).next hin (by rw[bne_iff_ne];show iget f.tk q.c≠ -1;omega);refine⟨⟨fun _=>h1,fun hh=>absurd hb (by show ¬_;simp only at hh;omega)⟩,?_⟩;unfold ly;simp only[if_pos hc];split<;>omega
theorem FP.len{tgt tk:List Int}{q:jo}(h:FP tk tgt q)(hc:0<=q.c):q.acc.length<=tk.length+1:=by
 have:=(h.on hc).len;omega
end
def noHead(paths:List (List Int))(a:Int)(k:Nat):Prop:=∀j q,j<k->paths[j]?=some q->(decide (q.length>0)&&Dh q==a)=false
theorem noHead.zero(paths:List (List Int))(a:Int):noHead paths a 0:=fun j q h=>absurd h (Nat.not_lt_zero _)
theorem noHead.none{paths:List (List Int)}{a:Int}{k:Nat}(h:noHead paths a k)(hk:paths.length<=k):dK paths a= -1:=Wt fun p hp=>by
 obtain⟨j,hj⟩:=List.getElem?_of_mem hp;have:=(List.getElem?_eq_some_iff.1 hj).1;exact h j p (by omega) hj
set_option maxRecDepth 100000
theorem W7(k:Int)(g:BFunc):APure Tryz.prog 126 [.agg [.int .i64 k],.agg g.cells] (fun r=>r= .agg (⟨k,⟨[]⟩,[],g⟩:OPass).cells):=by
 refine APure.of_body (n:=9) Ag Tryz.func126 rfl rfl ?_;refine wk 40 ?_;refine ax 2 (GW 1 0) ?_;refine ax 3 (GW 2 1) ?_;refine ax 4 (EU Ag 2) ?_;refine wk 9 ?_;refine AGo.ghost (Jc 2 0 1 (.lst false []) rfl rfl rfl (fun _ _ _=>TE) rfl) ?_;refine AGo.ghost (Jc 2 0 2 (.lst false []) rfl rfl rfl (fun _ _ _=>TE) rfl) ?_;refine wk 40 ?_;exact⟨[_],⟨⟨_,_,_,_,rfl,rfl,.ptr _ _ _ _ _ _ _ _ rfl rfl rfl,rfl⟩,trivial⟩,rfl,rfl⟩
theorem SM(k:Int)(fo:Nat){fn:Func}(hf:Tryz.prog.funcs[fo]?=some fn)(hn:(fn.name== "runtime.NumGoroutine")=false)(hb:fn.body.isSome=true)(f g:BFunc)(c:Cert)(hO:APure Tryz.prog fo [.agg f.cells] (fun r=>r= .tup [.agg g.cells,.agg c.cells])):APure Tryz.prog 128 [.agg [.int .i64 k,.val (.func (.func fo) #[] #[])],.agg f.cells] (fun r=>r= .tup [.agg g.cells,.agg (⟨k,c,[],g⟩:OPass).cells]):=by
 refine APure.of_body (n:=24) Ag Tryz.func128 rfl rfl ?_;refine wk 40 ?_;refine ax 2 (GW 2 0) ?_;refine ax 3 (GW 2 1) ?_;refine ax 4 (EU Ag 2) ?_;refine ax 5 (EU Ag 3) ?_;refine wk 40 ?_;refine ax 13 (Zf rfl rfl hf hn hb rfl rfl hO) ?_;refine wk 40 ?_;refine ax 6 (EU Ag 4) ?_;refine ax 7 (EU Ag 5) ?_;refine wk 40 ?_;refine ax 19 (DX Tryz.func126 (W7 k g)) ?_;exact lY
theorem hZ(k:Int)(f g:BFunc)(ps:List (List Int))(hO:APure Tryz.prog 144 [.agg f.cells] (fun r=>r= .tup [.agg g.cells,A1 ps])):APure Tryz.prog 142 [.agg [.int .i64 k],.agg f.cells] (fun r=>r= .tup [.agg g.cells,.agg (⟨k,⟨[]⟩,ps,g⟩:OPass).cells]):=by
 refine APure.of_body (n:=22) Ag Tryz.func142 rfl rfl ?_;refine wk 40 ?_;refine ax 2 (GW 1 0) ?_;refine ax 3 (GW 2 1) ?_;refine ax 4 (EU Ag 2) ?_;refine ax 5 (EU Ag 3) ?_;refine wk 40 ?_;refine ax 11 (DX Tryz.func144 hO) ?_;refine wk 40 ?_;refine ax 6 (EU Ag 4) ?_;refine wk 40 ?_;refine ax 17 (DX Tryz.func126 (W7 k g)) ?_;exact lY
structure SX(f:BFunc)(G:Int->OPass):Prop where
  c1:APure Tryz.prog 41 [.agg f.cells] (fun r=>r= .tup [.agg (G 1).f.cells,.agg (G 1).cert.cells])
  c2:APure Tryz.prog 42 [.agg f.cells] (fun r=>r= .tup [.agg (G 2).f.cells,.agg (G 2).cert.cells])
  c3:APure Tryz.prog 43 [.agg f.cells] (fun r=>r= .tup [.agg (G 3).f.cells,.agg (G 3).cert.cells])
  c4:APure Tryz.prog 144 [.agg f.cells] (fun r=>r= .tup [.agg (G 4).f.cells,A1 (G 4).paths])
  e1:G 1=⟨1,(G 1).cert,[],(G 1).f⟩
  e2:G 2=⟨2,(G 2).cert,[],(G 2).f⟩
  e3:G 3=⟨3,(G 3).cert,[],(G 3).f⟩
  e4:G 4=⟨4,⟨[]⟩,(G 4).paths,(G 4).f⟩
section
variable {o : Oper} {e : Av} {h : Ac}
theorem qq{f:BFunc}{G:Int->OPass}(hG:SX f G){k:Int}(hk:kind35 k=true){recv:Operand}{args:Array Operand}{tys:Array TypeId}(ho:o.op= .call {callee:=.invoke recv "seedcorn/optimize.run",args:=args,argTypes:=tys})
 (hr:Al e recv=some (.val (XC k))) (hx:AX e args.toList=some [.agg f.cells]):OLoc Tryz.prog o e h [] [] (some (.tup [.agg (G k).f.cells,.agg (G k).cells])):=by
 rcases Wq hk with h1 | h1 | h1 | h1<;>subst h1
 . rw[congrArg OPass.cells hG.e1];exact KQ ho hr (fun w=>mt_cr _ w) (Ht (by rfl)) Tryz.func128 (by kernel_rfl) rfl hx rfl (SM 1 _ Tryz.func41 (by kernel_rfl) rfl f _ _ hG.c1)
 . rw[congrArg OPass.cells hG.e2];exact KQ ho hr (fun w=>mt_cr _ w) (Ht (by rfl)) Tryz.func128 (by kernel_rfl) rfl hx rfl (SM 2 _ Tryz.func42 (by kernel_rfl) rfl f _ _ hG.c2)
 . rw[congrArg OPass.cells hG.e3];exact KQ ho hr (fun w=>mt_cr _ w) (Ht (by rfl)) Tryz.func128 (by kernel_rfl) rfl hx rfl (SM 3 _ Tryz.func43 (by kernel_rfl) rfl f _ _ hG.c3)
 . rw[congrArg OPass.cells hG.e4];exact KQ ho hr (fun w=>mt_jr _ w) (Ht (by rfl)) Tryz.func142 (by kernel_rfl) rfl hx rfl (hZ 4 f _ _ hG.c4)
end
theorem cA(f:BFunc)(G:Int->OPass)(hG:SX f G)(k:Int)(hk:kind35 k=true):APure Tryz.prog 21 [.agg f.cells,.int .i64 k] (fun r=>r= .tup [.agg (G k).f.cells,.agg (G k).cells,.int .i64 0]):=by
 refine APure.of_body (n:=28) Ag Tryz.func21 rfl rfl ?_;refine wk 40 ?_;refine ax 2 (GW 2 0) ?_;refine ax 4 (EU Ag 1) ?_;refine ax 5 (EU Ag 2) ?_;refine wk 40 ?_;refine ax 13 (DX Tryz.func31 (XY k)) ?_;rw[hk];refine wk 40 ?_;refine ax 23 (qq hG hk rfl rfl rfl) ?_;refine wk 40 ?_;refine ax 9 (EU Ag 3) ?_;refine ax 10 (EU Ag 4) ?_;refine wk 40 ?_;exact⟨[_,_,_],⟨⟨_,_,_,_,rfl,rfl,.ptr _ _ _ _ _ _ _ _ rfl rfl rfl,rfl⟩,⟨_,_,_,_,rfl,rfl,.ptr _ _ _ _ _ _ _ _ rfl rfl rfl,rfl⟩,rfl,trivial⟩,rfl,rfl⟩
end Go.Proofs.YtbbfelelocccmaaGreat.Sv
namespace Go.Proofs.YtbbfelelocccmaaGreat.Sv
open Go
theorem gr(z R i:Nat)(p:Nat->Bool)(hi:i<R)(hR:R<=100000):ACall Tryz.prog 106 [.ref z (nw R) 0 (nw R),.int .i64 (i:Int)] (hput hNew z (.row true 1 (Bt R p))) (fun r h'=>r= .tup []/\HSub (hput hNone z (.row true 1 (Bt R (fun v=>p v||v==i)))) h'):=by
 have hj:=T8 hi;refine ACall.of_body (n:=14) Ag Tryz.func106 rfl rfl ?_;refine wk 3 ?_;refine dq 6 (A2 (r:=.int .i64 ((i/64:Nat):Int)) rfl rfl rfl (Xw (by omega))) ?_;refine dq 7 (Ab Ag rfl rfl rfl rfl rfl rfl (Aq _ _ _) (Bj _ _).symm rfl (Int.natCast_nonneg _) (by omega)) ?_;refine dq 8 (At Ag rfl rfl rfl (.ptr _ _ _ _ _ _ _ (BA p (i/64)) (Aq _ _ _) (Bj _ _).symm (by rw[Nat.zero_add,Int.toNat_natCast];exact Cr hj)) rfl) ?_;refine dm 9 ?_;refine dq 10 (A2 (r:=.int .i64 ((i%64:Nat):Int)) rfl rfl rfl bN) ?_;refine dq 11 (A2 (r:=.int .u64 ((wd (fun v=>v==i%64):Nat):Int)) rfl rfl rfl (aV (by omega))) ?_;refine dq 12 (A2 rfl rfl rfl (aU (fun v=>p (64*(i/64)+v)) (fun v=>v==i%64))) ?_;refine dq 13 (Ab Ag rfl rfl rfl rfl rfl rfl (Aq _ _ _) (Bj _ _).symm rfl (Int.natCast_nonneg _) (by omega)) ?_;refine DOps.w rfl rfl (o_store Ag (es:=Bt R p) (cs:=BA p (i/64)) rfl rfl rfl rfl rfl (Aq _ _ _) (Bj _ _).symm (by rw[Nat.zero_add,Int.toNat_natCast];exact Cr hj) rfl (by decide) rfl (fun _=>rfl)) ?_;refine wk 1 ?_;refine⟨[],trivial,rfl,HSub.put (HSub.none _) ((Aq _ _ _).trans (congrArg (fun es=>some (AObj.row true 1 es)) ?_))⟩
 rw[Nat.zero_add,Int.toNat_natCast];exact(congrArg ((Bt R p).set (i/64)) (VA p i)).symm.trans (KE (fun v hv=>by
  have:(v==i)=false:=by rw[beq_eq_false_iff_ne];intro e;exact hv (by rw[e])
  simp[this]))
theorem kM(z R i:Nat)(p:Nat->Bool)(hi:i<R)(hR:R<=100000):ACall Tryz.prog 108 [.ref z (nw R) 0 (nw R),.int .i64 (i:Int)] (hput hNew z (.row true 1 (Bt R p))) (fun r h'=>r= .tup []/\HSub (hput hNone z (.row true 1 (Bt R (fun v=>p v&& !(v==i))))) h'):=by
 have hj:=T8 hi;refine ACall.of_body (n:=14) Ag Tryz.func108 rfl rfl ?_;refine wk 3 ?_;refine dq 6 (A2 (r:=.int .i64 ((i/64:Nat):Int)) rfl rfl rfl (Xw (by omega))) ?_;refine dq 7 (Ab Ag rfl rfl rfl rfl rfl rfl (Aq _ _ _) (Bj _ _).symm rfl (Int.natCast_nonneg _) (by omega)) ?_;refine dq 8 (At Ag rfl rfl rfl (.ptr _ _ _ _ _ _ _ (BA p (i/64)) (Aq _ _ _) (Bj _ _).symm (by rw[Nat.zero_add,Int.toNat_natCast];exact Cr hj)) rfl) ?_;refine dm 9 ?_;refine dq 10 (A2 (r:=.int .i64 ((i%64:Nat):Int)) rfl rfl rfl bN) ?_;refine dq 11 (A2 (r:=.int .u64 ((wd (fun v=>v==i%64):Nat):Int)) rfl rfl rfl (aV (by omega))) ?_;refine dq 12 (A2 rfl rfl rfl (PX (fun v=>p (64*(i/64)+v)) (fun v=>v==i%64))) ?_;refine dq 13 (Ab Ag rfl rfl rfl rfl rfl rfl (Aq _ _ _) (Bj _ _).symm rfl (Int.natCast_nonneg _) (by omega)) ?_;refine DOps.w rfl rfl (o_store Ag (es:=Bt R p) (cs:=BA p (i/64)) rfl rfl rfl rfl rfl (Aq _ _ _) (Bj _ _).symm (by rw[Nat.zero_add,Int.toNat_natCast];exact Cr hj) rfl (by decide) rfl (fun _=>rfl)) ?_;refine wk 1 ?_;refine⟨[],trivial,rfl,HSub.put (HSub.none _) ((Aq _ _ _).trans (congrArg (fun es=>some (AObj.row true 1 es)) ?_))⟩
 rw[Nat.zero_add,Int.toNat_natCast];exact(congrArg ((Bt R p).set (i/64)) (Yv p i)).symm.trans (KE (fun v hv=>by
  have:(v==i)=false:=by rw[beq_eq_false_iff_ne];intro e;exact hv (by rw[e])
  simp[this]))
theorem KF(z R:Nat)(hR:R<=100000):ACall Tryz.prog 98 [.int .i64 (R:Int)] (hput hNew z .free) (fun r h'=>r= .ref z (nw R) 0 (nw R)/\HSub (hput hNone z (.row true 1 (Bt R (fun _=>false)))) h'):=by
 refine ACall.of_body (n:=7) Ag Tryz.func98 rfl rfl ?_;refine wk 7 ?_;refine aq 4 (A2 (r:=.int .i64 ((R+63:Nat):Int)) rfl rfl rfl (HB (a:=R) (b:=63) (Jh (by omega)))) ?_;refine aq 5 (A2 (r:=.int .i64 ((nw R:Nat):Int)) rfl rfl rfl (Xw (by omega))) ?_;refine ax 6 (AB Ag (n:=nw R) (m:=nw R) z true rfl rfl rfl rfl rfl rfl rfl rfl (Aq _ _ _) rfl (Nat.zero_lt_succ _) rfl (Nat.le_refl _) (by unfold nw;show 8*_<=_;omega) (by unfold nw;simp only[maxLen];omega)) ?_;refine wk 3 ?_;refine⟨[_],⟨rfl,trivial⟩,rfl,HSub.put (HSub.none _) ((Aq _ _ _).trans (congrArg (fun es=>some (AObj.row true 1 es)) (YT R)))⟩
theorem NN(z R:Nat)(p:Nat->Bool)(hR:R<=100000):ACall Tryz.prog 91 [.ref (z+16) (nw R) 0 (nw R),.int .i64 (R:Int)] (hput hNew (z+16) (.row true 1 (Bt R p))) (fun r h'=>r=Cu (Hb R p)/\HSub (hput hNone (z+16) (.row true 1 (Bt R p))) h'):=by
 refine ACall.of_body (n:=29) Ag Tryz.func91 rfl rfl ?_;refine wk 7 ?_;refine ax 8 (AB Ag (n:=R) (m:=R) 0 true rfl rfl rfl (rfl) (rfl) rfl rfl rfl rfl rfl (Nat.zero_lt_succ _) rfl (Nat.le_refl _) (by show 1*R<=_;omega) (by simp only[maxLen];omega)) ?_;refine wk 10 ?_;refine AGo.loopI (γ:=Nat) (fun k=>⟨29,(Aa (Aa (Aa (Aa Ba 0 (.ref (z+16) (nw R) 0 (nw R))) 5 (.ref 0 R 0 R)) 10 (.int .i64 (R:Int))) 11 (.int .i64 (k:Int))),(hput (hput hNone (z+16) (.row true 1 (Bt R p))) 0 (.row true 1 (((Hb R p).take k).map A5++List.replicate (R-k) [AV.bool false])))⟩) (fun k=>k<=R) (fun k=>R-k) 0 (Sub.mk' Ez (by repeat(first | exact HSub.refl _ | exact HSub.none _ | exact AH _ | exact AF GO | refine HSub.put ?_ (by first | rfl | exact Aq _ _ _ |((try simp only[hputs]);repeat(first | rfl | exact Aq _ _ _ | refine AA (by exact Af (by omega)) ?_ | refine hrm_skip (by omega) ?_ | refine(CG _ PH).trans ?_))) | refine AG ?_ GO | refine Br ?_ (by decide)))) (Nat.zero_le _) ?_
 intro k hk;refine wk 5 ?_;refine asp 12 (fun hb1=>?_) fun hb1=>?_
 .
  refine act ?_;have hkl:k<R:=by have h:=hb1;simp at h;exact h
  have hpk:(fun v=>p (64*(k/64)+v)) (k%64)=p k:=by show p (64*(k/64)+k%64)=p k;rw[Nat.div_add_mod]
  refine wk 13 ?_;refine aq 18 (A2 (r:=.int .i64 ((k/64:Nat):Int)) rfl rfl rfl (Xw (by omega))) ?_;refine aq 19 (Ab Ag rfl rfl rfl rfl rfl rfl BC (Bj _ _).symm rfl (Int.natCast_nonneg _) (by have:=T8 hkl;omega)) ?_;refine aq 20 (At Ag rfl rfl rfl (.ptr _ _ _ _ true 1 (Bt R p) (BA p (k/64)) BC (Bj _ _).symm (by rw[Nat.zero_add,Int.toNat_natCast];exact Cr (T8 hkl))) rfl) ?_;refine wk 1 ?_;refine aq 22 (A2 (r:=.int .i64 ((k%64:Nat):Int)) rfl rfl rfl bN) ?_;refine aq 23 (A2 rfl rfl rfl (j7 (p:=fun v=>p (64*(k/64)+v)) (by omega))) ?_;refine aq 24 (A2 rfl rfl rfl (fT (fun v=>p (64*(k/64)+v)) (by omega))) ?_;refine aq 25 (A2 rfl rfl rfl (j8 _)) ?_;refine aq 26 (Ab Ag rfl rfl rfl rfl rfl rfl rfl (AE (Hx R p) (Nat.le_of_lt hkl)) rfl (Int.natCast_nonneg _) (by omega)) ?_;refine AOps.w rfl rfl (o_store Ag rfl rfl rfl rfl rfl rfl (AE (Hx R p) (Nat.le_of_lt hkl)) (fill_get (Hx R p) hkl) rfl (by decide) rfl DG) ?_;refine wk 2 ?_;refine aq 27 (Bk rfl rfl hkl (by simp only[maxLen];omega)) ?_;refine wk 2 ?_;exact⟨k+1,Sub.mk' Ci (by repeat(first | exact HSub.refl _ | exact HSub.none _ | exact AH _ | exact AF GO | refine HSub.put ?_ (by first | rfl | exact congrArg (fun es=>some (AObj.row true 1 es)) (BU (f:=A5) (x:=p (64*(k/64)+k%64)) (Hx R p) ((Ub hkl).trans (congrArg some hpk.symm))) |((try simp only[hputs]);repeat(first | rfl | exact Aq _ _ _ | refine AA (by exact Af (by omega)) ?_ | refine hrm_skip (by omega) ?_ | refine(CG _ PH).trans ?_))) | refine AG ?_ GO | refine Br ?_ (by decide))),hkl,by omega⟩
 refine acf ?_;have hge:R<=k:=by have h:=hb1;simp at h;exact h
 refine wk 2 ?_;refine AGo.ghost (.freeze 5 0 rfl rfl (AE (Hx R p) hk)) ?_;rw[CT (Hx R p) hge];refine wk 5 ?_;refine⟨[_],⟨rfl,trivial⟩,rfl,HSub.put (HSub.none _) BC⟩
abbrev Fr(l:Nat):Fence:=Fence.wide.inRound l
section
variable {P : Program} {l n : Nat}
theorem Z1{f:FuncId}{args:Array Value}{w:World}{R:Ending->World->Prop}(h:Calls P f args w R):CallsIn (Fr l) n P f args w R:=callsIn_wide (n:=n).2 h
theorem bH{row:String}{args:Array Value}{w:World}{R:Value->World->Prop}(h:Rows P row args w R):RowsIn (Fr l) n P row args w R:=fun c cs _=>
 let ⟨v,w',r,s⟩:=h c cs
 ⟨v,w',r,stepsIn_wide.2 s⟩
def KS(o:Oper):Bool:=match o.op with
  | .defer _=>false
  | _=>true
theorem XE{o:Oper}{a:Act}{w:World}{N:Act->World->Prop}{Q:Exit->Act->World->Prop}(hd:KS o=true)(h:o.wp P a w N Q):o.wpIn (Fr l) n P a w N Q:=by
 refine⟨fun _ _=>trivial,?_⟩;rw[Oper.semAt_eq _ _ _ (fun c e=>by unfold KS at hd;rw[e]at hd;cases hd)];unfold Oper.wp at h;generalize(execOp a.eval o).run P w=res at h |-
 cases res with
 | ok x w'=>
  cases x with
  | value v=>exact h
  | skip=>exact h
  | defer d=>exact h
  | enter f args=>exact⟨fun e=>(by cases e),Z1 h⟩
  | row r args=>exact⟨fun e=>(by cases e),bH h⟩
  | _=>exact h.elim
 | halt x w'=>
  cases x with
  | panic v=>exact h
  | _=>exact h.elim
theorem XJ{ops:Array Oper}{Q:Exit->Act->World->Prop}(hq: ¬LetsOut Q): ∀(L:List Oper),L.all KS=true->∀{a:Act} {w:World},wpList P ops Q L a w->wpListIn (Fr l) n P ops Q L a w
 | [],_,_,_,h=>h
 | o::L,hd,a,w,h=>by
  simp only[List.all_cons,Bool.and_eq_true]at hd;have ih:=@XJ ops Q hq L hd.2;unfold wpList at h;unfold wpListIn
  by_cases hw:Region.wanted o (yielded ops a.tmps)=true
  . rw[if_pos hw]at h |-;rcases h with h |⟨_,h⟩
    . exact XE hd.1 (Oper.wp_mono (fun a' w' hx=>ih hx) h)
    . exact absurd h hq
  . rw[if_neg hw]at h |-;exact⟨fun _ _=>trivial,ih h⟩
def AGoR(P:Program)(l n:Nat)(c:Code)(s:Aj)(Q:Exit->Aj->Prop):Prop:=
  ∀H ι a w,Sim H ι s a w->c.wpIn (Fr l) n P (Post H ι s.h w Q) a w
variable {s s' : Aj} {Q : Exit -> Aj -> Prop}
theorem AGoR.skip(h:Q .normal s):AGoR P l n .skip s Q:=fun H ι a w hs=>wpIn_skip ⟨s,H,ι,h,hs,Step.refl _ _ _ _⟩
theorem AGoR.exit{id:Nat}(h:Q (.exit id) s):AGoR P l n (.exit id) s Q:=fun H ι a w hs=>wpIn_exit ⟨s,H,ι,h,hs,Step.refl _ _ _ _⟩
theorem AGoR.mono{c:Code}{Q':Exit->Aj->Prop}(h:AGoR P l n c s Q)(hq: ∀e s,Q e s->Q' e s):AGoR P l n c s Q':=fun H ι a w hs=>wpIn_mono (h H ι a w hs) fun e a' w' hp=>hp.mono (hq e)
theorem AGoR.seq{x y:Code}(h:AGoR P l n x s (Ce (fun s'=>AGoR P l n y s' Q) Q)):AGoR P l n (.seq x y) s Q:=by
 intro H ι a w hs;refine wpIn_seq (wpIn_mono (h H ι a w hs) fun e a' w' hp=>?_)
 cases e with
 | normal=>
  obtain⟨s',H',ι',q,r,t⟩:=hp;exact wpIn_mono (q H' ι' a' w' r) fun e a'' w'' hp'=>Post.step hs.heap r.heap t hp'
 | _=>exact hp
theorem AGoR.cond{t:Nat}{x y:Code}{b:Bool}(he:s.env t=some (.bool b))(h1:b=true->AGoR P l n x s Q)(h2:b=false->AGoR P l n y s Q):AGoR P l n (.cond (.tmp t) x y) s Q:=by
 intro H ι a w hs;obtain⟨v,hv,hr⟩:=hs.env t _ he
 cases hr
 have hev:a.eval (.tmp t)= .bool b:=by simp[Act.eval,hv]
 exact wpIn_cond_split hev (fun e=>h1 e H ι a w hs) (fun e=>h2 e H ι a w hs)
theorem AGoR.cond_true{t:Nat}{x y:Code}(b:Bool)(he:s.env t=some (.bool b))(hb:b=true)(h:AGoR P l n x s Q):AGoR P l n (.cond (.tmp t) x y) s Q:=
 AGoR.cond he (fun _=>h) (fun h2=>by rw[hb]at h2;cases h2)
theorem AGoR.cond_false{t:Nat}{x y:Code}(b:Bool)(he:s.env t=some (.bool b))(hb:b=false)(h:AGoR P l n y s Q):AGoR P l n (.cond (.tmp t) x y) s Q:=
 AGoR.cond he (fun h2=>by rw[hb]at h2;cases h2) (fun _=>h)
theorem AGoR.block{id:Nat}{c:Code}(h:AGoR P l n c s (S1 id Q)):AGoR P l n (.block id c) s Q:=by
 intro H ι a w hs;refine wpIn_block (wpIn_mono (h H ι a w hs) fun e a' w' hp=>?_);exact mm
theorem AGoR.ghost{c:Code}(hg:Ghost s s')(h:AGoR P l n c s' Q):AGoR P l n c s Q:=fun H ι a w hs=>by
 obtain⟨H',ι',h1,h2⟩:=hg H ι a w hs;exact wpIn_mono (h H' ι' a w h1) fun e a' w' hp=>Post.step hs.heap h1.heap h2 hp
theorem AGoR.sub{c:Code}(hg:Sub s' s)(h:AGoR P l n c s' Q):AGoR P l n c s Q:=AGoR.ghost (.of_sub hg) h
theorem AGoR.split{c:Code}{m:Nat}{e:Av}{h:Ac}(d:Nat){b:Bool}(he:e d=some (.bool b))(h1:b=true->AGoR P l n c ⟨m,Aa e d (.bool true),h⟩ Q)(h2:b=false->AGoR P l n c ⟨m,Aa e d (.bool false),h⟩ Q):AGoR P l n c ⟨m,e,h⟩ Q:=by
 exact fN
theorem AGoR.loop{γ:Type}{c:Code}(I:γ->Aj->Prop)(μ:γ->Nat)(g0:γ)(h0:I g0 s)
 (round: ∀g s,I g s->AGoR P l n c s (Ce (fun s'=>∃g',I g' s'/\μ g'<μ g) Q)):AGoR P l n (.loop c) s Q:=by
 intro H ι a w hs b k cs hro hb hr;have key: ∀m g s1 H1 ι1 a1 w1,μ g=m->I g s1->Sim H1 ι1 s1 a1 w1->Step H ι s.h w H1 ι1 s1.h w1->
  ∃e a' w',Post H ι s.h w Q e a' w'/\ArrivesIn (Machine.fenced P (Fr l)) P (lone (b.atR a1 (.code c:: .inLoop c::k)) cs w1) b k cs e a' w':=by
  intro m
  induction m using Nat.strongRecOn with
  | _ m ih=>
   intro g s1 H1 ι1 a1 w1 hn hI hs1 hst;obtain⟨e,a₂,w₂,hq,harr⟩:=round g s1 hI H1 ι1 a1 w1 hs1 b (.inLoop c::k) cs hro hb hr;obtain⟨s2,H2,ι2,q,r,t⟩:=hq;have t':=hst.trans hs.heap hs1.heap t
   cases e with
   | normal=>
    obtain⟨g',hI',hlt⟩:=q;obtain⟨e₂,a₃,w₃,hq₂,harr₂⟩:=ih (μ g') (hn▸hlt) g' s2 H2 ι2 a₂ w₂ rfl hI' r t';exact⟨e₂,a₃,w₃,hq₂,.of_steps (StepsIn.trans harr (.one (fenced_calm hb hr rfl) stepR_inLoop)) harr₂⟩
   | exit id=>exact⟨.exit id,a₂,w₂,⟨s2,H2,ι2,q,r,t'⟩,.pass (x:=.inLoop c) rfl (fun _ _=>.inl (by simp)) harr⟩
   | goto t=>exact⟨.goto t,a₂,w₂,⟨s2,H2,ι2,q,r,t'⟩,.pass (x:=.inLoop c) rfl (fun _ _=>.inl (by simp)) harr⟩
   | ret=>exact⟨.ret,a₂,w₂,⟨s2,H2,ι2,q,r,t'⟩,.pass (x:=.inLoop c) rfl (fun _ _=>.inl (by simp)) harr⟩
   | panic ch=>exact⟨.panic ch,a₂,w₂,⟨s2,H2,ι2,q,r,t'⟩,.pass (x:=.inLoop c) rfl (fun _ _=>.inl (by simp)) harr⟩
   | outgrown=>exact⟨.outgrown,a₂,w₂,⟨s2,H2,ι2,q,r,t'⟩,.pass (x:=.inLoop c) rfl (fun _ _=>.inl (by simp)) harr⟩
 obtain⟨e,a',w',hq,harr⟩:=key (μ g0) g0 s H ι a w rfl h0 hs (Step.refl _ _ _ _);exact⟨e,a',w',hq,.of_steps (.one (fenced_calm hb hr rfl) stepR_loop) harr⟩
theorem AGoR.loopI{γ:Type}{c:Code}(inv:γ->Aj)(F:γ->Prop)(μ:γ->Nat)(g0:γ)(h0:Sub (inv g0) s)(hF:F g0)
 (round: ∀g,F g->AGoR P l n c (inv g) (Ce (fun s'=>∃g',Sub (inv g') s'/\F g'/\μ g'<μ g) Q)):AGoR P l n (.loop c) s Q:=
 AGoR.loop (fun g s'=>Sub (inv g) s'/\F g) μ g0 ⟨h0,hF⟩ fun g s' hs=>AGoR.sub hs.1 ((round g hs.2).mono fun e s'' hq=>by
  cases e with
  | normal=>obtain⟨g',h1,h2,h3⟩:=hq;exact⟨g',⟨h1,h2⟩,h3⟩
  | _=>exact hq)
theorem AGoR.region{id:Nat}{ops:Array Oper}(hd:ops.toList.all KS=true)(h:AOps P ops ops.toList s (fun s'=>Q .normal s')):AGoR P l n (.region id ops false) s Q:=fun H ι a w hs=>by
 have hpost: ∀e a2 w2,Post H ι s.h w (Ce (fun s'=>Q .normal s') fun _ _=>False) e a2 w2->Post H ι s.h w Q e a2 w2:=fun e a2 w2 hp=>by
  obtain⟨s',H',ι',q,r⟩:=hp
  cases e<;>first | exact⟨s',H',ι',q,r⟩ | exact q.elim
 have hlo: ¬LetsOut (Post H ι s.h w (Ce (fun s'=>Q .normal s') fun _ _=>False)):=fun⟨a,w,s',H',ι',q,r⟩=>q
 exact wpIn_mono (wpIn_region_list (XJ hlo _ hd (h H ι a w hs))) hpost
end
end Go.Proofs.YtbbfelelocccmaaGreat.Sv
namespace Go.Proofs.YtbbfelelocccmaaGreat.Sv
open Go Go.RowKit
def AObj.noMap:AObj->Bool
  | .map _=>false
  | .iter0=>false
  | _=>true
def NoMap(h:Ac):Prop:=∀b o,h b=some o->o.noMap=true
theorem NoMap.new:NoMap hNew:=fun b o h=>by cases h;rfl
theorem NoMap.put{h:Ac}(hh:NoMap h)(b:Nat){o:AObj}(ho:o.noMap=true):NoMap (hput h b o):=fun c q hq=>by
 by_cases hc:c=b
 . subst hc;rw[Aq]at hq;cases hq;exact ho
 . rw[AL _ _ hc]at hq;exact hh c q hq
theorem NoMap.none:NoMap hNone:=fun b o h=>by cases h
theorem HeapRel.grownO{H:Az}{ι:Bg}{h:Ac}{w w':World}{row:Option Nat}(hr:HeapRel H ι h w)(hm:NoMap h)(hg:w.grownBy w' row)(hrow: ∀r,row=some r->∃o:Obj,w.heap[r]?=some o/\o.isCells=false):HeapRel H ι h w':=by
 have key: ∀(b:Nat) (c:Array Value) (T:TypeId) (fr:Nat×Nat),w.heap[b]?=some (Obj.cells c T fr)->w'.heap[b]?=some (Obj.cells c T fr):=fun b c T fr hb=>by
  refine(hg.block b (Array.getElem?_eq_some_iff.1 hb).1 (fun e=>?_)).trans hb;obtain⟨o,ho,hc⟩:=hrow b e.symm;rw[hb]at ho;cases ho;cases hc
 refine⟨fun b c hb=>?_,hr.free,fun b o h1 h2=>?_,hr.inj,hr.glob⟩
 . obtain⟨T,fr,e⟩:=hr.know b c hb;exact⟨T,fr,key _ _ _ _ e⟩
 . obtain⟨r,e1,e2,e3⟩:=hr.obj b o h1 h2;refine⟨r,e1,?_,e3⟩
   cases o with
   | free=>trivial
   | map kvs=>have:=hm b _ h1;cases this
   | iter0=>have:=hm b _ h1;cases this
   | row p sz es=>
    obtain⟨r1,r2,r3,r4,r5,r6⟩:=e2;refine⟨r1,r2,r3,r4,r5,fun hsol=>?_⟩;obtain⟨c,T,⟨fr,q1,q2⟩,q3,q4⟩:=r6 hsol;exact⟨c,T,⟨fr,key _ _ _ _ q1,q2⟩,q3,q4⟩
theorem Step.grown{H:Az}{ι:Bg}{h:Ac}{w:World}{H':Az}{ι':Bg}{h':Ac}{w' w'':World}{row:Option Nat}(st:Step H ι h w H' ι' h' w')(hg:w'.grownBy w'' row)(hrow: ∀r,row=some r->w.heap.size<=r):Step H ι h w H' ι' h' w'' where
 size:=Nat.le_trans st.size hg.size
 os:=hg.os.trans st.os
 out:=hg.output.trans st.out
 keep:=fun rb hlt hno=>by
  refine(hg.block rb (Nat.lt_of_lt_of_le hlt st.size) (fun e=>?_)).trans (st.keep rb hlt hno);have:=hrow rb e.symm;omega
 kle:=st.kle
 knew:=st.knew
 lle:=st.lle
 lframe:=st.lframe
 newrb:=st.newrb
 dom:=st.dom
theorem Step.others{H:Az}{ι:Bg}{h:Ac}{w:World}{H':Az}{ι':Bg}{h':Ac}{w':World}(hr:HeapRel H ι h w)(hm:NoMap h)(st:Step H ι h w H' ι' h' w'):KeepsOthers w w':=
 ⟨st.size,fun k o hk ho=>by
  have hlt:=(Array.getElem?_eq_some_iff.1 hk).1;refine(st.keep k hlt ?_).trans hk
  rintro⟨b,q,r,h1,h2,h3,h4,h5⟩
  obtain⟨r',e1,e2,_⟩:=hr.obj b q h1 h2;rw[h3]at e1;cases e1
  cases q with
  | free=>cases h2
  | map kvs=>have:=hm b _ h1;cases this
  | iter0=>have:=hm b _ h1;cases this
  | row p sz es=>
   obtain⟨_,_,_,_,_,r6⟩:=e2;obtain⟨c,T,⟨fr,q1,_⟩,_,_⟩:=r6 h4;rw[h5]at q1;rw[hk]at q1;cases q1;cases ho⟩
theorem Step.of_sub{H:Az}{ι:Bg}{h h':Ac}{w:World}(hh:HSub h' h):Step H ι h w H ι h' w:=⟨Nat.le_refl _,rfl,rfl,fun _ _ _=>rfl,KLe.refl _,fun _ h=>.inl h,LLe.refl _,fun _ _=>rfl,fun _ _ h _=>.inl h,fun b hb=>by
 cases e:h' b with
 | none=>rfl
 | some o=>rw[hh b o e]at hb;cases hb⟩
section
variable {P : Program}
theorem aT{α:Type}{s:Aj}{H:Az}{ι:Bg}{a:Act}{w:World}(hs:Sim H ι s a w){g:Operand}{p d ida:Nat}{oa:Oper}{body:Code}{Q:Exit->Act->World->Prop}{gf:Nat}{cs:List AV}
 (hoa:oa.op= .assign (.tmp p)) (hda:oa.dst=some d) (hga:oa.guard=none) (hp:p<s.n) (hd:d<s.n) (hpd:p≠d)
 (hg:Al s.env g=some (.fn (.func gf) [] cs)) (eg: ∀args w,(callFunc gf args).run P w= .ok (.enter gf args) w)
 {enc:α->Value} {av:α->AV} (hav: ∀x H ι,Rel H ι (av x) (enc x)) {S:List α->Prop} {N:Nat}
 (hseq: ∀lb:Array Value,lb.size=cs.length->(∀(j:Nat) (x:AV) (v:Value),cs[j]?=some x->lb[j]?=some v->Rel H ι x v)->SeqStopsK Fence.wide 3 P gf lb (fun x=> #[enc x]) (fun _ _=>True) S (fun _=>True) N w)
 (e0:Av) (hI:List α->Ac) (he0:ESub e0 s.env) (hm0:NoMap s.h) (hm: ∀pre,NoMap (hI pre)) (h0:HSub (hI []) s.h)
 (hbody: ∀(l:Nat) (pre:List α) (x:α),pre.length<N->AGoR P l 2 body ⟨s.n,Aa (Aa e0 p (av x)) d (av x),hI pre⟩ (Ce (fun s'=>HSub (hI (pre++[x])) s'.h) (fun _ _=>False)))
 (hdone: ∀(D:Nat) (xs:List α) (W:World) (H':Az) (ι':Bg),w.heap.size<=D->S xs->HeapRel H' ι' (hI xs) W->Step H ι s.h w H' ι' (hI xs) W->W.heap[D]?=some (.deferred (some []))->Q .normal {tmps:=a.tmps,defers:=[{target:=.collected D,args:= #[]}]} W):
 (Code.rangeFunc g #[p] (.region ida #[oa] false) body).wp P Q a w:=by
 obtain⟨us,lb,hge,hus,hlb,_,hrl⟩: ∃us lb,a.eval g= .func (.func gf) us lb/\([]:List AV).length=us.size/\cs.length=lb.size/\True/\∀(j:Nat) (x:AV) (v:Value),cs[j]?=some x->lb[j]?=some v->Rel H ι x v:=by
  obtain⟨us,vs,e1,e2,e3,_,e5⟩:=(Am hs hg).fn_inv;exact⟨us,vs,e1,e2,e3,trivial,e5⟩
 have hus':us= #[]:=by
  cases us with
  | mk l=>cases l with
   | nil=>rfl
   | cons y l=>simp at hus
 subst hus';refine wpIn_wide (n:=4).1 ?_;have hpn:p<a.tmps.size:=by rw[hs.n];exact hp
 have hdn:d<a.tmps.size:=by rw[hs.n];exact hd
 have hI0: ∃H' ι',HeapRel H' ι' (hI []) w/\Step H ι s.h w H' ι' (hI []) w:=⟨H,ι,hs.heap.sub h0,Step.of_sub h0⟩
 refine wpIn_rangeFunc_ownF (F:=Fence.wide) (n:=4) (α:=α) (Q:=Q) (a:=a) (w:=w) (w0:=w) rfl (by decide) hge trivial eg (hseq lb hlb.symm hrl) (fun _ _=>trivial) (fun _ _ _ _ _ _ _ _=>trivial) (Below.refl _ _) (fun _=>rfl)
  (fun pre W=>∃H' ι',HeapRel H' ι' (hI pre) W/\Step H ι s.h w H' ι' (hI pre) W) (fun _ _ _=>False) ?_ (fun _ _ _ _ _ h _ _=>h) hI0
  (fun x=>{tmps:=(a.tmps.setIfInBounds p (enc x)).setIfInBounds d (enc x),defers:=[]}) ?_ ?_ ?_ (fun _ _ _ _ _ _ h _=>h.elim)
 . rintro pre W W' row ⟨H',ι',k1,k2⟩ hg' hr
   exact⟨H',ι',k1.grownO (hm pre) hg' (fun r e=>(hr r e).2),k2.grown hg' (fun r e=>(hr r e).1)⟩
 . intro l x W K hK;refine wpIn_region_list ?_;show wpListIn _ _ P _ _ [oa] _ W;unfold wpListIn;have hw:Region.wanted oa (yielded #[oa] (((#[p].zip #[enc x]).foldl (fun t (q:Nat×Value)=>t.setIfInBounds q.1 q.2) a.tmps)))=true:=by simp[Region.wanted,hga]
   rw[if_pos hw];refine XE (by unfold KS;rw[hoa]) ?_;unfold Oper.wp;simp only[execOp,hoa,Sem.run_pure,Oper.upon];have e1:(#[p].zip #[enc x]).foldl (fun t (q:Nat×Value)=>t.setIfInBounds q.1 q.2) a.tmps=a.tmps.setIfInBounds p (enc x):=by simp
   have e2:({tmps:=a.tmps.setIfInBounds p (enc x),defers:=[]}:Act).eval (.tmp p)=enc x:=by
    simp[Act.eval,hpn]
   show K _ W;rw[hda];simpa[Act.put,Act.eval,hpn]using hK
 . rintro l pre x W ⟨H',ι',k1,k2⟩ hlt
   have hsim:Sim H' ι' ⟨s.n,Aa (Aa e0 p (av x)) d (av x),hI pre⟩ {tmps:=(a.tmps.setIfInBounds p (enc x)).setIfInBounds d (enc x),defers:=[]} W:=by
    refine⟨by simp[hs.n],rfl,fun t y hy=>?_,k1⟩
    by_cases htd:t=d
    . subst htd;have hy':Aa (Aa e0 p (av x)) t (av x) t=some y:=hy;rw[CA]at hy';cases hy';exact⟨enc x,by simp[hdn],hav x _ _⟩
    . have hy':Aa (Aa e0 p (av x)) d (av x) t=some y:=hy;rw[Eb _ _ htd]at hy'
      by_cases htp:t=p
      . subst htp;rw[CA]at hy';cases hy';refine⟨enc x,?_,hav x _ _⟩;show((a.tmps.setIfInBounds t (enc x)).setIfInBounds d (enc x))[t]?=_;rw[Array.getElem?_setIfInBounds_ne (fun e=>htd e.symm)];simp[hpn]
      . rw[Eb _ _ htp]at hy';obtain⟨v,v1,v2⟩:=hs.env t y (he0 t y hy');refine⟨v,?_,v2.mono k2.kle k2.lle⟩;show((a.tmps.setIfInBounds p (enc x)).setIfInBounds d (enc x))[t]?=_;rw[Array.getElem?_setIfInBounds_ne (fun e=>htd e.symm),Array.getElem?_setIfInBounds_ne (fun e=>htp e.symm)];exact v1
   refine wpIn_mono (hbody l pre x hlt H' ι' _ W hsim) fun e a' W' hp=>?_
   obtain⟨s',H2,ι2,q,r,t⟩:=hp
   cases e with
   | normal=>
    have t2:Step H' ι' (hI pre) W H2 ι2 (hI (pre++[x])) W':=t.trans k1 r.heap (Step.of_sub q);exact⟨t.others k1 (hm pre),trivial,H2,ι2,r.heap.sub q,k2.trans hs.heap k1 t2⟩
   | _=>exact q.elim
 . rintro D xs W hD hS ⟨H',ι',k1,k2⟩ hK
   have:a.defers=[]:=hs.d;have ha:{a with defers:={target:=.collected D,args:= #[]}::a.defers}=({tmps:=a.tmps,defers:=[{target:=.collected D,args:= #[]}]}:Act):=by rw[this]
   rw[ha];exact hdone D xs W H' ι' hD hS k1 k2 hK
def QD(ds:List Deferred)(K:Act->World->Prop)(a:Act)(w:World):Prop:=∃tm,a={tmps:=tm,defers:=ds}/\K {tmps:=tm,defers:=[]} w
theorem cq(tm:Array Value)(ds:List Deferred)(d:Option Nat)(v:Value): ∃tm',({tmps:=tm,defers:=ds}:Act).put d v={tmps:=tm',defers:=ds}/\({tmps:=tm,defers:=[]}:Act).put d v={tmps:=tm',defers:=[]}:=by
 cases d with
 | none=>exact⟨tm,rfl,rfl⟩
 | some d=>exact⟨tm.setIfInBounds d v,rfl,rfl⟩
def Ga(o:Oper):Bool:=match o.op with
  | .load .. | .store .. =>true
  | _=>false
theorem VR{o:Oper}(hd:Ga o=true){ρ:Operand->Value}{w w':World}{x:Next}(h:(execOp ρ o).run P w= .ok x w'):(∃v,x= .value v)\/x= .skip:=by
 unfold Ga at hd;unfold execOp at h
 cases ho:o.op<;>rw[ho]at hd h<;>first |(cases hd;done) | skip
 . simp only[Sem.run_bind,Sem.run_pure]at h;generalize(Instr.loadAt _ _).run P w=r at h
   cases r with
   | ok v w1=>simp only[Result.andThen_ok]at h;cases h;exact .inl ⟨v,rfl⟩
   | halt y w1=>cases h
 . simp only[Sem.run_bind,Sem.run_pure]at h;generalize(Instr.storeAt _ _ _).run P w=r at h
   cases r with
   | ok v w1=>simp only[Result.andThen_ok]at h;cases h;exact .inr rfl
   | halt y w1=>cases h
theorem gH{o:Oper}{tm:Array Value}{ds:List Deferred}{w:World}{K:Act->World->Prop}{Q:Exit->Act->World->Prop}(hd:Ga o=true)(h:o.wp P {tmps:=tm,defers:=[]} w K Q):o.wp P {tmps:=tm,defers:=ds} w (QD ds K) (fun e=>QD ds (Q e)):=by
 unfold Oper.wp at h |-;have e:(execOp ({tmps:=tm,defers:=ds}:Act).eval o)=execOp ({tmps:=tm,defers:=[]}:Act).eval o:=by
  congr 1
 rw[e];have hnd: ∀x w',(execOp ({tmps:=tm,defers:=[]}:Act).eval o).run P w= .ok x w'->(∃v,x= .value v)\/x= .skip:=fun x w' hx=>VR hd hx
 generalize(execOp ({tmps:=tm,defers:=[]}:Act).eval o).run P w=res at h hnd |-;have hput: ∀v w',K (({tmps:=tm,defers:=[]}:Act).put o.dst v) w'->QD ds K (({tmps:=tm,defers:=ds}:Act).put o.dst v) w':=fun v w' hk=>by
  obtain⟨tm',e1,e2⟩:=cq tm ds o.dst v;rw[e2]at hk;exact⟨tm',e1,hk⟩
 cases res with
 | ok x w'=>
  rcases hnd x w' rfl with⟨v,rfl⟩ | rfl
  . exact hput v w' h
  . exact hput _ w' h
 | halt x w'=>
  cases x with
  | panic v=>exact⟨tm,rfl,h⟩
  | _=>exact h.elim
theorem SV{ops:Array Oper}{ds:List Deferred}{Q:Exit->Act->World->Prop}(hq: ¬LetsOut Q)(hd: ∀(i:Nat) o,ops[i]?=some o->Ga o=true): ∀(fuel:Nat) (L:Array Bool) (tm:Array Value) (w:World),wpAny P .any ops Q fuel L {tmps:=tm,defers:=[]} w->wpAny P .any ops (fun e=>QD ds (Q e)) fuel L {tmps:=tm,defers:=ds} w
 | 0,L,tm,w,h=>⟨h.1,tm,rfl,h.2⟩
 | fuel+1,L,tm,w,h=>by
  refine⟨fun h0=>⟨tm,rfl,h.1 h0⟩,fun i hi=>?_⟩;have h1:=h.2 i hi;unfold wpOp at h1 |-;have go: ∀a w',QD ds (wpAny P .any ops Q fuel (L.setIfInBounds i true)) a w'->wpAny P .any ops (fun e=>QD ds (Q e)) fuel (L.setIfInBounds i true) a w':=fun a w' ⟨tm',e,hx⟩=>by
   subst e;exact SV hq hd fuel _ tm' w' hx
  cases ho:ops[i]? with
  | none=>rw[ho]at h1;exact SV hq hd fuel _ tm w h1
  | some o=>
   rw[ho]at h1;simp only at h1 |-
   by_cases hw:Region.wanted o (yielded ops tm)=true
   . rw[if_pos hw]at h1 |-;rcases h1 with h1 |⟨_,h1⟩
     . exact .inl (Oper.wp_mono (fun a w' hx=>go a w' hx) (gH (hd i o ho) h1))
     . exact absurd h1 hq
   . rw[if_neg hw]at h1 |-;obtain⟨tm',e1,e2⟩:=cq tm ds o.dst undef;rw[e2]at h1;rw[e1];exact SV hq hd fuel _ tm' w h1
theorem DOps.any{ops:Array Oper}{n:Nat}{e:Av}{h:Ac}{K:Aj->Prop}(hd:DOps P ops n ops.toList e h [] K){H:Az}{ι:Bg}{a:Act}{w:World}(hs:Sim H ι ⟨n,e,h⟩ a w):
 wpAny P .any ops (Post H ι h w (Ce K fun _ _=>False)) ops.size (Array.replicate ops.size false) a {w with drawn:=w.drawn+1}:=by
 obtain⟨cs,e',h',h1,h2,h3⟩:=hd;have hgrow: ∀rb,rb<w.heap.size->({w with drawn:=w.drawn+1}:World).heap[rb]?=w.heap[rb]?:=fun _ _=>rfl
 have hr':HeapRel H ι h {w with drawn:=w.drawn+1}:=hs.heap.grow hgrow;have hst:Step H ι h w H ι h {w with drawn:=w.drawn+1}:=Step.grow hgrow (Nat.le_refl _) rfl rfl;have hL0: ∀i,(Array.replicate ops.size false).getD i false=false:=fun i=>by
  by_cases hi:i<ops.size
  . simp[hi]
  . simp[hi]
 have hm0: ∀{V:Type} (l:List (Vq V)) (g:Nat->V),B6 (fun i=>(Array.replicate ops.size false).getD i false) l 0 g=g:=fun l g=>funext fun x=>E9 fun i u _ _=>hL0 _
 refine Gi (fun e a' w' hp=>?_) _ _ _ _ (Rq (I:=fun _=>True) (D:=[]) (K:=K) h1 trivial (by simpa using h2) h3 hs.heap ops.size (Array.replicate ops.size false) H ι a {w with drawn:=w.drawn+1}
  ⟨by simp,fun i hi=>by rw[hL0]at hi;cases hi⟩ (by unfold todo;simp) hs.d (by rw[hm0,hm0,hs.d0];exact⟨hs.n,hs.d,hs.env,hr'⟩) (by rw[hm0];exact hst))
 obtain⟨hD,s',H',ι',q,r,t⟩:=hp;have e2:{a' with defers:=[]}=a':=by cases a';simp only at hD;subst hD;rfl
 rw[e2]at r;exact⟨s',H',ι',q,r,t⟩
theorem fS{T:Nat->Option As}(hT:Cq P T)(hmx:P.follows .mixedOrders=true){fn:Func}{ops:Array Oper}{id D:Nat}{s:Aj}{H0 H:Az}{ι0 ι:Bg}{h0:Ac}{tm:Array Value}{w0 w:World}{R:AV->Ac->Prop}
 (hld: ∀(i:Nat) o,ops[i]?=some o->Ga o=true) (hs:Sim H ι s {tmps:=tm,defers:=[]} w) (hnm:NoMap s.h) (hr0:HeapRel H0 ι0 h0 w0) (hst:Step H0 ι0 h0 w0 H ι s.h w) (hD:w0.heap.size<=D) (hK:w.heap[D]?=some (.deferred (some [])))
 (hd:DOps P ops s.n ops.toList s.env s.h [] (fun s'=>NoMap s'.h/\∃xs,G9 T s' fn.results.toList xs/\R (FQ xs) s'.h)):
 (Code.seq (.region id ops true) .ret).wp P (bodyPostM Fence.wide 3 P fn (fun e w'=>∃v r h' H' ι',e= .returned v/\R r h'/\Rel H' ι' r v/\HeapRel H' ι' h' w'/\Step H0 ι0 h0 w0 H' ι' h' w')) {tmps:=tm,defers:=[{target:=.collected D,args:= #[]}]} w:=by
 have hlo: ¬LetsOut (Post H ι s.h w (Ce (fun s'=>NoMap s'.h/\∃xs,G9 T s' fn.results.toList xs/\R (FQ xs) s'.h) fun _ _=>False)):=fun⟨a,w,s',H',ι',q,r⟩=>q
 refine wp_seq (wp_mono (wp_region_any hmx (SV (ds:=[{target:=.collected D,args:= #[]}]) hlo hld _ _ _ _ (DOps.any (K:=fun s'=>NoMap s'.h/\∃xs,G9 T s' fn.results.toList xs/\R (FQ xs) s'.h) hd hs))) fun e a' w' hp=>?_);obtain⟨tm',rfl,s',H',ι',q,r,t⟩:=hp
 cases e with
 | normal=>
  obtain⟨qn,xs,q1,q2⟩:=q;refine wp_ret ?_;have hoth:=t.others hs.heap hnm;have hK':=hoth.same D _ hK rfl;have hg:=grownBy_putObj' w' D (.deferred none);have hrow: ∀r,some D=some r->∃o:Obj,w'.heap[r]?=some o/\o.isCells=false:=fun r e=>by cases e;exact⟨_,hK',rfl⟩
  have hr2:=r.heap.grownO qn hg hrow;have hst2:Step H0 ι0 h0 w0 H' ι' s'.h (w'.putObj D (.deferred none)):=(hst.trans hr0 hs.heap t).grown hg (fun r e=>by cases e;exact hD);refine⟨by simp,.inl ⟨D,_,rfl,run_takeDeferred hK',?_⟩⟩;obtain⟨v,e1,e2⟩:=Mr hT (s:=s') (a:={tmps:=tm',defers:=[]}) ⟨r.n,rfl,r.env,hr2⟩ q1;exact⟨v,e2,v,_,_,H',ι',rfl,q2,e1,hr2,hst2⟩
 | _=>exact q.elim
end
end Go.Proofs.YtbbfelelocccmaaGreat.Sv
namespace Go.Proofs.YtbbfelelocccmaaGreat.Sv
open Go Go.RowKit
section
variable {P : Program}
def AW(P:Program)(Q:Exit->Act->World->Prop)(H0:Az)(ι0:Bg)(h0:Ac)(w0:World)(c:Code)(s:Aj):Prop:=
  ∀H ι a w,Sim H ι s a w->Step H0 ι0 h0 w0 H ι s.h w->c.wp P Q a w
def AD(K:Act->World->Prop)(H0:Az)(ι0:Bg)(h0:Ac)(w0:World)(s:Aj):Prop:=
  ∀H ι tm w D,Sim H ι s {tmps:=tm,defers:=[]} w->Step H0 ι0 h0 w0 H ι s.h w->w0.heap.size<=D->w.heap[D]?=some (.deferred (some []))->K {tmps:=tm,defers:=[{target:=.collected D,args:= #[]}]} w
variable {Q : Exit -> Act -> World -> Prop} {H0 : Az} {ι0 : Bg} {h0 : Ac} {w0 : World} {s s' : Aj} {K : Act -> World -> Prop}
theorem AW.seq(hr:HeapRel H0 ι0 h0 w0){x y:Code}(h:AGo P x s (Ce (fun s'=>AW P Q H0 ι0 h0 w0 y s') (fun _ _=>False))):AW P Q H0 ι0 h0 w0 (.seq x y) s:=fun H ι a w hs hst=>by
 refine wp_seq (wp_mono (h H ι a w hs) fun e a' w' hp=>?_);obtain⟨s',H',ι',q,r,t⟩:=hp
 cases e with
 | normal=>exact q H' ι' a' w' r (hst.trans hr hs.heap t)
 | _=>exact q.elim
theorem iP{x y:Code}(h:AW P (fun e a w=>match e with
 | .normal=>y.wp P Q a w
 | e=>Q e a w) H0 ι0 h0 w0 x s):AW P Q H0 ι0 h0 w0 (.seq x y) s:=fun H ι a w hs hst=>by
 refine wp_seq (wp_mono (h H ι a w hs hst) fun e a' w' hp=>?_)
 cases e<;>exact hp
theorem AD.ghost(hr:HeapRel H0 ι0 h0 w0)(hg:Ghost s s')(h:AD K H0 ι0 h0 w0 s'):AD K H0 ι0 h0 w0 s:=fun H ι tm w D hs hst hD hK=>by
 obtain⟨H',ι',g1,g2⟩:=hg H ι _ w hs;exact h H' ι' tm w D g1 (hst.trans hr hs.heap g2) hD hK
theorem AW.range(hr:HeapRel H0 ι0 h0 w0){α:Type}{g:Operand}{p d ida b0:Nat}{oa:Oper}{body:Code}{gf:Nat}{cs:List AV}
 (hoa:oa.op= .assign (.tmp p)) (hda:oa.dst=some d) (hga:oa.guard=none) (hp:p<s.n) (hd:d<s.n) (hpd:p≠d)
 (hg:Al s.env g=some (.fn (.func gf) [] cs)) (eg: ∀args w,(callFunc gf args).run P w= .ok (.enter gf args) w)
 (enc:α->Value) (av:α->AV) (hav: ∀x H ι,Rel H ι (av x) (enc x)) {S:List α->Prop} {N:Nat}
 (hseq: ∀H ι w,HeapRel H ι s.h w->∀lb:Array Value,lb.size=cs.length->(∀(j:Nat) (x:AV) (v:Value),cs[j]?=some x->lb[j]?=some v->Rel H ι x v)->SeqStopsK Fence.wide 3 P gf lb (fun x=> #[enc x]) (fun _ _=>True) S (fun _=>True) N w)
 (e0:Av) (hI:List α->Ac) (he0:ESub e0 s.env) (hm0:NoMap s.h) (hm: ∀pre,NoMap (hI pre)) (h1:HSub (hI []) s.h)
 (hbody: ∀(l:Nat) (pre:List α) (x:α),pre.length<N->AGoR P l 2 body ⟨s.n,Aa (Aa e0 p (av x)) d (av x),hI pre⟩ (Ce (fun s'=>HSub (hI (pre++[x])) s'.h) (fun _ _=>False)))
 (hdone: ∀xs,S xs->AD (Q .normal) H0 ι0 h0 w0 ⟨s.n,s.env,hI xs⟩):
 AW P Q H0 ι0 h0 w0 (.block b0 (.rangeFunc g #[p] (.region ida #[oa] false) body)) s:=fun H ι a w hs hst=>by
 refine wp_block ?_;refine aT hs hoa hda hga hp hd hpd hg eg hav (hseq H ι w hs.heap) e0 hI he0 hm0 hm h1 hbody fun D xs W H' ι' hD hS hr' hst' hK=>?_
 show Q .normal _ W;refine hdone xs hS H' ι' _ W D ⟨hs.n,rfl,fun t x hx=>?_,hr'⟩ (hst.trans hr hs.heap hst') (Nat.le_trans hst.size hD) hK;obtain⟨v,e1,e2⟩:=hs.env t x hx;exact⟨v,e1,e2.mono hst'.kle hst'.lle⟩
theorem AGoR.join{l n:Nat}{R:Exit->Aj->Prop}{γ:Type}{c:Code}(inv:γ->Aj)(F:γ->Prop)(h:AGoR P l n c s (Ce (fun s'=>∃g,Sub (inv g) s'/\F g) R))(k: ∀g,F g->R .normal (inv g)):AGoR P l n c s R:=fun H ι a w hs=>
 wpIn_mono (h H ι a w hs) fun e a' w' hp=>by
  exact mf
theorem Ghost.freezeP{n:Nat}{e:Av}{h:Ac}(t b:Nat){sz:Nat}{cs:List AV}(ht:e t=some (.ptr b 1 0 0))(hb:h b=some (.row true sz [cs])):Ghost ⟨n,e,h⟩ ⟨n,Aa e t (.loc cs),hrm h b⟩:=fun H ι a w hs=>by
 have hr:=hs.heap;obtain⟨r,hl,⟨r1,r2,r3,r4,r5,r6⟩,r7⟩:=hr.obj b _ hb rfl;have hsol:r.csz≠0:=by simp at r4;omega
 have hsubh: ∀x o,hrm h b x=some o->h x=some o:=fun x o hx=>by
  exact aM
 have hdom: ∀x,h x=none->hrm h b x=none:=fun x hx=>by
  cases e:hrm h b x with
  | none=>rfl
  | some o=>rw[hsubh x o e]at hx;cases hx
 obtain⟨c,TT,w1,w2,w3⟩:=r6 hsol;have hnone:H r.rb=none:=r7 hsol;have hkle:KLe H (Kj H r.rb c):=fun x c' e=>by
  rw[EJ _ _ (fun hx=>by subst hx;rw[hnone]at e;cases e)];exact e
 have hsub:=hr.sub hsubh;have hheap:HeapRel (Kj H r.rb c) ι (hrm h b) w:=by
  refine⟨fun x c' e=>?_,hsub.free,fun x o h1 h2=>?_,hsub.inj,hr.glob.mono hkle⟩
  . by_cases hx:x=r.rb
    . subst hx;rw[Gb]at e;cases e;obtain⟨fr,w1',_⟩:=w1;exact⟨TT,fr,w1'⟩
    . rw[EJ _ _ hx]at e;exact hr.know x c' e
  . obtain⟨r',e1,e2,e3⟩:=hsub.obj x o h1 h2;exact md
 have hstep:Step H ι h w (Kj H r.rb c) ι (hrm h b) w:=by
  refine⟨Nat.le_refl _,rfl,rfl,fun _ _ _=>rfl,hkle,fun x hx=>?_,LLe.refl _,fun _ _=>rfl,fun _ _ h _=>.inl h,hdom⟩
  by_cases hx':x=r.rb
  . subst hx';exact .inr (.inr ⟨b,_,r,hb,rfl,hl,hsol,rfl⟩)
  . rw[EJ _ _ hx']at hx;exact .inl hx
 refine⟨_,ι,⟨hs.n,hs.d,fun u y hy=>?_,hheap⟩,hstep⟩
 by_cases hu:u=t
 . subst hu;simp only[CA,Option.some.injEq]at hy;subst hy;obtain⟨v,h1,h2⟩:=hs.env u _ ht;have hv:=h2.ptr_live hl r3;subst hv;refine⟨_,h1,.loc _ _ _ _ c (fun k=>(c[0*r.sz+0+k]?).getD undef) (Gb _ _ _) (fun j x hj=>?_) (fun j x hj=>?_) (fun j x hj=>?_)⟩
   . obtain⟨u,f1,_⟩:=w3.2 0 cs j x rfl hj;have f1':c[0*r.sz+0+j]?=some u:=by rw[<-f1];congr 1;rw[r1];omega
     show c[0*r.sz+0+j]?=some ((c[0*r.sz+0+j]?).getD undef);rw[f1'];rfl
   . obtain⟨u,f1,f2,_⟩:=w3.2 0 cs j x rfl hj;have f1':c[0*r.sz+0+j]?=some u:=by rw[<-f1];congr 1;rw[r1];omega
     show Rel _ _ _ ((c[0*r.sz+0+j]?).getD undef);rw[f1'];exact f2.mono hkle (LLe.refl _)
   . obtain⟨u,_,_,f3⟩:=w3.2 0 cs j x rfl hj;exact f3
 . simp only[Eb _ _ hu]at hy;obtain⟨v,h1,h2⟩:=hs.env u y hy;exact⟨v,h1,h2.mono hkle (LLe.refl _)⟩
theorem ft{h:Ac}(hh:NoMap h)(b:Nat):NoMap (hrm h b):=fun c q hq=>by
 by_cases hc:c=b
 . subst hc;rw[Gz]at hq;cases hq
 . rw[Fc _ hc]at hq;exact hh c q hq
abbrev jv(P:Program)(fn:Func)(R:AV->Ac->Prop)(H:Az)(ι:Bg)(h:Ac)(w:World):Exit->Act->World->Prop:=
  bodyPostM Fence.wide 3 P fn (fun e w'=>∃v r h' H' ι',e= .returned v/\R r h'/\Rel H' ι' r v/\HeapRel H' ι' h' w'/\Step H ι h w H' ι' h' w')
theorem PB{f:FuncId}{fn:Func}{c:Code}{args:List AV}{h:Ac}{R:AV->Ac->Prop}(hf:P.funcs[f]?=some fn)(hb:fn.body=some c){n:Nat}(hn:args.length+(fn.ntmps-args.length)=n)
 (hg: ∀H ι w,HeapRel H ι h w->AW P (jv P fn R H ι h w) H ι h w c ⟨n,Hh args,h⟩):ACall P f args h R:=by
 intro H ι w vs ha hr;have hs:Sim H ι ⟨n,Hh args,h⟩ {tmps:=vs++Array.replicate (fn.ntmps-vs.size) undef,defers:=[]} w:=by
  exact mo
 exact callsIn_wide.1 (callsIn_of_wp_marks (F:=Fence.wide) (n:=3) hf hb trivial (wpIn_wide.2 (hg H ι w hr H ι _ w hs (Step.refl _ _ _ _))))
theorem iR{T:Nat->Option As}(hT:Cq P T)(hmx:P.follows .mixedOrders=true){fn:Func}{ops:Array Oper}{id:Nat}{R:AV->Ac->Prop}(hr:HeapRel H0 ι0 h0 w0)
 (hld: ∀(i:Nat) o,ops[i]?=some o->Ga o=true) (hnm:NoMap s.h)
 (hd:DOps P ops s.n ops.toList s.env s.h [] (fun s'=>NoMap s'.h/\∃xs,G9 T s' fn.results.toList xs/\R (FQ xs) s'.h)):
 AD (fun a w=>(Code.seq (.region id ops true) .ret).wp P (jv P fn R H0 ι0 h0 w0) a w) H0 ι0 h0 w0 s:=fun H ι tm w D hs hst hD hK=>
 fS hT hmx hld hs hnm hr hst hD hK hd
theorem aC{ops:Array Oper}{o:Oper}{rest:List Oper}{n:Nat}{e:Av}{h:Ac}{K:Aj->Prop}(d:Nat){v:Value}(hd:o.dst=some d)(ho:o.op= .assign (.const v))(hg:o.guard=none)(he:e d=none)(hr:AOps P ops rest ⟨n,e,h⟩ K):AOps P ops (o::rest) ⟨n,e,h⟩ K:=by
 intro H ι a w hs;unfold wpList;rw[if_pos (by simp[Region.wanted,hg])];refine .inl ?_;unfold Oper.wp;simp only[execOp,ho,Sem.run_pure];refine hr H ι _ w ?_;rw[hd];refine⟨by simp[Act.put,hs.n],hs.d,fun t x hx=>?_,hs.heap⟩;have hne:d≠t:=fun e2=>by subst e2;rw[show e d=some x from hx]at he;cases he
 obtain⟨v',e1,e2⟩:=hs.env t x hx;exact⟨v',by simp only[Act.put];rw[Array.getElem?_setIfInBounds_ne hne];exact e1,e2⟩
end
end Go.Proofs.YtbbfelelocccmaaGreat.Sv
namespace Go.Proofs.YtbbfelelocccmaaGreat.Sv
open Go Go.RowKit Go.Shelf
abbrev Mk(N:Nat):={k:Nat//k<N}
def leftOf:Value->Nat
  | .int _ i=>(i+1).toNat
  | _=>0
theorem bL(k:Nat):(List.range (k+1)).reverse=k::(List.range k).reverse:=by
 rw[List.range_succ,List.reverse_append];rfl
theorem iz(l N b off:Nat)(hN:N<=1000000000)(J Jx:List (Mk N)->World->Prop)
 (hY: ∀pre (x:Mk N) W,J pre W->pre.length<N->YieldAt Fence.wide 2 Tryz.prog l #[.int .i64 (x.1:Int)] W fun e W'=>
  (e= .returned (.bool true)/\J (pre++[x]) W'/\True)\/(e= .returned (.bool false)/\Jx (pre++[x]) W'))
 (W:World) (hB:W.cell? ⟨b,off,none⟩=some (.int .i64 (N:Int))) (h0:J [] W):
 CallsIn Fence.wide 3 Tryz.prog 110 #[.func (.yield l) #[] #[],.pointer (some ⟨b,off,none⟩)] W fun e W'=>(∃v,e= .returned v)/\
  ((∃xs:List (Mk N),xs.map (·.1)=(List.range N).reverse/\J xs W')\/(∃pre,True/\Jx pre W')):=by
 refine callsIn_of_wp Tryz.func110 rfl trivial ?_ rfl;simp only[Tryz.ntmps110,List.size_toArray,List.length_cons,List.length_nil,Nat.reduceAdd,Nat.reduceSub,Array.replicate_succ,Array.replicate_zero,List.push_toArray,List.append_toArray,List.nil_append,List.cons_append]
 gi_wp2
 gi_loopw [3] (fun p wr=>∃(m:Nat) (pre:List (Mk N)),p= .int .i64 ((m:Int)-1)/\pre.map (·.1)++(List.range m).reverse=(List.range N).reverse/\J pre wr)
  (fun p wr=>leftOf p)
 case atStart=>
  exact⟨N,[],rfl,rfl,h0⟩
 case round=>
  obtain⟨m,pre,rfl,hx,hJs⟩:=hrel;have hlen:=congrArg List.length hx;simp only[List.length_append,List.length_map,List.length_reverse,List.length_range]at hlen
  cases m with
  | zero=>
   gi_wp2
   exact⟨rfl,_,results_none rfl _ _ _,⟨_,rfl⟩,.inl ⟨pre,by simpa using hx,hJs⟩⟩
  | succ k=>
   have hk:k<N:=by omega
   obtain⟨fn,tmps,assign,body,hy,hR⟩:=hY pre ⟨k,hk⟩ wr hJs (by omega);dsimp only at hy
   gi_wp2
   refine hR.mono ?_
   rintro e W3 (⟨rfl,hJ3,_⟩ |⟨rfl,hJx3⟩)
   . gi_wp2
     refine⟨⟨k,pre++[⟨k,hk⟩],rfl,?_,hJ3⟩,?_⟩
     . rw[List.map_append,<-hx,bL];simp only[List.map_cons,List.map_nil,List.append_assoc,List.cons_append,List.nil_append]
     . show((k:Int)-1+1).toNat<(((k+1:Nat):Int)-1+1).toNat;omega
   . gi_wp2
     exact⟨rfl,_,results_none rfl _ _ _,⟨_,rfl⟩,.inr ⟨_,trivial,hJx3⟩⟩
theorem WD{N:Nat}(hN:N<=1000000000){H:Az}{ι:Bg}{h:Ac}{w:World}(hr:HeapRel H ι h w)(lb:Array Value)(hl:lb.size=[AV.loc [.int .i64 (N:Int)]].length)
 (hlb: ∀(j:Nat) (x:AV) (v:Value),[AV.loc [.int .i64 (N:Int)]][j]?=some x->lb[j]?=some v->Rel H ι x v):
 SeqStopsK Fence.wide 3 Tryz.prog 110 lb (fun x:Mk N=> #[.int .i64 (x.1:Int)]) (fun _ _=>True) (fun xs=>xs.map (·.1)=(List.range N).reverse) (fun _=>True) N w:=by
 intro l J Jx W hB hJ hJx hY h0;obtain⟨v,hv⟩:=(⟨lb[0]'(by rw[hl];exact Nat.zero_lt_one),Array.getElem?_eq_getElem _⟩: ∃v,lb[0]?=some v);have hlb2:lb= #[v]:=by
  cases lb with
  | mk L=>cases L with
   | nil=>simp at hv
   | cons y L=>cases L with
    | nil=>simp at hv;rw[hv]
    | cons z L=>simp at hl
 subst hlb2;obtain⟨b,off,c,vals,rfl,hb,hcv,hcr,_⟩:=(hlb 0 _ v rfl hv).loc_inv;have e1:=hcv 0 _ rfl;have e2:=hcr 0 _ rfl
 cases e2_:vals 0 with
 | int k i=>
  rw[e2_]at e2 e1
  cases e2
  obtain⟨T,fr,e3⟩:=hr.know b c hb;have e4:W.heap[b]?=some (.cells c T fr):=by
   have:=hB.block b (Array.getElem?_eq_some_iff.1 e3).1;exact this.trans e3
  refine(iz l N b off hN J Jx hY W ?_ h0).mono ?_
  . unfold World.cell?;rw[e4];exact e1
  . intro e W' hp;exact hp
 | _=>rw[e2_]at e2;cases e2
theorem iy(n:Int):ACall Tryz.prog 107 [.int .i64 n] hNew (fun r h'=>r= .fn (.func 110) [] [.loc [.int .i64 n]]/\HSub hNone h'):=by
 refine ACall.of_body (n:=4) Ag Tryz.func107 rfl rfl ?_;refine Nk ?_;refine ax 1 (GW 1 0) ?_;refine aC 2 rfl rfl rfl rfl ?_;refine wk 2 ?_;refine AGo.ghost (.plain 0 rfl (by intro cs hc;simp at hc;subst hc;rfl)) ?_;refine AGo.ghost (.freezeP 1 0 rfl rfl) ?_;refine Ya ?_;refine aq 3 (Gp rfl rfl rfl) ?_;refine wk 3 ?_;exact⟨[_],⟨rfl,trivial⟩,rfl,HSub.none _⟩
end Go.Proofs.YtbbfelelocccmaaGreat.Sv
namespace Go.Proofs.YtbbfelelocccmaaGreat.Sv
open Go
theorem NZ(z R:Nat)(i:Int)(p:Nat->Bool)(h0:0<=i)(hi:i<R)(hR:R<=100000):ACall Tryz.prog 106 [.ref z (nw R) 0 (nw R),.int .i64 i] (hput hNew z (EA R p)) (fun r h'=>r= .tup []/\HSub (hput hNone z (EA R (fun v=>p v||v==i.toNat))) h'):=by
 have:=gr z R i.toNat p (by omega) hR;rw[Int.toNat_of_nonneg h0]at this;exact this
theorem rrm_okI(z R:Nat)(i:Int)(p:Nat->Bool)(h0:0<=i)(hi:i<R)(hR:R<=100000):ACall Tryz.prog 108 [.ref z (nw R) 0 (nw R),.int .i64 i] (hput hNew z (EA R p)) (fun r h'=>r= .tup []/\HSub (hput hNone z (EA R (fun v=>p v&& !(v==i.toNat)))) h'):=by
 have:=kM z R i.toNat p (by omega) hR;rw[Int.toNat_of_nonneg h0]at this;exact this
theorem tR_nil(x:Block):tR x []=Df x:=rfl
theorem kx(x:Block):tS x []=fun _=>false:=rfl
theorem P3{R:Nat}{p:Nat->Bool}:((Bt R p).drop 0).take (nw R)=Bt R p:=by rw[List.drop_zero,List.take_of_length_le (by rw[Bj];exact Nat.le_refl _)]
attribute [local irreducible] Bt Df Xs MR G5 tR tS
theorem Tk(x:Block)(R:Nat)(hR:R<=100000)(hi:x.ins.length<=100000)(hT: ∀t∈x.ins,t.inR (R:Int))(hv:x.fin=2->0<=x.v/\x.v<R):ACall Tryz.prog 97 [.agg x.cells,.int .i64 (R:Int)] hNew (fun r h'=>r= .tup [.lst false (Bt R (JV x)),.lst false (Bt R (fun v=>CO v x.ins))]/\HSub hNone h'):=by
 refine PB (n:=57) Tryz.func97 rfl rfl ?_;intro H0 ι0 w0 hr;refine AW.seq hr ?_;refine Ya ?_;refine ax 2 (GW 5 0) ?_;refine ax 4 (EU Ag 1) ?_;refine ax 5 (EU Ag 2) ?_;refine an ?_;refine AW.seq hr ?_;refine wk 2 ?_;refine ax 11 (Wj (KF 3 R hR) [3] [(3,(EA R (fun _=>false)))] rfl Tryz.func98 (by kernel_rfl) rfl rfl rfl ⟨⟨_,rfl,rfl⟩,trivial⟩ rfl (AJ rfl (BF _)) ⟨⟨_,rfl,rfl,rfl⟩,trivial⟩ rfl) ?_;refine wk 1 ?_;refine ax 13 (Wj (KF 4 R hR) [4] [(4,(EA R (fun _=>false)))] rfl Tryz.func98 (by kernel_rfl) rfl rfl rfl ⟨⟨_,rfl,rfl⟩,trivial⟩ rfl (AJ rfl (BF _)) ⟨⟨_,rfl,rfl,rfl⟩,trivial⟩ rfl) ?_;refine wk 3 ?_;refine AW.seq hr ?_;refine AGo.join (γ:=Unit) (fun _u=>⟨57,(Aa (Aa (Aa Ba 2 (.ptr 0 1 0 0)) 4 (.ptr 1 1 0 0)) 5 (.ptr 2 1 0 0)),(hput (hput (hput (hput (hput hNone 0 (.row false 5 [x.cells])) 1 (.row false 1 [[.ref 3 (nw R) 0 (nw R)]])) 2 (.row false 1 [[.ref 4 (nw R) 0 (nw R)]])) 3 (EA R (Df x))) 4 (EA R (fun _=>false)))⟩) (fun _u=>True) ?_ ?_
 .
  refine wk 6 ?_;refine asp 16 (fun hb1=>?_) fun hb1=>?_
  .
   refine act ?_;have hfin:x.fin=2:=by simpa using hb1
   have hv2:=hv hfin
   skip
   refine wk 4 ?_;refine ax 20 (Wj (NZ 3 R x.v (fun _=>false) hv2.1 hv2.2 hR) [3] [(3,(EA R (fun v=>(fun _=>false) v||v==x.v.toNat)))] rfl Tryz.func106 (by kernel_rfl) rfl rfl rfl ⟨⟨_,rfl,rfl⟩,trivial⟩ rfl (AJ rfl (BF _)) ⟨⟨_,rfl,rfl,rfl⟩,trivial⟩ rfl) ?_;refine an ?_;exact mx
  refine acf ?_;have hfin: ¬x.fin=2:=by simpa using hb1
  refine fH ?_;exact mx
 intro _ _;refine iP ?_;refine AW.seq hr ?_;refine wk 4 ?_;refine ax 24 (LN (r:=(.fn (.func 110) [] [.loc [.int .i64 (x.ins.length:Int)]])) (hc:=hNew) (hw:=hNone) [] [] rfl Tryz.func107 (by kernel_rfl) rfl rfl rfl trivial rfl (BF _) trivial rfl (by rw[List.length_map];exact iy _)) ?_;refine an ?_;refine AW.range hr (α:=Mk x.ins.length) (S:=fun xs=>xs.map (·.1)=(List.range x.ins.length).reverse) (N:=x.ins.length) rfl rfl rfl (by show 25<57;decide) (by show 6<57;decide) (by decide) rfl (fun _ _=>rfl) (fun q=>.int .i64 (q.1:Int)) (fun q=>.int .i64 (q.1:Int)) (fun _ _ _=>.int _ _ _) (fun H ι w hh lb h1 h2=>WD (by omega) hh lb h1 h2) (Aa (Aa (Aa Ba 2 (.ptr 0 1 0 0)) 4 (.ptr 1 1 0 0)) 5 (.ptr 2 1 0 0)) (fun pre=>(hput (hput (hput (hput (hput hNone 0 (.row false 5 [x.cells])) 1 (.row false 1 [[.ref 3 (nw R) 0 (nw R)]])) 2 (.row false 1 [[.ref 4 (nw R) 0 (nw R)]])) 3 (EA R ((tR x (pre.map (·.1)))))) 4 (EA R ((tS x (pre.map (·.1))))))) Ci fP (fun _=>fP) (by repeat(first | exact HSub.refl _ | exact HSub.none _ | exact AH _ | exact AF GO | refine HSub.put ?_ (by first | rfl | exact congrArg (fun p=>some (EA R p)) (tR_nil x).symm | exact congrArg (fun p=>some (EA R p)) (kx x).symm) | refine AG ?_ GO | refine Br ?_ (by decide))) ?_ ?_
 .
  intro l pre q hlt;obtain⟨t,ht⟩:=Ae q.2;have hin:=hT t (List.mem_of_getElem? ht);refine AGoR.block ?_;refine AGoR.seq ?_;refine AGoR.seq ?_;refine AGoR.region rfl ?_;refine wk 3 ?_;refine aq 29 (MT Ag (AO ht)) ?_;refine wk 1 ?_;refine ax 31 (DX Tryz.func77 (Li _)) ?_;refine wk 2 ?_;refine AGoR.seq ?_;refine AGoR.region rfl ?_;refine wk 3 ?_;refine AGoR.join (γ:=Unit) (fun _u=>⟨57,(Aa (Aa (Aa (Aa (Aa Ba 2 (.ptr 0 1 0 0)) 4 (.ptr 1 1 0 0)) 5 (.ptr 2 1 0 0)) 25 (.int .i64 (q.1:Int))) 6 (.int .i64 (q.1:Int))),(hput (hput (hput (hput (hput hNone 0 (.row false 5 [x.cells])) 1 (.row false 1 [[.ref 3 (nw R) 0 (nw R)]])) 2 (.row false 1 [[.ref 4 (nw R) 0 (nw R)]])) 3 (EA R (Xs t (tR x (pre.map (·.1)))))) 4 (EA R (MR t (tS x (pre.map (·.1))))))⟩) (fun _u=>True) ?_ ?_
  .
   refine AGoR.split 33 rfl (fun hb2=>?_) (fun hb2=>?_)
   .
    refine AGoR.cond_true true rfl rfl ?_;have hsp:0<=t.sets:=by simpa using hb2
    have hs1:t.sets<R:=by have:=hin.1 (ED (by simpa using hb2));rw[GS (ED (by simpa using hb2))];omega
    refine AGoR.seq ?_;refine AGoR.region rfl ?_;refine wk 2 ?_;refine ax 36 (Wj (rrm_okI 3 R t.sets (tR x (pre.map (·.1))) hsp hs1 hR) [3] [(3,(EA R (fun v=>(tR x (pre.map (·.1))) v&& !(v==t.sets.toNat))))] rfl Tryz.func108 (by kernel_rfl) rfl rfl rfl ⟨⟨_,rfl,rfl⟩,trivial⟩ rfl (AJ rfl (BF _)) ⟨⟨_,rfl,rfl,rfl⟩,trivial⟩ rfl) ?_;refine an ?_;refine AGoR.region rfl ?_;refine wk 2 ?_;refine ax 39 (Wj (NZ 4 R t.sets (tS x (pre.map (·.1))) hsp hs1 hR) [4] [(4,(EA R (fun v=>(tS x (pre.map (·.1))) v||v==t.sets.toNat)))] rfl Tryz.func106 (by kernel_rfl) rfl rfl rfl ⟨⟨_,rfl,rfl⟩,trivial⟩ rfl (AJ rfl (BF _)) ⟨⟨_,rfl,rfl,rfl⟩,trivial⟩ rfl) ?_;refine an ?_;exact mC
   refine AGoR.cond_false false rfl rfl ?_;have hsp: ¬0<=t.sets:=by simpa using hb2
   refine AGoR.skip ?_;exact mC
  intro _ _;refine AGoR.seq ?_;refine AGoR.region rfl ?_;refine wk 3 ?_;refine aq 43 (MT Ag (AO ht)) ?_;refine wk 1 ?_;refine ax 45 (DX Tryz.func81 (Pm _)) ?_;refine wk 3 ?_;refine AGoR.block ?_;refine AGoR.loopI (γ:=Nat) (fun k=>⟨57,(Aa (Aa (Aa (Aa (Aa (Aa (Aa (Aa Ba 2 (.ptr 0 1 0 0)) 4 (.ptr 1 1 0 0)) 5 (.ptr 2 1 0 0)) 25 (.int .i64 (q.1:Int))) 6 (.int .i64 (q.1:Int))) 45 (AZ t.uses)) 46 (.int .i64 (t.uses.length:Int))) 47 (.int .i64 (k:Int))),(hput (hput (hput (hput (hput hNone 0 (.row false 5 [x.cells])) 1 (.row false 1 [[.ref 3 (nw R) 0 (nw R)]])) 2 (.row false 1 [[.ref 4 (nw R) 0 (nw R)]])) 3 (EA R (G5 (t.uses.take k) (Xs t (tR x (pre.map (·.1))))))) 4 (EA R (MR t (tS x (pre.map (·.1))))))⟩) (fun k=>True) (fun k=>t.uses.length-k) 0 (Sub.mk' (by repeat(first | exact ESub.new _ | refine ESub.put ?_ (by first | rfl | exact congrArg (fun(n:Nat)=>some (AV.int .i64 (n:Int))) (by simp) | exact congrArg (fun n:Nat=>some (AV.int .i64 (n:Int))) (by simp)))) (by repeat(first | exact HSub.refl _ | exact HSub.none _ | exact AH _ | exact AF GO | refine HSub.put ?_ (by first | rfl | exact CW (fun v=>by rw[List.take_zero];exact az v)) | refine AG ?_ GO | refine Br ?_ (by decide)))) trivial ?_
  intro k _;refine AGoR.seq ?_;refine AGoR.region rfl ?_;refine wk 2 ?_;refine AGoR.seq ?_;refine AGoR.split 48 rfl (fun hb3=>?_) (fun hb3=>?_)
  .
   refine AGoR.cond_true true rfl rfl ?_;have hkl:k<t.uses.length:=by have h:=hb3;simp[AZ]at h;exact h
   obtain⟨u,hu⟩:=Ae hkl;have hub:=hin.2 u (List.mem_of_getElem? hu);refine AGoR.skip ?_;refine AGoR.seq ?_;refine AGoR.block ?_;refine AGoR.seq ?_;refine AGoR.region rfl ?_;refine aq 49 (MT Ag (AO hu)) ?_;refine wk 3 ?_;refine AGoR.region rfl ?_;refine wk 2 ?_;refine ax 53 (Wj (NZ 3 R u (G5 (t.uses.take k) (Xs t (tR x (pre.map (·.1))))) hub.1 hub.2 hR) [3] [(3,(EA R (fun v=>(G5 (t.uses.take k) (Xs t (tR x (pre.map (·.1))))) v||v==u.toNat)))] rfl Tryz.func106 (by kernel_rfl) rfl rfl rfl ⟨⟨_,rfl,rfl⟩,trivial⟩ rfl (AJ rfl (BF _)) ⟨⟨_,rfl,rfl,rfl⟩,trivial⟩ rfl) ?_;refine an ?_;refine AGoR.region rfl ?_;refine aq 54 (Bk rfl rfl hkl (by have:=Ky t;simp only[maxLen];omega)) ?_;refine wk 2 ?_;exact⟨k+1,Sub.mk' Ci (by repeat(first | exact HSub.refl _ | exact HSub.none _ | exact AH _ | exact AF GO | refine HSub.put ?_ (by first | rfl | exact CW (WP hu hub.1)) | refine AG ?_ GO | refine Br ?_ (by decide))),trivial,by omega⟩
  refine AGoR.cond_false false rfl rfl ?_;have hge:t.uses.length<=k:=by have h:=hb3;simp[AZ]at h;omega
  refine AGoR.exit ?_;show HSub _ _;exact(by repeat(first | exact HSub.refl _ | exact HSub.none _ | exact AH _ | exact AF GO | refine HSub.put ?_ (by first | rfl | exact CW (fun v=>by rw[List.map_append,List.take_of_length_le hge];exact(congrFun (gc ht) v).symm) | exact CW (fun v=>by rw[List.map_append];exact(congrFun (gb ht) v).symm)) | refine AG ?_ GO | refine Br ?_ (by decide)))
 intro xs hS;dsimp only;rw[hS];refine AD.ghost hr (.freezeCell 1 0 0 3 rfl rfl rfl rfl (Bj _ _).symm (by decide)) ?_;refine AD.ghost hr (.freezeCell 2 0 0 4 rfl rfl rfl rfl (Bj _ _).symm (by decide)) ?_;rw[P3,P3];refine iR Ag mix hr (by intro i o ho;rcases i with _ | _ | _ | _ | i<;>first |(cases ho;rfl) |(simp at ho)) fP ?_;refine wk 5 ?_;refine⟨fP,[.lst false _,.lst false _],⟨⟨_,_,_,_,rfl,rfl,.ptr _ _ _ _ _ _ _ _ rfl rfl rfl,rfl⟩,⟨_,_,_,_,rfl,rfl,.ptr _ _ _ _ _ _ _ _ rfl rfl rfl,rfl⟩,trivial⟩,?_,HSub.none _⟩;rw[show Bt R (JV x)=_ from(DT (ky x)).symm,show Bt R (fun v=>CO v x.ins)=_ from(DT (tS_all x)).symm];rfl
end Go.Proofs.YtbbfelelocccmaaGreat.Sv
namespace Go.Proofs.YtbbfelelocccmaaGreat.Sv
open Go
theorem W4(f:BFunc)(R:Nat)(es:List (List AV))(len:Nat)(w:Nat->Bool)(F:Nat->AObj)(b:Nat)(hb:b<f.blocks.length)(hn:f.blocks.length<=100000)(hl:len<=es.length)(he:es.length<=f.blocks.length):ACall Tryz.prog 90 [.ptr 2 1 0 0,.int .i64 (b:Int)] (HS f R (es) (len) (w) F) (fun r h'=>r= .tup []/\HSub (HS f R (C3 w es len b) (DN w len b) (Cx w b true) F) h'):=by
 refine ACall.of_body (n:=28) Ag Tryz.func90 rfl rfl ?_;refine wk 7 ?_;refine aq 9 (Ab Ag rfl rfl rfl rfl rfl rfl rfl (An _ _).symm rfl (Int.natCast_nonneg _) (by omega)) ?_;refine aq 10 (At Ag rfl rfl rfl (.ptr _ _ _ _ _ _ _ [.bool (w b)] rfl (An _ _).symm Lp) rfl) ?_;refine wk 2 ?_;refine asp 11 (fun hb1=>?_) fun hb1=>?_
 .
  refine act ?_;have hwb:w b=false:=by have h:=hb1;simpa using h
  refine wk 7 ?_;refine aq 17 (Ab Ag rfl rfl rfl rfl rfl rfl rfl (An _ _).symm rfl (Int.natCast_nonneg _) (by omega)) ?_;refine AOps.w rfl rfl (o_store Ag rfl rfl rfl rfl rfl rfl (An _ _).symm Lp rfl (by decide) rfl DG) ?_;refine wk 8 ?_;refine ax 24 (Cp Ag rfl rfl rfl rfl rfl rfl (by decide) rfl rfl rfl rfl rfl rfl) ?_;refine ax 25 (LM Ag (es:=es) rfl rfl rfl rfl rfl rfl rfl rfl rfl rfl hl rfl rfl (Nat.zero_lt_succ _) (.lst _ _) rfl (fun _=>rfl) (by show _*8<=_;omega) (by simp only[maxLen];omega)) ?_;refine wk 4 ?_;have e1:C3 w es len b=CY es len (BH b):=by unfold C3;rw[hwb];rfl
  have e2:DN w len b=len+1:=by unfold DN;rw[hwb];rfl
  rw[e1,e2];exact⟨[],trivial,rfl,(B1 (k0:=10) rfl (by repeat(first | exact trivial | refine⟨⟨by first | rfl | exact congrArg (fun es=>some (AObj.row true 1 es)) (H8 true),by first | rfl | exact Ad (fun _ _=>CP _ _ _ _) | exact Ad (fun _ _=>CM _ _ _)⟩,?_⟩)) FX Kt)⟩
 refine acf ?_;have hwb:w b=true:=by have h:=hb1;simpa using h
 refine fH ?_;have e1:C3 w es len b=es:=by unfold C3;rw[hwb];rfl
 have e2:DN w len b=len:=by unfold DN;rw[hwb];rfl
 rw[e1,e2,Hl hwb];exact⟨[],trivial,rfl,(B1 (k0:=10) rfl Rv FX Kt)⟩
theorem ij(f:BFunc)(hs:f.sane)(R:Nat)(hR:R<=100000)(es:List (List AV))(len:Nat)(w:Nat->Bool)(I O:BB)(r2:Nat->AObj)(h2a: ∀b,(r2 b).avoid (kf 10)=true)(b:Nat)(x:Block)(hx:f.blocks[b]?=some x)(hn:f.blocks.length<=100000):ACall Tryz.prog 89 [.ptr 2 1 0 0,.int .i64 (b:Int)] (HS f R (es) (len) (w) (F3 (rI f.blocks.length R I) (rI f.blocks.length R O) r2)) (fun r h'=>r= .bool (chg (inN x (DW I (O b) x)) (I b) (nw R))/\HSub (HS f R (es) (len) (w) (F3 (rI f.blocks.length R (AY I b ((inN x (DW I (O b) x))))) (rI f.blocks.length R (AY O b (DW I (O b) x))) r2)) h'):=by
 have hb:b<f.blocks.length:=(List.getElem?_eq_some_iff.1 hx).1;have hxm:=List.mem_of_getElem? hx;have hnw:nw R<=100000:=by unfold nw;omega
 refine ACall.of_body (n:=109) Ag Tryz.func89 rfl rfl ?_;refine wk 11 ?_;refine aq 18 (Ab Ag rfl rfl rfl rfl rfl rfl rfl (An _ _).symm rfl (Int.natCast_nonneg _) (by omega)) ?_;refine aq 19 (At Ag rfl rfl rfl (.ptr _ _ _ _ _ _ _ [rG 1 (nw R) b] rfl (An _ _).symm Lp) rfl) ?_;refine wk 11 ?_;refine aq 25 (Au Ag rfl rfl rfl rfl rfl rfl (Int.natCast_nonneg _) (AO (CL hx)) rfl) ?_;refine wk 5 ?_;refine Bc (γ:=Nat) (kf 10) (fun j=>⟨109,(Aa (Aa (Aa (Aa (Aa (Aa (Aa Ba 0 (.ptr 2 1 0 0)) 1 (.int .i64 (b:Int))) 5 (rG 1 (nw R) b)) 6 (.bool false)) 26 (AZ x.nexts)) 27 (.int .i64 (x.nexts.length:Int))) 28 (.int .i64 (j:Int))),(HA (nb [.free,.free,(.row false 8 [fI f (es).length (len)]),(.row false 1 (Ay (rG 0 (nw R)) f.blocks.length)),(.row false 1 (Ay (rG 1 (nw R)) f.blocks.length)),(.row true 1 (bC f.blocks.length (w))),(.row true 1 (es)),(.row false 1 (Ay (Ps (Aw f)) f.blocks.length)),(.row true 1 (f.blocks.map (Vn R))),(.row true 1 (f.blocks.map (Vm R)))]) (F3 (rI f.blocks.length R I) (rI f.blocks.length R (AY O b (LK I (O b) x j))) r2))⟩) (fun j=>True) (fun j=>x.nexts.length-j) 0 (Sub.mk' Ez (B1 (k0:=10) rfl Rv (fun x_=>by(try simp only[hputs]);exact(Ao _ _ _).trans (congrArg some (qi (outP_zero I (O b) x) _))) Kt)) trivial (fun g b hb=>BI (k0:=10) rfl hb) ?_
 intro j _;refine wk 5 ?_;refine asp 29 (fun hb1=>?_) fun hb1=>?_
 .
  refine act ?_;have hjl:j<x.nexts.length:=by have h:=hb1;simp[AZ]at h;exact h
  obtain⟨d,hd⟩:=Ae hjl;have hd0:=hs.next x hxm d (List.mem_of_getElem? hd);have hdn:d.toNat<f.blocks.length:=by omega
  refine wk 5 ?_;refine aq 30 (MT Ag (AO hd)) ?_;refine wk 10 ?_;refine aq 37 (Ab Ag rfl rfl rfl rfl rfl rfl rfl (An _ _).symm rfl hd0.1 (by omega)) ?_;refine aq 38 (At Ag rfl rfl rfl (.ptr _ _ _ _ _ _ _ [rG 0 (nw R) d.toNat] rfl (An _ _).symm (by rw[Nat.zero_add];exact BV hdn)) rfl) ?_;refine wk 4 ?_;refine Bc (γ:=Nat) (kf 10) (fun k=>⟨109,(Aa (Aa (Aa (Aa (Aa (Aa (Aa (Aa (Aa (Aa (Aa Ba 0 (.ptr 2 1 0 0)) 1 (.int .i64 (b:Int))) 5 (rG 1 (nw R) b)) 6 (.bool false)) 26 (AZ x.nexts)) 27 (.int .i64 (x.nexts.length:Int))) 28 (.int .i64 (j:Int))) 8 (.int .i64 d)) 38 (rG 0 (nw R) d.toNat)) 39 (.int .i64 (nw R:Int))) 40 (.int .i64 (k:Int))),(HA (nb [.free,.free,(.row false 8 [fI f (es).length (len)]),(.row false 1 (Ay (rG 0 (nw R)) f.blocks.length)),(.row false 1 (Ay (rG 1 (nw R)) f.blocks.length)),(.row true 1 (bC f.blocks.length (w))),(.row true 1 (es)),(.row false 1 (Ay (Ps (Aw f)) f.blocks.length)),(.row true 1 (f.blocks.map (Vn R))),(.row true 1 (f.blocks.map (Vm R)))]) (F3 (rI f.blocks.length R I) (rI f.blocks.length R (AY O b (Ze (LK I (O b) x j) (I d.toNat) k))) r2))⟩) (fun k=>True) (fun k=>nw R-k) 0 (Sub.mk' Ez (B1 (k0:=10) rfl Rv (fun x_=>by(try simp only[hputs]);exact(Ao _ _ _).trans (congrArg some (bI (DT (cB _ _)) _))) Kt)) trivial (fun g b hb=>BI (k0:=10) rfl hb) ?_
  intro k _;refine wk 5 ?_;refine asp 41 (fun hb2=>?_) fun hb2=>?_
  .
   refine act ?_;have hkl:k<nw R:=by have h:=hb2;simp at h;exact h
   refine wk 6 ?_;refine aq 43 (Ab Ag rfl rfl rfl rfl rfl rfl ((Ao _ _ _).trans (congrArg some (gz hdn))) (Bj _ _).symm rfl (Int.natCast_nonneg _) (by omega)) ?_;refine aq 44 (At Ag rfl rfl rfl (.ptr _ _ _ _ _ _ _ (BA (I d.toNat) k) ((Ao _ _ _).trans (congrArg some (gz hdn))) (Bj _ _).symm (by rw[Nat.zero_add,Int.toNat_natCast];exact(Cr hkl).trans (congrArg some rfl))) rfl) ?_;refine wk 6 ?_;refine aq 47 (Ab Ag rfl rfl rfl rfl rfl rfl ((Ao _ _ _).trans (congrArg some (P9 hb))) (Bj _ _).symm rfl (Int.natCast_nonneg _) (by omega)) ?_;refine aq 48 (At Ag rfl rfl rfl (.ptr _ _ _ _ _ _ _ (BA (LK I (O b) x j) k) ((Ao _ _ _).trans (congrArg some (P9 hb))) (Bj _ _).symm (by rw[Nat.zero_add,Int.toNat_natCast];exact(Cr hkl).trans (congrArg some (XD _ _ _)))) rfl) ?_;refine wk 1 ?_;refine aq 50 (A2 rfl rfl rfl (aU (fun v=>(LK I (O b) x j) (64*k+v)) (fun v=>I d.toNat (64*k+v)))) ?_;refine aq 51 (Ab Ag rfl rfl rfl rfl rfl rfl ((Ao _ _ _).trans (congrArg some (P9 hb))) (Bj _ _).symm rfl (Int.natCast_nonneg _) (by omega)) ?_;refine AOps.w rfl rfl (o_store Ag (es:=Bt R (Ze (LK I (O b) x j) (I d.toNat) k)) (cs:=BA (LK I (O b) x j) k) rfl rfl rfl rfl rfl ((Ao _ _ _).trans (congrArg some (P9 hb))) (Bj _ _).symm (by rw[Nat.zero_add,Int.toNat_natCast];exact(Cr hkl).trans (congrArg some (XD _ _ _))) rfl (by decide) rfl (fun _=>rfl)) ?_;refine wk 2 ?_;refine aq 52 (Bk rfl rfl hkl (by simp only[maxLen];omega)) ?_;refine wk 2 ?_;exact⟨k+1,DropK.mk' (by repeat(first | exact EDropK.new _ _ | refine EDropK.put ?_ (by rfl) (by first | rfl | exact CP _ _ _ _))) (Bm (k0:=10) rfl Rv (fun x_=>by(try simp only[hputs]);(repeat(first | refine AA (by exact Af (by omega)) ?_ | refine hrm_skip (by omega) ?_));exact(DO aP _ _ x_).trans (congrArg some (ce hb (cC _ _ _) x_).symm)) (B9 (fun _=>A0 _) (fun _=>A0 _) h2a)),trivial,by omega⟩
  refine acf ?_;have hkge:nw R<=k:=by have h:=hb2;simp at h;omega
  refine wk 2 ?_;refine aq 53 (Bk rfl rfl hjl (by simp only[maxLen];have:=F8 x;omega)) ?_;refine wk 2 ?_;exact⟨j+1,DropK.mk' (by repeat(first | exact EDropK.new _ _ | refine EDropK.put ?_ (by rfl) (by first | rfl | exact CP _ _ _ _))) (Bm (k0:=10) rfl Rv (fun x_=>by(try simp only[hputs]);exact(Ao _ _ _).trans (congrArg some (bI ((gG _ _ hkge).trans (DT (Zd hd))) _))) (B9 (fun _=>A0 _) (fun _=>A0 _) h2a)),trivial,by omega⟩
 refine acf ?_;have hjge:x.nexts.length<=j:=by have h:=hb1;simp[AZ]at h;omega
 refine wk 9 ?_;refine Bc (γ:=Nat) (kf 10) (fun k=>⟨109,(Aa (Aa (Aa (Aa (Aa (Aa Ba 0 (.ptr 2 1 0 0)) 1 (.int .i64 (b:Int))) 5 (rG 1 (nw R) b)) 6 (.bool (chg (inN x (DW I (O b) x)) (I b) k))) 55 (.int .i64 (nw R:Int))) 56 (.int .i64 (k:Int))),(HA (nb [.free,.free,(.row false 8 [fI f (es).length (len)]),(.row false 1 (Ay (rG 0 (nw R)) f.blocks.length)),(.row false 1 (Ay (rG 1 (nw R)) f.blocks.length)),(.row true 1 (bC f.blocks.length (w))),(.row true 1 (es)),(.row false 1 (Ay (Ps (Aw f)) f.blocks.length)),(.row true 1 (f.blocks.map (Vn R))),(.row true 1 (f.blocks.map (Vm R)))]) (F3 (rI f.blocks.length R (AY I b (HW (inN x (DW I (O b) x)) (I b) k))) (rI f.blocks.length R (AY O b (DW I (O b) x))) r2))⟩) (fun k=>k<=nw R) (fun k=>nw R-k) 0 (Sub.mk' Ez (B1 (k0:=10) rfl Rv (fun x_=>by(try simp only[hputs]);exact(Ao _ _ _).trans (congrArg some (by rw[outP_end hjge];exact qj (Zk _ _) _))) Kt)) (Nat.zero_le _) (fun g b hb=>BI (k0:=10) rfl hb) ?_
 intro k hkn;refine wk 5 ?_;refine asp 57 (fun hb3=>?_) fun hb3=>?_
 .
  refine act ?_;have hkl:k<nw R:=by have h:=hb3;simp at h;exact h
  refine wk 15 ?_;refine dq 64 (Ab Ag rfl rfl rfl rfl rfl rfl rfl (List.length_map _).symm rfl (Int.natCast_nonneg _) (by omega)) ?_;refine dq 65 (At Ag rfl rfl rfl (.ptr _ _ _ _ _ _ _ (Vn R x) rfl (List.length_map _).symm (by rw[Nat.zero_add,Int.toNat_natCast,List.getElem?_map,hx];rfl)) rfl) ?_;refine wk 1 ?_;refine dq 67 (Au Ag rfl rfl rfl rfl rfl rfl (Int.natCast_nonneg _) (by rw[Int.toNat_natCast];exact Cr hkl) rfl) ?_;refine wk 3 ?_;refine dq 71 (Ab Ag rfl rfl rfl rfl rfl rfl ((Ao _ _ _).trans (congrArg some (P9 hb))) (Bj _ _).symm rfl (Int.natCast_nonneg _) (by omega)) ?_;refine dq 72 (At Ag rfl rfl rfl (.ptr _ _ _ _ _ _ _ (BA (DW I (O b) x) k) ((Ao _ _ _).trans (congrArg some (P9 hb))) (Bj _ _).symm (by rw[Nat.zero_add,Int.toNat_natCast];exact(Cr hkl).trans (congrArg some rfl))) rfl) ?_;refine wk 5 ?_;refine dq 78 (Ab Ag rfl rfl rfl rfl rfl rfl rfl (List.length_map _).symm rfl (Int.natCast_nonneg _) (by omega)) ?_;refine dq 79 (At Ag rfl rfl rfl (.ptr _ _ _ _ _ _ _ (Vm R x) rfl (List.length_map _).symm (by rw[Nat.zero_add,Int.toNat_natCast,List.getElem?_map,hx];rfl)) rfl) ?_;refine wk 1 ?_;refine dq 81 (Au Ag rfl rfl rfl rfl rfl rfl (Int.natCast_nonneg _) (by rw[Int.toNat_natCast];exact Cr hkl) rfl) ?_;refine wk 1 ?_;refine dq 83 (A2 rfl rfl rfl (PX (fun v=>(DW I (O b) x) (64*k+v)) (fun v=>CO (64*k+v) x.ins))) ?_;refine dq 84 (A2 rfl rfl rfl (aU (fun v=>JV x (64*k+v)) (fun v=>(DW I (O b) x) (64*k+v)&& !CO (64*k+v) x.ins))) ?_;refine wk 10 ?_;refine aq 91 (Ab Ag rfl rfl rfl rfl rfl rfl rfl (An _ _).symm rfl (Int.natCast_nonneg _) (by omega)) ?_;refine aq 92 (At Ag rfl rfl rfl (.ptr _ _ _ _ _ _ _ [rG 0 (nw R) b] rfl (An _ _).symm Lp) rfl) ?_
  refine wk 1 ?_;refine aq 94 (Ab Ag rfl rfl rfl rfl rfl rfl ((Ao _ _ _).trans (congrArg some (Xu hb))) (Bj _ _).symm rfl (Int.natCast_nonneg _) (by omega)) ?_;refine aq 95 (At Ag rfl rfl rfl (.ptr _ _ _ _ _ _ _ (BA (I b) k) ((Ao _ _ _).trans (congrArg some (Xu hb))) (Bj _ _).symm (by rw[Nat.zero_add,Int.toNat_natCast];exact(Cr hkl).trans (congrArg some (Ue _ _ _)))) rfl) ?_;refine wk 2 ?_;refine asp 96 (fun hb4=>?_) fun hb4=>?_
  .
   refine act ?_;have hne:(PC (inN x (DW I (O b) x)) k !=PC (I b) k)=true:=cY hb4;refine wk 7 ?_;refine aq 102 (Ab Ag rfl rfl rfl rfl rfl rfl rfl (An _ _).symm rfl (Int.natCast_nonneg _) (by omega)) ?_;refine aq 103 (At Ag rfl rfl rfl (.ptr _ _ _ _ _ _ _ [rG 0 (nw R) b] rfl (An _ _).symm Lp) rfl) ?_;refine wk 2 ?_;refine aq 106 (Ab Ag rfl rfl rfl rfl rfl rfl ((Ao _ _ _).trans (congrArg some (Xu hb))) (Bj _ _).symm rfl (Int.natCast_nonneg _) (by omega)) ?_;refine AOps.w rfl rfl (o_store Ag (es:=Bt R (HW (inN x (DW I (O b) x)) (I b) k)) (cs:=BA (I b) k) rfl rfl rfl rfl rfl ((Ao _ _ _).trans (congrArg some (Xu hb))) (Bj _ _).symm (by rw[Nat.zero_add,Int.toNat_natCast];exact(Cr hkl).trans (congrArg some (Ue _ _ _))) rfl (by decide) rfl (fun _=>rfl)) ?_;refine wk 5 ?_;refine aq 107 (Bk rfl rfl hkl (by simp only[maxLen];omega)) ?_;refine wk 2 ?_;exact⟨k+1,DropK.mk' m3 (Bm (k0:=10) rfl Rv (fun x_=>by(try simp only[hputs]);(repeat(first | refine AA (by exact Af (by omega)) ?_ | refine hrm_skip (by omega) ?_));exact(DO aP _ _ x_).trans (congrArg some (cf hb (dc _ _ _) x_).symm)) (B9 (fun _=>A0 _) (fun _=>A0 _) h2a)),hkl,by omega⟩
  refine acf ?_;have heq:PC (inN x (DW I (O b) x)) k=PC (I b) k:=ah (cY hb4);refine wk 2 ?_;refine aq 107 (Bk rfl rfl hkl (by simp only[maxLen];omega)) ?_;refine wk 2 ?_;exact⟨k+1,DropK.mk' m3 (Bm (k0:=10) rfl Rv (fun x_=>by(try simp only[hputs]);exact(Ao _ _ _).trans (congrArg some (bJ (DT (Zl heq)) _))) (B9 (fun _=>A0 _) (fun _=>A0 _) h2a)),hkl,by omega⟩
 refine acf ?_;have hkge:nw R<=k:=by have h:=hb3;simp at h;omega
 refine wk 7 ?_;refine⟨[_],⟨rfl,trivial⟩,?_,(B1 (k0:=10) rfl Rv (fun x_=>by(try simp only[hputs]);exact(Ao _ _ _).trans (congrArg some (bJ (de _ _ hkge) _))) Kt)⟩;show AV.bool _=AV.bool _;congr 2;omega
theorem Si(f:BFunc)(hn:f.blocks.length<=100000):APure Tryz.prog 80 [.agg f.cells] (fun r=>r=A1 f.nexts):=by
 refine APure.of_body (n:=40) Ag Tryz.func80 rfl rfl ?_;refine Nk ?_;refine ax 1 (GW 2 0) ?_;refine wk 7 ?_;refine ax 9 (AB Ag (n:=f.blocks.length) (m:=f.blocks.length) 1 true rfl rfl rfl (by simp) (by simp) rfl rfl rfl rfl rfl (Nat.zero_lt_succ _) rfl (Nat.le_refl _) (by show 24*f.blocks.length<=_;omega) (by simp only[maxLen];omega)) ?_;refine wk 4 ?_;refine AGo.ghost (PT 1 (es':=List.replicate f.blocks.length [.lst false []]) rfl (by simp) (Yu _)) ?_;refine wk 7 ?_;refine Bi (γ:=Nat) 2 (fun k=>⟨40,(Aa (Aa (Aa (Aa Ba 3 (.ref 1 f.blocks.length 0 f.blocks.length)) 11 (B8 f.blocks)) 12 (.int .i64 (f.blocks.length:Int))) 13 (.int .i64 (k:Int))),(hput (hput (BM 2) 0 (.row false 2 [f.cells])) 1 (.row true 1 (((f.nexts.take (k)).map pathCell)++List.replicate (f.blocks.length-(k)) [.lst false []])))⟩) (fun k=>k<=f.blocks.length) (fun k=>f.blocks.length-k) 0 (Sub.mk' Ez Ru) (Nat.zero_le _) (fun _=>Ah (Ah (fun b hb=>A9 hb) rfl) rfl) ?_
 intro k hk;refine wk 5 ?_;refine asp 14 (fun hb1=>?_) fun hb1=>?_
 . -- True
   refine act ?_;have hkl:k<f.blocks.length:=by simpa using hb1
   obtain⟨x,hx⟩:=Ae hkl;have hnx:=CL hx;refine wk 6 ?_;refine aq 16 (Au Ag rfl rfl rfl rfl rfl rfl (Int.natCast_nonneg _) (AO (by assumption)) rfl) ?_;refine wk 1 ?_;refine ax 5 (EU Ag 2) ?_;refine wk 14 ?_;refine asp 20 (fun hb2=>?_) fun hb2=>?_
   . -- True
     refine wk 6 ?_;refine ax 26 (Cp Ag rfl rfl rfl rfl rfl rfl (by decide) rfl rfl rfl rfl rfl rfl) ?_;refine aq 27 (Ab Ag rfl rfl rfl rfl rfl rfl rfl (AE (AK f) (Nat.le_of_lt hkl)) rfl (Int.natCast_nonneg _) (by omega)) ?_;exact l8
   . -- False
     refine wk 6 ?_;refine asp 28 (fun hb3=>?_) fun hb3=>?_
     . -- True
       refine wk 8 ?_;refine ax 36 (Cp Ag rfl rfl rfl rfl rfl rfl (by decide) rfl rfl rfl rfl rfl rfl) ?_;refine aq 37 (Ab Ag rfl rfl rfl rfl rfl rfl rfl (AE (AK f) (Nat.le_of_lt hkl)) rfl (Int.natCast_nonneg _) (by omega)) ?_;exact l8
     . -- False
       refine wk 3 ?_;exact mW
 . -- False
   refine acf ?_;have hge:f.blocks.length<=k:=by simpa using hb1
   refine wk 2 ?_;refine AGo.ghost (.freeze 3 1 rfl rfl (AE (AK f) hk)) ?_;refine wk 4 ?_;refine GN ⟨[_],⟨rfl,trivial⟩,?_,rfl⟩;show AV.lst false _=AV.lst false _;rw[CT (AK f) hge];rfl
theorem Tr(f:BFunc)(hs:f.sane)(R:Nat)(hRf:f.regs=(R:Int))(hR:R<=100000)(hn0:0<f.blocks.length)(hn:f.blocks.length<=100000)(hi: ∀x∈f.blocks,x.ins.length<=100000):ACall Tryz.prog 88 [.agg f.cells] hNew (fun r h'=>r= .ptr 2 1 0 0/\HSub (KL hNone (HS f R ((List.range f.blocks.length).map BH) f.blocks.length (fun b=>decide (b<f.blocks.length)) (F3 (rI f.blocks.length R B0) (rI f.blocks.length R B0) (rA f.blocks.length (Aw f))))) h'):=by
 refine ACall.of_body (n:=121) Ag Tryz.func88 rfl rfl ?_;refine Nk ?_;refine ax 1 (GW 2 0) ?_;refine wk 12 ?_;refine dx 16 (DX Tryz.func80 (Si _ (by assumption))) ?_;refine wk 1 ?_;refine dx 18 (AB Ag (n:=f.blocks.length) (m:=f.blocks.length) 7 false rfl rfl rfl (by simp) (by simp) rfl rfl rfl rfl rfl (Nat.zero_lt_succ _) rfl (Nat.le_refl _) (by show 24*f.blocks.length<=_;omega) (by simp only[maxLen];omega)) ?_;refine wk 1 ?_;refine dx 20 (AB Ag (n:=f.blocks.length) (m:=f.blocks.length) 5 true rfl rfl rfl (by simp) (by simp) rfl rfl rfl rfl rfl (Nat.zero_lt_succ _) rfl (Nat.le_refl _) (by show 1*f.blocks.length<=_;omega) (by simp only[maxLen];omega)) ?_;refine wk 1 ?_;refine dx 22 (GW 8 2) ?_;refine wk 4 ?_;refine AGo.ghost (CI 2 (es':=[qN f R 0]) rfl rfl (Nq ⟨Wk.refl _,Wk.refl _,Wk.nil _,Wk.nil _,Wk.nil _,Wk.nil _,Wk.refl _,Wk.refl _,trivial⟩)) ?_;refine AGo.ghost (CI 7 (es':=Ay (Ps (fun _=>[])) f.blocks.length) rfl (by rw[An,List.length_replicate]) (weak_col fun b=>Wk.nil _)) ?_;refine wk 9 ?_;refine Bc (γ:=Nat) (kf 10) (fun k=>⟨121,(Aa (Aa (Aa (Aa (Aa (Aa Ba 1 (.ptr 0 1 0 0)) 3 (.int .i64 (f.blocks.length:Int))) 4 (.ptr 2 1 0 0)) 26 (A1 f.nexts)) 27 (.int .i64 (f.blocks.length:Int))) 28 (.int .i64 (k:Int))),(HA (nb [(.row false 2 [f.cells]),.free,(.row false 8 [qN f R k]),(PE 1 (Ay (rG 0 (nw R)) k)),(PE 1 (Ay (rG 1 (nw R)) k)),(.row true 1 (bC f.blocks.length (fun _=>false))),.free,(.row false 1 (Ay (Ps (aheadP f k 0)) f.blocks.length)),(Ie 1 ((f.blocks.take k).map (Vn R))),(Ie 1 ((f.blocks.take k).map (Vm R)))]) (F3 (rI k R B0) (rI k R B0) (rA f.blocks.length (aheadP f k 0))))⟩) (fun k=>k<=f.blocks.length) (fun k=>f.blocks.length-k) 0 (Sub.mk' m5 (B1 (k0:=10) rfl (by repeat(first | exact trivial | refine⟨⟨by first | rfl | exact congrArg (fun es=>some (AObj.row true 1 es)) (HE _ _) | exact congrArg (fun A=>some (AObj.row false 1 (Ay (Ps A) f.blocks.length))) (funext fun c=>(Di f 0 c).symm),by first | rfl | exact Jl f R (by decide) | exact Dy _ _ | exact Jk (fun _ _=>CP _ _ _ _) | exact Ad (fun _ _=>CM _ _ _)⟩,?_⟩)) (fun x_=>by rw[TG (Di f 0)];(try simp only[hputs]);(repeat(first | refine AA (by exact Af (by omega)) ?_ | refine hrm_skip (by omega) ?_));exact congrArg some rI_start.symm) Kt)) (Nat.zero_le _) (fun g b hb=>BI (k0:=10) rfl hb) ?_
 intro k hk;refine wk 5 ?_;refine asp 29 (fun hb1=>?_) fun hb1=>?_
 .
  refine act ?_;have hkl:k<f.blocks.length:=by have h:=hb1;simp at h;exact h
  obtain⟨x,hx⟩:=Ae hkl;have hxm:=List.mem_of_getElem? hx;refine wk 6 ?_;refine aq 31 (Au Ag rfl rfl rfl rfl rfl rfl (Int.natCast_nonneg _) (AO (CL hx)) rfl) ?_;refine wk 12 ?_;refine Bc (γ:=Nat) (kf 10) (fun j=>⟨121,(Aa (Aa (Aa (Aa (Aa (Aa (Aa (Aa (Aa (Aa Ba 1 (.ptr 0 1 0 0)) 3 (.int .i64 (f.blocks.length:Int))) 4 (.ptr 2 1 0 0)) 26 (A1 f.nexts)) 27 (.int .i64 (f.blocks.length:Int))) 28 (.int .i64 (k:Int))) 5 (.int .i64 (k:Int))) 33 (AZ x.nexts)) 34 (.int .i64 (x.nexts.length:Int))) 35 (.int .i64 (j:Int))),(HA (nb [(.row false 2 [f.cells]),.free,(.row false 8 [qN f R k]),(PE 1 (Ay (rG 0 (nw R)) k)),(PE 1 (Ay (rG 1 (nw R)) k)),(.row true 1 (bC f.blocks.length (fun _=>false))),.free,(.row false 1 (Ay (Ps (aheadP f k j)) f.blocks.length)),(Ie 1 ((f.blocks.take k).map (Vn R))),(Ie 1 ((f.blocks.take k).map (Vm R)))]) (F3 (rI k R B0) (rI k R B0) (rA f.blocks.length (aheadP f k j))))⟩) (fun j=>True) (fun j=>x.nexts.length-j) 0 (Sub.mk' Ez (B1 (k0:=10) rfl (by repeat(first | exact trivial | refine⟨⟨by rfl,by first | rfl | exact Jl f R (by decide) | exact Dy _ _ | exact Jk (fun _ _=>CP _ _ _ _) | exact Ad (fun _ _=>CM _ _ _)⟩,?_⟩)) FX Kt)) trivial (fun g b hb=>BI (k0:=10) rfl hb) ?_
  intro j _;refine wk 5 ?_;refine asp 36 (fun hb2=>?_) fun hb2=>?_
  .
   refine act ?_;have hjl:j<x.nexts.length:=by have h:=hb2;simp[AZ]at h;exact h
   obtain⟨d,hd⟩:=Ae hjl;have hd0:=hs.next x hxm d (List.mem_of_getElem? hd);have hdn:d.toNat<f.blocks.length:=by omega
   refine wk 5 ?_;refine aq 37 (MT Ag (AO hd)) ?_;refine wk 14 ?_;refine dq 49 (Ab Ag rfl rfl rfl rfl rfl rfl rfl (An _ _).symm rfl hd0.1 (by omega)) ?_;refine dq 50 (At Ag rfl rfl rfl (.ptr _ _ _ _ _ _ _ [Ps (aheadP f k j) d.toNat] rfl (An _ _).symm (by rw[Nat.zero_add];exact BV hdn)) rfl) ?_;refine wk 1 ?_;refine dx 52 (Cp Ag rfl rfl rfl rfl rfl rfl (by decide) rfl rfl rfl rfl rfl rfl) ?_;refine dx 53 (o_append1J Ag (b:=3*d.toNat+2+16) (es:=(aheadP f k j d.toNat).map BH) rfl rfl rfl rfl rfl rfl rfl rfl ((Ao _ _ _).trans (congrArg some (kU hdn))) rfl rfl (Nat.zero_lt_succ _) (Jv fun _=>rfl) (Gv fun _=>rfl) rfl rfl (by rw[List.length_map];have:=GI f k j d.toNat;show(_+1)*8<=_;omega) (by rw[List.length_map];have:=GI f k j d.toNat;simp only[maxLen];omega)) ?_;refine dq 54 (Ab Ag rfl rfl rfl rfl rfl rfl rfl (An _ _).symm rfl hd0.1 (by omega)) ?_;refine DOps.w rfl rfl (o_store1 Ag (p:=false) (sz:=1) (es:=Ay (Ps (aheadP f k j)) f.blocks.length) (cs:=[Ps (aheadP f k j) d.toNat]) rfl rfl rfl rfl rfl rfl BC (An _ _).symm (by rw[Nat.zero_add];exact BV hdn) (Dz _ _) (by decide) (DA _ _) (by intro h;cases h)) ?_;refine Fh Dp [([],[]),([],[]),([],[]),([2],[]),([],[]),([],[]),([],[]),([],[]),([2],[]),([],[]),([7],[]),([7],[]),([],[]),([],[]),([18],[18]),([7],[]),([7],[7])] m6 (by kernel_rfl) ?_;refine Ya ?_;refine aq 55 (Bk rfl rfl hjl (by simp only[maxLen];have:=F8 x;omega)) ?_;refine wk 2 ?_;exact⟨j+1,DropK.mk' Im (Bm (k0:=10) rfl (by repeat(first | exact trivial | refine⟨⟨by first | rfl | exact congrArg (fun es=>some (AObj.row false 1 es)) (lL (G3 hx hd hd0.1)),by first | rfl | exact Jl f R (by decide) | exact Dy _ _ | exact Jk (fun _ _=>CP _ _ _ _) | exact Ad (fun _ _=>CM _ _ _)⟩,?_⟩)) (fun x_=>by(try simp only[hputs]);(repeat(first | refine AA (by exact Af (by omega)) ?_ | refine hrm_skip (by omega) ?_));exact(DO aP _ _ x_).trans (congrArg some (kT hdn (G3 hx hd hd0.1) x_).symm)) (B9 (fun _=>A0 _) (fun _=>A0 _) (fun _=>CC _))),trivial,by omega⟩
  refine acf ?_;have hjge:x.nexts.length<=j:=by have h:=hb2;simp[AZ]at h;omega
  refine wk 6 ?_;refine dq 60 (MT Ag (AO hx)) ?_;refine wk 3 ?_;refine dx 64 (LN (r:=.tup [.lst false (Bt R (JV x)),.lst false (Bt R (fun v=>CO v x.ins))]) (hc:=hNew) (hw:=hNone) [] [] rfl Tryz.func97 (by kernel_rfl) rfl rfl rfl trivial rfl (BF _) trivial rfl (by rw[hRf];exact Tk x R hR (hi x hxm) (fun t ht=>by rw[<-hRf];exact hs.low x hxm t ht) (fun e=>by rw[<-hRf];exact hs.fin x hxm e))) ?_;refine wk 1 ?_;refine dq 65 (LH rfl rfl rfl) ?_;refine dq 66 (LH rfl rfl rfl) ?_;refine wk 11 ?_;refine ax 73 (Cp Ag rfl rfl rfl rfl rfl rfl (by decide) rfl rfl rfl rfl rfl rfl) ?_;refine ax 74 (o_append1J Ag (b:=8) (es:=(f.blocks.take k).map (Vn R)) rfl rfl rfl rfl rfl rfl rfl rfl BC rfl rfl (Nat.zero_lt_succ _) (Jv fun _=>rfl) (Gv fun _=>rfl) rfl rfl (by rw[List.length_map,List.length_take];show(_+1)*24<=_;omega) (by rw[List.length_map,List.length_take];simp only[maxLen];omega)) ?_;refine wk 2 ?_;refine AOps.w rfl rfl (o_store1 Ag rfl rfl rfl rfl rfl rfl rfl rfl rfl (Dz _ _) (by decide) (DA _ _) (by intro h;cases h)) ?_;refine wk 9 ?_;refine ax 83 (Cp Ag rfl rfl rfl rfl rfl rfl (by decide) rfl rfl rfl rfl rfl rfl) ?_;refine ax 84 (o_append1J Ag (b:=9) (es:=(f.blocks.take k).map (Vm R)) rfl rfl rfl rfl rfl rfl rfl rfl BC rfl rfl (Nat.zero_lt_succ _) (Jv fun _=>rfl) (Gv fun _=>rfl) rfl rfl (by rw[List.length_map,List.length_take];show(_+1)*24<=_;omega) (by rw[List.length_map,List.length_take];simp only[maxLen];omega)) ?_
  refine wk 2 ?_;refine AOps.w rfl rfl (o_store1 Ag rfl rfl rfl rfl rfl rfl rfl rfl rfl (Dz _ _) (by decide) (DA _ _) (by intro h;cases h)) ?_;refine wk 10 ?_;refine dx 94 (Qo (q:=EA R (fun _=>false)) (r:=.ref (3*k+0+16) (nw R) 0 (nw R)) (3*k+0+16) rfl Tryz.func98 (by kernel_rfl) rfl rfl rfl (by(try simp only[hputs]);(repeat(first | refine AA (by exact Af (by omega)) ?_ | refine hrm_skip (by omega) ?_));exact(Ao _ _ _).trans (congrArg some gy)) rfl (by show mem _ _=true;exact KV _) (by rw[hRf];exact KF (3*k+0+16) R hR)) ?_;refine dx 95 (o_litRow Ag 10 false rfl rfl rfl rfl rfl rfl (by decide) BC rfl rfl rfl (by intro h;cases h) rfl rfl) ?_;refine dx 96 (Kg Ag (b:=3) (es:=Ay (rG 0 (nw R)) k) (x0:=[rG 0 (nw R) k]) rfl rfl rfl rfl rfl rfl rfl rfl BC rfl rfl (Nat.zero_lt_succ _) (Xf (p:=false) (sz:=1) BC rfl) rfl (by rw[An];show _*24<=_;omega) (by rw[An];simp only[maxLen];omega)) ?_
  refine wk 2 ?_;refine DOps.w rfl rfl (o_store1 Ag rfl rfl rfl rfl rfl rfl rfl rfl rfl (Dz _ _) (by decide) (DA _ _) (by intro h;cases h)) ?_;refine Fh Dp [([],[]),([],[]),([],[]),([],[]),([2],[]),([],[]),([0],[]),([16],[16]),([10],[10]),([3,10],[3]),([],[]),([],[]),([2],[2])] m6 (by kernel_rfl) ?_;refine wk 8 ?_;refine dx 106 (Qo (q:=EA R (fun _=>false)) (r:=.ref (3*k+1+16) (nw R) 0 (nw R)) (3*k+1+16) rfl Tryz.func98 (by kernel_rfl) rfl rfl rfl (by(try simp only[hputs]);(repeat(first | refine AA (by exact Af (by omega)) ?_ | refine hrm_skip (by omega) ?_));exact(Ao _ _ _).trans (congrArg some gv)) rfl (by show mem _ _=true;exact KV _) (by rw[hRf];exact KF (3*k+1+16) R hR)) ?_;refine dx 107 (o_litRow Ag 11 false rfl rfl rfl rfl rfl rfl (by decide) BC rfl rfl rfl (by intro h;cases h) rfl rfl) ?_;refine dx 108 (Kg Ag (b:=4) (es:=Ay (rG 1 (nw R)) k) (x0:=[rG 1 (nw R) k]) rfl rfl rfl rfl rfl rfl rfl rfl BC rfl rfl (Nat.zero_lt_succ _) (Xf (p:=false) (sz:=1) BC rfl) rfl (by rw[An];show _*24<=_;omega) (by rw[An];simp only[maxLen];omega)) ?_;refine wk 2 ?_;refine DOps.w rfl rfl (o_store1 Ag rfl rfl rfl rfl rfl rfl rfl rfl rfl (Dz _ _) (by decide) (DA _ _) (by intro h;cases h)) ?_;refine Fh Dp [([],[]),([],[]),([],[]),([],[]),([2],[]),([],[]),([0],[]),([17],[17]),([11],[11]),([4,11],[4]),([],[]),([],[]),([2],[2])] m6 (by kernel_rfl) ?_;refine Ya ?_;refine aq 111 (Bk rfl rfl hkl (by simp only[maxLen];omega)) ?_;refine wk 2 ?_;exact⟨k+1,DropK.mk' Im (Bm (k0:=10) rfl (by repeat(first | exact trivial | refine⟨⟨by first | rfl | exact congrArg (fun s=>some (AObj.row false 8 [s])) (bD hx) | exact congrArg some (Xg _ _ _).symm | exact congrArg (fun A=>some (AObj.row false 1 (Ay (Ps A) f.blocks.length))) (funext (G4 hx hjge)) | exact congrArg (fun es=>some (Ie 1 es)) (PP hx _),by first | rfl | exact Jl f R (by decide) | exact Dy _ _ | exact Jk (fun _ _=>CP _ _ _ _) | exact Ad (fun _ _=>CM _ _ _)⟩,?_⟩)) (fun x_=>by rw[<-TG (G4 hx hjge)];(try simp only[hputs]);(repeat(first | refine AA (by exact Af (by omega)) ?_ | refine hrm_skip (by omega) ?_));refine(DO (F:=F3 (rI (k+1) R B0) (rI k R B0) (rA f.blocks.length (aheadP f k j))) (fun y_=>?_) _ _ x_).trans (congrArg some (cj x_).symm);(repeat(first | refine AA (by exact Af (by omega)) ?_ | refine hrm_skip (by omega) ?_));exact(DO (fun z_=>by(repeat(first | refine AA (by exact Af (by omega)) ?_ | refine hrm_skip (by omega) ?_));exact Ao _ _ _) _ _ y_).trans (congrArg some (ck y_).symm)) (B9 (fun _=>A0 _) (fun _=>A0 _) (fun _=>CC _))),hkl,by omega⟩
 refine acf ?_;have hge:f.blocks.length<=k:=by have h:=hb1;simp at h;omega
 refine wk 3 ?_;have hkn:k=f.blocks.length:=by omega
 subst hkn;rw[gk hn0,Ts hn0,Ts hn0,List.take_length,Xh hn0,Xh hn0,show aheadP f f.blocks.length 0=Aw f from funext fun c=>Di f _ c];refine AGo.ghost (.dryCell 2 0 6 6 1 true rfl rfl rfl rfl rfl (by decide)) ?_;refine wk 5 ?_;refine Bc (γ:=Nat) (kf 10) (fun k=>⟨121,(Aa (Aa (Aa (Aa (Aa Ba 1 (.ptr 0 1 0 0)) 3 (.int .i64 (f.blocks.length:Int))) 4 (.ptr 2 1 0 0)) 112 (.int .i64 (f.blocks.length:Int))) 113 (.int .i64 (k:Int))),(HA (nb [(.row false 2 [f.cells]),.free,(.row false 8 [fI f ((List.range k).map BH).length (k)]),(.row false 1 (Ay (rG 0 (nw R)) f.blocks.length)),(.row false 1 (Ay (rG 1 (nw R)) f.blocks.length)),(.row true 1 (bC f.blocks.length (fun b=>decide (b<k)))),(.row true 1 ((List.range k).map BH)),(.row false 1 (Ay (Ps (Aw f)) f.blocks.length)),(.row true 1 (f.blocks.map (Vn R))),(.row true 1 (f.blocks.map (Vm R)))]) (F3 (rI f.blocks.length R B0) (rI f.blocks.length R B0) (rA f.blocks.length (Aw f))))⟩) (fun k=>k<=f.blocks.length) (fun k=>f.blocks.length-k) 0 (Sub.mk' Ez (B1 (k0:=10) rfl (by repeat(first | exact trivial | refine⟨⟨by first | rfl | exact congrArg (fun w=>some (AObj.row true 1 (bC _ w))) (funext fun b=>(decide_eq_false (Nat.not_lt_zero b)).symm),by first | rfl | exact Ad (fun _ _=>CP _ _ _ _) | exact Ad (fun _ _=>CM _ _ _)⟩,?_⟩)) FX Kt)) (Nat.zero_le _) (fun g b hb=>BI (k0:=10) rfl hb) ?_
 intro k hk;refine wk 5 ?_;refine asp 114 (fun hb3=>?_) fun hb3=>?_
 .
  refine act ?_;have hkl:k<f.blocks.length:=by have h:=hb3;simp at h;exact h
  refine wk 11 ?_;refine AOps.call 118 (hn:=KL _ (HS f R ((List.range (k+1)).map BH) (k+1) (fun b=>decide (b<k+1)) (F3 (rI f.blocks.length R B0) (rI f.blocks.length R B0) (rA f.blocks.length (Aw f))))) (r:=.tup []) rfl rfl rfl (Of (es:=(List.range k).map BH) (len:=k) (w:=fun b=>decide (b<k)) rfl Tryz.func90 (by kernel_rfl) rfl rfl rfl Tc (fun x_=>Ao _ _ _) (B9 (fun _=>A0 _) (fun _=>A0 _) (fun _=>CC _)) (B9 (fun _=>A0 _) (fun _=>A0 _) (fun _=>CC _)) rfl (by have h:=W4 f R ((List.range k).map BH) k (fun b=>decide (b<k)) (F3 (rI f.blocks.length R B0) (rI f.blocks.length R B0) (rA f.blocks.length (Aw f))) k hkl hn (by simp) (by simp;omega);rw[N4,QL,Lq]at h;exact h)) ?_;refine wk 2 ?_;refine aq 119 (Bk rfl rfl hkl (by simp only[maxLen];omega)) ?_;refine wk 2 ?_;exact⟨k+1,DropK.mk' Im (Bm (k0:=10) rfl aS (fun x_=>(KK _ _ x_).trans (Ao _ _ _)) (B9 (fun _=>A0 _) (fun _=>A0 _) (fun _=>CC _))),hkl,by omega⟩
 refine acf ?_;have hge:f.blocks.length<=k:=by have h:=hb3;simp at h;omega
 refine wk 7 ?_;have hkn:k=f.blocks.length:=by omega
 subst hkn;exact⟨[_],⟨rfl,trivial⟩,rfl,lm Tc (fun x_=>by dsimp only;exact Ao _ _ _)⟩
theorem gZ(f:BFunc)(hs:f.sane)(hn0:0<f.blocks.length)(hn:f.blocks.length<=100000)(hr:f.regs<=100000)(hi: ∀x∈f.blocks,x.ins.length<=100000):APure Tryz.prog 62 [.agg f.cells] (fun r=>r= .agg [NQ (HX f),NQ (HT f)]):=by
 have hr0:=hs.regs;obtain⟨R,hRf⟩: ∃R:Nat,f.regs=(R:Int):=⟨f.regs.toNat,by omega⟩
 have hRt:R=f.regs.toNat:=by omega
 have hR:R<=100000:=by omega
 refine APure.of_body (n:=103) Ag Tryz.func62 rfl rfl ?_;refine Nk ?_;refine ax 1 (GW 2 0) ?_;refine ax 2 (EU Ag 1) ?_;refine wk 4 ?_;refine AOps.call 11 (hn:=KL _ (HS f R ((List.range f.blocks.length).map BH) f.blocks.length (fun b=>decide (b<f.blocks.length)) (F3 (rI f.blocks.length R B0) (rI f.blocks.length R B0) (rA f.blocks.length (Aw f))))) (r:=.ptr 2 1 0 0) rfl rfl rfl (KR (hc:=hNew) (hw:=KL hNone (HS f R ((List.range f.blocks.length).map BH) f.blocks.length (fun b=>decide (b<f.blocks.length)) (F3 (rI f.blocks.length R B0) (rI f.blocks.length R B0) (rA f.blocks.length (Aw f))))) kS rfl Tryz.func88 (by kernel_rfl) rfl rfl rfl (fun b hb=>⟨.free,by have:=M9 hb;(try simp only[hputs]);(repeat(first | refine AA (by exact Af (by omega)) ?_ | refine hrm_skip (by omega) ?_));rfl,rfl⟩) (funext fun b=>by unfold En;cases e:kS b with
  | false=>rfl
  | true=>(have:=M9 e;(try simp only[hputs]);show _=some AObj.free;(repeat(first | refine AA (by exact Af (by omega)) ?_ | refine hrm_skip (by omega) ?_));rfl)) (fun b hb=>Sa hb) (fun b hb=>by obtain⟨q,q1,q2⟩:=Pu (f:=f) (R:=R) (es:=(List.range f.blocks.length).map BH) (len:=f.blocks.length) (w:=fun b=>decide (b<f.blocks.length)) (F:=(F3 (rI f.blocks.length R B0) (rI f.blocks.length R B0) (rA f.blocks.length (Aw f)))) (B9 (fun _=>A0 _) (fun _=>A0 _) (fun _=>CC _)) hb;exact⟨q,(Hr hb).trans q1,(Hr hb).trans q1,q2⟩) rfl (Tr f hs R hRf hR hn0 hn hi)) ?_
 refine wk 4 ?_;refine Bc (γ:=LQ) (kf 10) (fun q=>⟨103,(Aa (Aa (Aa Ba 1 (.ptr 0 1 0 0)) 2 (.ptr 1 1 0 0)) 3 (.ptr 2 1 0 0)),(HA (nb [(.row false 2 [f.cells]),(.row false 2 [[.nil,.nil]]),(.row false 8 [fI f (q.es).length (q.ws.length)]),(.row false 1 (Ay (rG 0 (nw R)) f.blocks.length)),(.row false 1 (Ay (rG 1 (nw R)) f.blocks.length)),(.row true 1 (bC f.blocks.length (q.w))),(.row true 1 (q.es)),(.row false 1 (Ay (Ps (Aw f)) f.blocks.length)),(.row true 1 (f.blocks.map (Vn R))),(.row true 1 (f.blocks.map (Vm R)))]) (F3 (rI f.blocks.length R q.I) (rI f.blocks.length R q.O) (rA f.blocks.length (Aw f))))⟩) (fun q=>LQI f R q) (fun q=>t7 f R q) (tL f.blocks.length) (Sub.mk' Ci (B1 (k0:=10) rfl (by repeat(first | exact trivial | refine⟨⟨by first | rfl | exact Hr rfl |(show some (AObj.row false 8 [fI f ((List.range f.blocks.length).map BH).length f.blocks.length])=some (AObj.row false 8 [fI f ((List.range f.blocks.length).map BH).length (List.range f.blocks.length).length]);rw[List.length_range]),by first | rfl | exact Ad (fun _ _=>CP _ _ _ _) | exact Ad (fun _ _=>CM _ _ _)⟩,?_⟩)) (fun x_=>(KK _ _ x_).trans (Ao _ _ _)) Kt)) (LQI.first f R) (fun g b hb=>BI (k0:=10) rfl hb) ?_
 intro q hQ;obtain⟨I,O,w,ws,es⟩:=q;dsimp only at hQ |-;refine wk 10 ?_;refine asp 17 (fun hb1=>?_) fun hb1=>?_
 .
  refine act ?_;obtain⟨ws',b,hws⟩: ∃ws' b,ws=ws'++[b]:=by
   rcases E2 ws with h | h
   . have h2:=hb1;rw[h]at h2;simp at h2
   . exact h
  subst hws;have hpop:=hQ.wt.pop;have hb:=hpop.2.1;obtain⟨x,hx⟩:=Ae hb;have hxm:=List.mem_of_getElem? hx;have hle:=hQ.wt.le;have hgr:=hQ.k.grow hs hx hRt;refine wk 9 ?_;refine aq 23 (A2 (r:=.int .i64 (ws'.length:Int)) rfl rfl rfl (KO (by have:=hQ.wt.le;simp at this;omega))) ?_;refine wk 9 ?_;refine aq 29 (Ab Ag rfl rfl rfl rfl rfl rfl rfl rfl rfl (Int.natCast_nonneg _) (by simp;omega)) ?_;refine aq 30 (At Ag rfl rfl rfl (.ptr _ _ _ _ _ _ _ (BH b) rfl rfl (by rw[Nat.zero_add,Int.toNat_natCast];exact hQ.st.get)) rfl) ?_;refine wk 10 ?_;refine aq 37 (Fw Ag (es:=es) (m:=ws'.length) rfl rfl rfl rfl rfl rfl rfl rfl rfl (by simp)) ?_;refine wk 11 ?_;refine aq 45 (Ab Ag rfl rfl rfl rfl rfl rfl rfl (An _ _).symm rfl (Int.natCast_nonneg _) (by omega)) ?_;refine AOps.w rfl rfl (o_store Ag rfl rfl rfl rfl rfl rfl (An _ _).symm Lp rfl (by decide) rfl DG) ?_;refine wk 5 ?_;refine AOps.call 48 (hn:=KL _ (HS f R es ws'.length (Cx w b false) (F3 (rI f.blocks.length R (AY I b (inN x (DW I (O b) x)))) (rI f.blocks.length R (AY O b (DW I (O b) x))) (rA f.blocks.length (Aw f))))) (r:=.bool (chg (inN x (DW I (O b) x)) (I b) (nw R))) rfl rfl rfl (Of (es:=es) (len:=ws'.length) (w:=Cx w b false) rfl Tryz.func89 (by kernel_rfl) rfl rfl rfl (by repeat(first | exact trivial | refine⟨by first | rfl | exact congrArg (fun es=>some (AObj.row true 1 es)) (H8 false),?_⟩)) fR (B9 (fun _=>A0 _) (fun _=>A0 _) (fun _=>CC _)) (B9 (fun _=>A0 _) (fun _=>A0 _) (fun _=>CC _)) rfl (ij f hs R hR es ws'.length (Cx w b false) I O (rA f.blocks.length (Aw f)) (fun _=>CC _) b x hx hn)) ?_
  refine an ?_;refine asp 48 (fun hb2=>?_) fun hb2=>?_
  .
   refine act ?_;have hch:chg (inN x (DW I (O b) x)) (I b) (nw R)=true:=hb2;refine wk 7 ?_;refine aq 54 (Ab Ag rfl rfl rfl rfl rfl rfl rfl (An _ _).symm rfl (Int.natCast_nonneg _) (by omega)) ?_;refine aq 55 (At Ag rfl rfl rfl (.ptr _ _ _ _ _ _ _ [Ps (Aw f) b] rfl (An _ _).symm Lp) rfl) ?_;refine aq 56 (FM Ag rfl rfl rfl rfl) ?_;refine wk 3 ?_;refine Bc (γ:=LP) (kf 10) (fun p=>⟨103,(Aa (Aa (Aa (Aa (Aa (Aa (Aa Ba 1 (.ptr 0 1 0 0)) 2 (.ptr 1 1 0 0)) 3 (.ptr 2 1 0 0)) 5 (.int .i64 (b:Int))) 55 (Ps (Aw f) b)) 56 (.int .i64 ((Aw f b).length:Int))) 57 (.int .i64 (p.j:Int))),(HA (nb [(.row false 2 [f.cells]),(.row false 2 [[.nil,.nil]]),(.row false 8 [fI f (p.es).length (p.ws.length)]),(.row false 1 (Ay (rG 0 (nw R)) f.blocks.length)),(.row false 1 (Ay (rG 1 (nw R)) f.blocks.length)),(.row true 1 (bC f.blocks.length (p.w))),(.row true 1 (p.es)),(.row false 1 (Ay (Ps (Aw f)) f.blocks.length)),(.row true 1 (f.blocks.map (Vn R))),(.row true 1 (f.blocks.map (Vm R)))]) (F3 (rI f.blocks.length R (AY I b (inN x (DW I (O b) x)))) (rI f.blocks.length R (AY O b (DW I (O b) x))) (rA f.blocks.length (Aw f))))⟩) (fun p=>LPI f R (AY I b (inN x (DW I (O b) x))) (AY O b (DW I (O b) x)) b p) (fun p=>(Aw f b).length-p.j) ⟨Cx w b false,ws',es,0⟩ (Sub.mk' (by repeat(first | exact ESub.new _ | refine ESub.put ?_ (by first | rfl | exact congrArg (fun m:Nat=>some (AV.int .i64 (m:Int))) (by simp)))) (B1 (k0:=10) rfl aS (fun x_=>(KK _ _ x_).trans (Ao _ _ _)) Kt)) ⟨by have h:=hgr.1;rw[hch]at h;exact h,hpop.1,hQ.st.pop⟩ (fun g b hb=>BI (k0:=10) rfl hb) ?_
   intro p hP;refine wk 5 ?_;refine asp 58 (fun hb3=>?_) fun hb3=>?_
   .
    refine act ?_;have hjl:p.j<(Aw f b).length:=by have h:=hb3;simp at h;exact h
    obtain⟨a,ha⟩:=Ae hjl;have ha2:=JM (List.mem_of_getElem? ha);refine wk 5 ?_;refine aq 59 (IC Ag (b:=3*b+2+16) (es:=(Aw f b).map BH) rfl rfl rfl rfl rfl rfl ((Ao _ _ _).trans (congrArg some (kU hb))) rfl (Int.natCast_nonneg _) (by rw[List.length_map];omega)) ?_;refine aq 60 (At Ag rfl rfl rfl (.ptr _ _ _ _ true 1 ((Aw f b).map BH) (BH a) ((Ao _ _ _).trans (congrArg some ((kU hb).trans (RR (k:=p.j) (by rw[List.length_map];omega))))) rfl (by rw[Int.toNat_natCast,List.getElem?_map,ha];rfl)) rfl) ?_;refine wk 5 ?_;refine AOps.call 63 (hn:=KL _ (HS f R (C3 p.w p.es p.ws.length a) (Hj p.w p.ws a).length (JQ p.w a) (F3 (rI f.blocks.length R (AY I b (inN x (DW I (O b) x)))) (rI f.blocks.length R (AY O b (DW I (O b) x))) (rA f.blocks.length (Aw f))))) (r:=.tup []) rfl rfl rfl (Of (es:=p.es) (len:=p.ws.length) (w:=p.w) rfl Tryz.func90 (by kernel_rfl) rfl rfl rfl Tc fR (B9 (fun _=>A0 _) (fun _=>A0 _) (fun _=>CC _)) (B9 (fun _=>A0 _) (fun _=>A0 _) (fun _=>CC _)) rfl (by have h:=W4 f R p.es p.ws.length p.w (F3 (rI f.blocks.length R (AY I b (inN x (DW I (O b) x)))) (rI f.blocks.length R (AY O b (DW I (O b) x))) (rA f.blocks.length (Aw f))) a ha2 hn hP.st.le hP.st.max;rw[Nr]at h;exact h)) ?_
    refine wk 2 ?_;refine aq 64 (Bk rfl rfl hjl (by have:=Kq f b;simp only[maxLen];omega)) ?_;refine wk 2 ?_;exact⟨⟨JQ p.w a,Hj p.w p.ws a,C3 p.w p.es p.ws.length a,p.j+1⟩,DropK.mk' (by repeat(first | exact EDropK.new _ _ | refine EDropK.put ?_ (by first | rfl) (by first | rfl | exact CM _ _ _))) (Bm (k0:=10) rfl aS (fun x_=>(KK _ _ x_).trans (Ao _ _ _)) (B9 (fun _=>A0 _) (fun _=>A0 _) (fun _=>CC _))),(hP.next ha),(by show(Aw f b).length-(p.j+1)<(Aw f b).length-p.j;omega)⟩
   refine acf ?_;have hjge:(Aw f b).length<=p.j:=by have h:=hb3;simp at h;omega
   refine wk 1 ?_;exact⟨⟨(AY I b (inN x (DW I (O b) x))),(AY O b (DW I (O b) x)),p.w,p.ws,p.es⟩,DropK.mk' Im (Bm (k0:=10) rfl aS fR (B9 (fun _=>A0 _) (fun _=>A0 _) (fun _=>CC _))),(hP.done hjge),(gV (hgr.2.1 hch) hP.wt.le)⟩
  refine acf ?_;have hch:chg (inN x (DW I (O b) x)) (I b) (nw R)=false:=hb2;refine fH ?_;exact⟨⟨(AY I b (inN x (DW I (O b) x))),(AY O b (DW I (O b) x)),Cx w b false,ws',es⟩,DropK.mk' Im (Bm (k0:=10) rfl aS fR (B9 (fun _=>A0 _) (fun _=>A0 _) (fun _=>CC _))),⟨by have h:=hgr.1;rw[hch]at h;exact h,hpop.1,hQ.st.pop⟩,(gW hgr.2.2 (by simp))⟩
 refine acf ?_;have hws:ws=[]:=by
  rcases E2 ws with h |⟨L,b,h⟩
  . exact h
  . have h2:=hb1;rw[h]at h2;simp at h2
 subst hws;have hK:=hQ.k;have hW:=hQ.wt;refine wk 3 ?_;refine ax 8 (EU Ag 10) ?_;refine wk 3 ?_;refine AGo.ghost (CI 10 (es':=[[Ek 11 [],Ek 12 []]]) rfl rfl (Nq ⟨Wk.nil _,Wk.nil _,trivial⟩)) ?_;refine wk 7 ?_;refine Bc (γ:=Nat) (kf 13) (fun k=>⟨103,(Aa (Aa (Aa (Aa (Aa (Aa Ba 1 (.ptr 0 1 0 0)) 2 (.ptr 1 1 0 0)) 3 (.ptr 2 1 0 0)) 8 (.ptr 10 1 0 0)) 67 (.int .i64 (f.blocks.length:Int))) 68 (.int .i64 (k:Int))),(HA (nb [(.row false 2 [f.cells]),(.row false 2 [[.nil,.nil]]),(.row false 8 [fI f (es).length (0)]),(.row false 1 (Ay (rG 0 (nw R)) f.blocks.length)),(.row false 1 (Ay (rG 1 (nw R)) f.blocks.length)),(.row true 1 (bC f.blocks.length (w))),(.row true 1 (es)),(.row false 1 (Ay (Ps (Aw f)) f.blocks.length)),(.row true 1 (f.blocks.map (Vn R))),(.row true 1 (f.blocks.map (Vm R))),(.row false 2 [[Ek 11 (((HX f).take k).map C0),Ek 12 (((HT f).take k).map C0)]]),(Ie 1 (((HX f).take k).map C0)),(Ie 1 (((HT f).take k).map C0))]) (F3 (rI f.blocks.length R I) (rI f.blocks.length R O) (rA f.blocks.length (Aw f))))⟩) (fun k=>k<=f.blocks.length) (fun k=>f.blocks.length-k) 0 (Sub.mk' Ez (B1 (k0:=13) rfl (by repeat(first | exact trivial | refine⟨⟨by rfl,by first | rfl | exact Mt (by decide) | exact Dy _ _ | exact Ad (fun _ _=>CP _ _ _ _) | exact Ad (fun _ _=>CM _ _ _)⟩,?_⟩)) FX mZ)) (Nat.zero_le _) (fun g b hb=>BI (k0:=13) rfl hb) ?_
 intro k hk;refine wk 5 ?_;refine asp 69 (fun hb4=>?_) fun hb4=>?_
 .
  refine act ?_;have hkl:k<f.blocks.length:=by have h:=hb4;simp at h;exact h
  obtain⟨x,hx⟩:=Ae hkl;have hxm:=List.mem_of_getElem? hx;refine wk 17 ?_;refine dq 78 (Ab Ag rfl rfl rfl rfl rfl rfl rfl (An _ _).symm rfl (Int.natCast_nonneg _) (by omega)) ?_;refine dq 79 (At Ag rfl rfl rfl (.ptr _ _ _ _ _ _ _ [rG 0 (nw R) k] rfl (An _ _).symm (by rw[Nat.zero_add,Int.toNat_natCast];exact BV hkl)) rfl) ?_;refine wk 2 ?_;refine dx 82 (Qn (q:=AObj.row true 1 (Bt R (I k))) (r:=Cu (XO f k)) (3*k+0+16) rfl Tryz.func91 (by kernel_rfl) rfl rfl (by simp only[List.all_cons,List.all_nil,Bool.and_true];exact Va (by show mem _ _=true;exact KV _) rfl) (by(try simp only[hputs]);(repeat(first | refine AA (by exact Af (by omega)) ?_ | refine hrm_skip (by omega) ?_));exact(Ao _ _ _).trans (congrArg some (gz hkl))) rfl rfl (by have h:=NN (3*k+0) R (I k) hR;rw[hK.inRow hs hRt hW hkl]at h;rw[hRf];exact h)) ?_;refine dx 83 (Cp Ag rfl rfl rfl rfl rfl rfl (by decide) rfl rfl rfl rfl rfl rfl) ?_
  refine dx 84 (o_append1J Ag (b:=11) (es:=((HX f).take k).map C0) rfl rfl rfl rfl rfl rfl rfl rfl BC rfl rfl (Nat.zero_lt_succ _) (Jv fun _=>rfl) (Gv fun _=>rfl) rfl rfl (by rw[List.length_map,List.length_take];show(_+1)*24<=_;omega) (by rw[List.length_map,List.length_take];simp only[maxLen];omega)) ?_;refine wk 1 ?_;refine DOps.w rfl rfl (o_store1 Ag rfl rfl rfl rfl rfl rfl rfl rfl rfl (Dz _ _) (by decide) (DA _ _) (by intro h;cases h)) ?_;refine Fh Dp [([],[]),([10],[]),([],[]),([],[]),([],[]),([2],[]),([],[]),([3],[]),([3],[]),([],[]),([0],[]),([16],[]),([],[]),([11],[11]),([],[]),([10],[10])] m6 (by kernel_rfl) ?_;refine wk 8 ?_;refine dq 93 (Ab Ag rfl rfl rfl rfl rfl rfl rfl (An _ _).symm rfl (Int.natCast_nonneg _) (by omega)) ?_;refine dq 94 (At Ag rfl rfl rfl (.ptr _ _ _ _ _ _ _ [rG 1 (nw R) k] rfl (An _ _).symm (by rw[Nat.zero_add,Int.toNat_natCast];exact BV hkl)) rfl) ?_
  refine wk 2 ?_;refine dx 97 (Qn (q:=AObj.row true 1 (Bt R (O k))) (r:=Cu (Sg f x)) (3*k+1+16) rfl Tryz.func91 (by kernel_rfl) rfl rfl (by simp only[List.all_cons,List.all_nil,Bool.and_true];exact Va (by show mem _ _=true;exact KV _) rfl) (by(try simp only[hputs]);(repeat(first | refine AA (by exact Af (by omega)) ?_ | refine hrm_skip (by omega) ?_));exact(Ao _ _ _).trans (congrArg some (ql hkl))) rfl rfl (by have h:=NN (3*k+1) R (O k) hR;rw[hK.outRow hs hRt hW hx]at h;rw[hRf];exact h)) ?_;refine dx 98 (Cp Ag rfl rfl rfl rfl rfl rfl (by decide) rfl rfl rfl rfl rfl rfl) ?_;refine dx 99 (o_append1J Ag (b:=12) (es:=((HT f).take k).map C0) rfl rfl rfl rfl rfl rfl rfl rfl BC rfl rfl (Nat.zero_lt_succ _) (Jv fun _=>rfl) (Gv fun _=>rfl) rfl rfl (by rw[List.length_map,List.length_take];show(_+1)*24<=_;omega) (by rw[List.length_map,List.length_take];simp only[maxLen];omega)) ?_
  refine wk 1 ?_;refine DOps.w rfl rfl (o_store1 Ag rfl rfl rfl rfl rfl rfl rfl rfl rfl (Dz _ _) (by decide) (DA _ _) (by intro h;cases h)) ?_;refine Fh Dp [([],[]),([10],[]),([],[]),([],[]),([],[]),([2],[]),([],[]),([4],[]),([4],[]),([],[]),([0],[]),([17],[]),([],[]),([12],[12]),([],[]),([10],[10])] m6 (by kernel_rfl) ?_;refine Ya ?_;refine aq 101 (Bk rfl rfl hkl (by simp only[maxLen];omega)) ?_;refine wk 2 ?_;exact⟨k+1,DropK.mk' Im (Bm (k0:=13) rfl (by repeat(first | exact trivial | refine⟨⟨by first | rfl | exact congrArg (fun es=>some (Ie 1 es)) (Fo (OO hkl)) | exact congrArg (fun es=>some (Ie 1 es)) (Fo (My hx)) |(rw[<-Fo (OO hkl),<-Fo (My hx)];rfl),by first | rfl | exact Mt (by decide) | exact Dy _ _ | exact Ad (fun _ _=>CP _ _ _ _) | exact Ad (fun _ _=>CM _ _ _)⟩,?_⟩)) FX (B9 (fun _=>A0 _) (fun _=>A0 _) (fun _=>CC _))),hkl,by omega⟩
 refine acf ?_;have hge:f.blocks.length<=k:=by have h:=hb4;simp at h;omega
 refine wk 2 ?_;have hkn:k=f.blocks.length:=by omega
 subst hkn;refine AGo.ghost (.endCell 10 0 11 rfl rfl rfl (by decide)) ?_;refine AGo.ghost (.endCell 10 1 12 rfl rfl rfl (by decide)) ?_;refine wk 5 ?_;refine⟨[_],⟨⟨_,_,_,_,rfl,rfl,.ptr _ _ _ _ _ _ _ _ rfl rfl rfl,rfl⟩,trivial⟩,?_,rfl⟩;show AV.agg [AV.lst false _,AV.lst false _]=AV.agg [AV.lst false _,AV.lst false _];rw[List.take_of_length_le (by simp[HX]),List.take_of_length_le (by simp[HT])];rfl
theorem UZ(f:BFunc)(R:Nat)(S:CV)(G:GG)(es:List (List AV))(len:Nat)(w:Nat->Bool)(b:Nat)(hb:b<R)(hR:R<=100000)(hl:len<=es.length)(he:es.length<=R):ACall Tryz.prog 83 [.ptr 2 1 0 0,.int .i64 (b:Int)] (DH (Ip f R S (es) (len) (w)) (DF f R S G)) (fun r h'=>r= .tup []/\HSub (EV hNone (DH (Ip f R S (C3 w es len b) (DN w len b) (Cx w b true)) (DF f R S G))) h'):=by
 refine ACall.of_body (n:=28) Ag Tryz.func83 rfl rfl ?_;refine wk 7 ?_;refine aq 9 (Ab Ag rfl rfl rfl rfl rfl rfl rfl (An _ _).symm rfl (Int.natCast_nonneg _) (by omega)) ?_;refine aq 10 (At Ag rfl rfl rfl (.ptr _ _ _ _ _ _ _ [.bool (w b)] rfl (An _ _).symm Lp) rfl) ?_;refine wk 2 ?_;refine asp 11 (fun hb1=>?_) fun hb1=>?_
 .
  refine act ?_;have hwb:w b=false:=by have h:=hb1;simpa using h
  refine wk 7 ?_;refine aq 17 (Ab Ag rfl rfl rfl rfl rfl rfl rfl (An _ _).symm rfl (Int.natCast_nonneg _) (by omega)) ?_;refine AOps.w rfl rfl (o_store Ag rfl rfl rfl rfl rfl rfl (An _ _).symm Lp rfl (by decide) rfl DG) ?_;refine wk 8 ?_;refine ax 24 (Cp Ag rfl rfl rfl rfl rfl rfl (by decide) rfl rfl rfl rfl rfl rfl) ?_;refine ax 25 (LM Ag (es:=es) rfl rfl rfl rfl rfl rfl rfl rfl rfl rfl hl rfl rfl (Nat.zero_lt_succ _) (.lst _ _) rfl (fun _=>rfl) (by show _*8<=_;omega) (by simp only[maxLen];omega)) ?_;refine wk 4 ?_;have e1:C3 w es len b=CY es len (BH b):=by unfold C3;rw[hwb];rfl
  have e2:DN w len b=len+1:=by unfold DN;rw[hwb];rfl
  rw[e1,e2];exact⟨[],trivial,rfl,(Ma rfl (by repeat(first | exact trivial | refine⟨by first | rfl | exact congrArg (fun es=>some (AObj.row true 1 es)) (H8 true),?_⟩)) G6)⟩
 refine acf ?_;have hwb:w b=true:=by have h:=hb1;simpa using h
 refine fH ?_;have e1:C3 w es len b=es:=by unfold C3;rw[hwb];rfl
 have e2:DN w len b=len:=by unfold DN;rw[hwb];rfl
 rw[e1,e2,Hl hwb];exact fO
theorem U1(f:BFunc)(R:Nat)(S:CV)(G:GG)(es:List (List AV))(len:Nat)(w:Nat->Bool)(b:Nat)(x:Block)(hx:f.blocks[b]?=some x)(s:Site)(hat:s.at_<=x.ins.length):ACall Tryz.prog 85 [.ptr 2 1 0 0,.int .i64 (b:Int),.agg (G8 s)] (DH (Ip f R S (es) (len) (w)) (DF f R S G)) (fun r h'=>r= .bool (leftS (G b) x.ins.length s)/\HSub (EV hNone (DH (Ip f R S (es) (len) (w)) (DF f R S G))) h'):=by
 have hb:b<f.blocks.length:=(List.getElem?_eq_some_iff.1 hx).1;refine ACall.of_body (n:=34) Ag Tryz.func85 rfl rfl ?_;refine Nk ?_;refine ax 5 (GW 3 8) ?_;refine wk 12 ?_;refine dq 15 (MT Ag (AO hx)) ?_;refine wk 5 ?_;refine DOps.split 20 rfl (fun hb1=>?_) (fun hb1=>?_)
 .
  refine wk 12 ?_;refine dq 33 (Fx true rfl rfl rfl rfl) ?_;exact mK
 have hc0:=hb1;have hne: ¬s.at_=x.ins.length:=by have h:=hc0;simp at h;omega
 refine wk 5 ?_;refine dq 26 (Ab Ag rfl rfl rfl rfl rfl rfl rfl (An _ _).symm rfl (Int.natCast_nonneg _) (by omega)) ?_;refine dq 27 (At Ag rfl rfl rfl (.ptr _ _ _ _ _ _ _ [gR f b] rfl (An _ _).symm Lp) rfl) ?_;refine wk 2 ?_;refine dq 30 (Ab Ag rfl rfl rfl rfl rfl rfl fQ (by rw[An,Cz hx]) rfl (Int.natCast_nonneg _) (by rw[Cz hx];omega)) ?_;refine dq 31 (At Ag rfl rfl rfl (.ptr _ _ _ _ true 1 (bC x.ins.length (G b)) [.bool (G b s.at_)] fQ (by rw[An,Cz hx]) (by rw[Nat.zero_add,Int.toNat_natCast];exact BV (by omega))) rfl) ?_;refine dq 32 (TJ rfl rfl) ?_;refine dq 33 (EF false rfl rfl rfl rfl) ?_;exact mK
theorem ZT(f:BFunc)(R:Nat)(S:CV)(G:GG)(es:List (List AV))(ws:List Nat)(w:Nat->Bool)(b p:Nat)(x:Block)(hx:f.blocks[b]?=some x)(hp:p<x.ins.length)(t:Tac)(ht: ∀u∈t.uses,0<=u/\u<R)(hR:R<=100000)(hq:QId R ⟨G,w,ws,es⟩):ACall Tryz.prog 87 [.ptr 2 1 0 0,.int .i64 (b:Int),.int .i64 (p:Int),.agg t.cells] (DH (Ip f R S (es) (ws.length) (w)) (DF f R S G)) (fun r h'=>r= .tup []/\HSub (EV hNone (DH (Ip f R S (BW b p t.uses ⟨G,w,ws,es⟩).es (BW b p t.uses ⟨G,w,ws,es⟩).ws.length (BW b p t.uses ⟨G,w,ws,es⟩).w) (DF f R S (BW b p t.uses ⟨G,w,ws,es⟩).G))) h'):=by
 have hb:b<f.blocks.length:=(List.getElem?_eq_some_iff.1 hx).1;refine ACall.of_body (n:=30) Ag Tryz.func87 rfl rfl ?_;refine Nk ?_;refine ax 7 (GW 8 0) ?_;refine wk 8 ?_;refine aq 15 (Ab Ag rfl rfl rfl rfl rfl rfl rfl (An _ _).symm rfl (Int.natCast_nonneg _) (by omega)) ?_;refine aq 16 (At Ag rfl rfl rfl (.ptr _ _ _ _ _ _ _ [gR f b] rfl (An _ _).symm Lp) rfl) ?_;refine wk 1 ?_;refine aq 18 (Ab Ag rfl rfl rfl rfl rfl rfl fQ (by rw[An,Cz hx]) rfl (Int.natCast_nonneg _) (by rw[Cz hx];omega)) ?_;refine AOps.w rfl rfl (o_store Ag (es:=bC x.ins.length (G b)) (cs:=[.bool (G b p)]) rfl rfl rfl rfl rfl fQ (by rw[An,Cz hx]) (by rw[Nat.zero_add,Int.toNat_natCast];exact BV hp) rfl (by decide) rfl (fun _=>rfl)) ?_;refine wk 4 ?_;refine ax 20 (DX Tryz.func81 (Pm _)) ?_;refine wk 4 ?_;refine Bc (γ:=Nat) (kf 8) (fun k=>⟨30,(Aa (Aa (Aa (Aa Ba 0 (.ptr 2 1 0 0)) 20 (AZ t.uses)) 21 (.int .i64 (t.uses.length:Int))) 22 (.int .i64 (k:Int))),(HA (nb [(.row false 8 [t.cells]),.free,(.row false 8 [Ta f R (((t.uses.take k).foldl (fun st u=>Gq st u.toNat) (⟨DP G b p,w,ws,es⟩:RSd)).es).length (((t.uses.take k).foldl (fun st u=>Gq st u.toNat) (⟨DP G b p,w,ws,es⟩:RSd)).ws.length)]),(.row false 1 (Ay (aR (Aw f)) f.blocks.length)),(.row false 1 (Ay (oR f.blocks.length R S) R)),(.row false 1 (Ay (gR f) f.blocks.length)),(.row true 1 (((t.uses.take k).foldl (fun st u=>Gq st u.toNat) (⟨DP G b p,w,ws,es⟩:RSd)).es)),(.row true 1 (bC R (((t.uses.take k).foldl (fun st u=>Gq st u.toNat) (⟨DP G b p,w,ws,es⟩:RSd)).w)))]) (DF f R S (DP G b p)))⟩) (fun k=>QId R ((t.uses.take k).foldl (fun st u=>Gq st u.toNat) (⟨DP G b p,w,ws,es⟩:RSd))/\k<=t.uses.length) (fun k=>t.uses.length-k) 0 (Sub.mk' Ez (B1 (k0:=8) rfl jV (fun x_=>by(try simp only[hputs]);(repeat(first | refine AA (by exact Af (by omega)) ?_ | refine hrm_skip (by omega) ?_));exact(DO aP _ _ x_).trans (congrArg some (lT hb hx x_).symm)) fD)) ⟨⟨hq.wt,hq.st⟩,Nat.zero_le _⟩ (fun g b hb=>BI (k0:=8) rfl hb) ?_
 intro k hQ;generalize hqe:((t.uses.take k).foldl (fun st u=>Gq st u.toNat) (⟨DP G b p,w,ws,es⟩:RSd))=q at hQ |-;refine wk 5 ?_;refine asp 23 (fun hb1=>?_) fun hb1=>?_
 .
  refine act ?_;have hkl:k<t.uses.length:=by have h:=hb1;simp[AZ]at h;exact h
  obtain⟨u,hu⟩:=Ae hkl;have hub:=ht u (List.mem_of_getElem? hu);refine wk 5 ?_;refine aq 24 (MT Ag (AO hu)) ?_;refine wk 6 ?_;refine AOps.call 28 (hn:=EV _ (DH (Ip f R S (C3 q.w q.es q.ws.length u.toNat) ((Hj q.w q.ws u.toNat).length) (JQ q.w u.toNat)) (DF f R S (DP G b p)))) (r:=.tup []) rfl rfl rfl (Em (Ip f R S (q.es) (q.ws.length) (q.w)) (Ip f R S (C3 q.w q.es q.ws.length u.toNat) ((Hj q.w q.ws u.toNat).length) (JQ q.w u.toNat)) (DF f R S (DP G b p)) rfl Tryz.func83 (by kernel_rfl) rfl rfl rfl rfl rfl (Cf _ _ _ _ _ _) (Cf _ _ _ _ _ _) Rt G6 (Bd CF f R _ _) (Bd CF f R _ _) rfl (by have h:=UZ f R S (DP G b p) q.es q.ws.length q.w u.toNat (by omega) hR hQ.1.st.le hQ.1.st.max;rw[Nr,Int.toNat_of_nonneg hub.1]at h;exact h)) ?_;refine wk 2 ?_;refine aq 29 (Bk rfl rfl hkl (by have:=Ky t;simp only[maxLen];omega)) ?_;refine wk 2 ?_;exact⟨k+1,DropK.mk' Im (Bm (k0:=8) rfl (by repeat(first | exact trivial | refine⟨⟨by first | rfl | exact BT rfl |(rw[Mw hu,hqe];first | rfl | exact BT rfl),by first | rfl | exact Ad (fun _ _=>Bf (Ar _) _ _) | exact Ad (fun _ _=>A4 (Ar _) _ _ _ _) | exact Ad (fun _ _=>BZ (Ar _) _ _)⟩,?_⟩)) G6 (Bd (Ar _) f R _ _)),⟨by rw[Mw hu,hqe];exact hQ.1.push (by omega),hkl⟩,by omega⟩
 refine acf ?_;have hge:t.uses.length<=k:=by have h:=hb1;simp[AZ]at h;omega
 refine wk 1 ?_;have hk:k=t.uses.length:=by omega
 subst hk;rw[List.take_length]at hqe;have e1:BW b p t.uses ⟨G,w,ws,es⟩=q:=hqe;have e2:q.G=DP G b p:=by rw[<-e1];exact M4 _ _ _ _
 rw[e1,e2];exact fO
theorem U0(f:BFunc)(hs:f.sane)(R:Nat)(G:GG)(es:List (List AV))(len:Nat)(w:Nat->Bool)(v:Nat)(hv:v<R)(hn:f.blocks.length<=100000)(hR:R<=100000)(hi: ∀x∈f.blocks,x.ins.length<=100000):ACall Tryz.prog 84 [.ptr 2 1 0 0,.int .i64 (v:Int)] (DH (Ip f R (SB f) (es) (len) (w)) (DF f R (SB f) G)) (fun r h'=>r=Cu (Hb f.blocks.length (fun b=>UC (Ct f G) v b))/\HSub (EV hNone (DH (Ip f R (SB f) (es) (len) (w)) (DF f R (SB f) G))) h'):=by
 refine ACall.of_body (n:=122) Ag Tryz.func84 rfl rfl ?_;refine wk 12 ?_;refine ax 21 (AB Ag (n:=f.blocks.length) (m:=f.blocks.length) 0 true rfl rfl rfl ((by simp)) ((by simp)) rfl rfl rfl rfl rfl (Nat.zero_lt_succ _) rfl (Nat.le_refl _) (by show 8*f.blocks.length<=_;omega) (by simp only[maxLen];omega)) ?_;refine wk 10 ?_;refine ax 28 (AB Ag (n:=f.blocks.length) (m:=f.blocks.length) 1 true rfl rfl rfl ((by simp)) ((by simp)) rfl rfl rfl rfl rfl (Nat.zero_lt_succ _) rfl (Nat.le_refl _) (by show 1*f.blocks.length<=_;omega) (by simp only[maxLen];omega)) ?_;refine wk 8 ?_;refine AGo.ghost (.dry 7 8 1 true rfl rfl rfl (by decide)) ?_;refine wk 6 ?_;refine aq 34 (Ab Ag rfl rfl rfl rfl rfl rfl BC (An _ _).symm rfl (Int.natCast_nonneg _) (by omega)) ?_;refine aq 35 (At Ag rfl rfl rfl (.ptr _ _ _ _ _ _ _ [oR f.blocks.length R (SB f) v] BC (An _ _).symm Yl) rfl) ?_;refine aq 36 (FM Ag rfl rfl rfl rfl) ?_;refine wk 3 ?_;refine Bc (γ:=Nat×List (List AV)) (kf 9) (fun q=>⟨122,(Aa (Aa (Aa (Aa (Aa (Aa (Aa (Aa Ba 0 (.ptr 2 1 0 0)) 1 (.int .i64 (v:Int))) 5 (.ref 0 f.blocks.length 0 f.blocks.length)) 6 (.ref 1 f.blocks.length 0 f.blocks.length)) 7 (.ref 8 q.2.length 0 (todoK f G v q.1).length)) 35 (oR f.blocks.length R (SB f) v)) 36 (.int .i64 ((JX f.blocks.length R (SB f) v).length:Int))) 37 (.int .i64 (q.1:Int))),(HA (nb [(.row true 1 (iC f.blocks.length (HZ f G v q.1))),(.row true 1 (bC f.blocks.length (S9 f G v q.1))),(.row false 8 [Ta f R (es).length (len)]),(.row false 1 (Ay (aR (Aw f)) f.blocks.length)),(.row false 1 (Ay (oR f.blocks.length R (SB f)) R)),(.row false 1 (Ay (gR f) f.blocks.length)),(.row true 1 (es)),(.row true 1 (bC R (w))),(.row true 1 q.2)]) (DF f R (SB f) G))⟩) (fun q=>q.1<=(FE f v).length/\StackI f.blocks.length q.2 (todoK f G v q.1)) (fun q=>(FE f v).length-q.1) (0,[]) (Sub.mk' (by repeat(first | exact ESub.new _ | refine ESub.put ?_ (by first | rfl))) (B1 (k0:=9) rfl (by repeat(first | exact trivial | refine⟨⟨by first | rfl | exact congrArg (fun es=>some (AObj.row true 1 es)) ((HE _ _).trans (by rw[Q6];rfl)) | exact congrArg (fun es=>some (AObj.row true 1 es)) ((HE _ _).trans (by unfold S9;rw[Q6];rfl)) |((try simp only[hputs]);repeat(first | rfl | exact Aq _ _ _ | refine AA (by exact Af (by omega)) ?_ | refine hrm_skip (by omega) ?_ | refine(CG _ PH).trans ?_)),by first | rfl | exact Ad (fun _ _=>Bf (Ar _) _ _) | exact Ad (fun _ _=>A4 (Ar _) _ _ _ _) | exact Ad (fun _ _=>BZ (Ar _) _ _) | exact EM _⟩,?_⟩)) FX Ym)) ⟨Nat.zero_le _,by unfold todoK;exact StackI.none _⟩ (fun g b hb=>BI (k0:=9) rfl hb) ?_
 intro q hq;refine wk 5 ?_;refine asp 38 (fun hb1=>?_) fun hb1=>?_
 .
  refine act ?_;have hkl:q.1<(FE f v).length:=by have h:=hb1;rw[Ea]at h;simp only[decide_eq_true_eq]at h;exact Int.ofNat_lt.1 h
  obtain⟨i,hgi⟩:=Ae hkl;have hig:i<f.blocks.length/\0<(SB f i v).length:=SC (S:=SB f) hgi;obtain⟨x,hx⟩:=Ae hig.1;refine wk 5 ?_;refine aq 39 (N2 Ag rfl rfl rfl rfl rfl rfl ((Ao _ _ _).trans (congrArg some (S4 hv))) rfl (Int.natCast_nonneg _) (by rw[Ea];exact Int.ofNat_lt.2 hkl)) ?_;refine aq 40 (At Ag rfl rfl rfl (.ptr _ _ _ _ false 2 (JX f.blocks.length R (SB f) v) (UI R (SB f) v i) ((Ao _ _ _).trans (congrArg some ((S4 hv).trans (RQ (k:=q.1) (by rw[Ea];exact hkl))))) rfl (by rw[Int.toNat_natCast];show((FE f v).map (UI R (SB f) v))[_]?=_;rw[List.getElem?_map,hgi];rfl)) rfl) ?_;refine ax 9 (HU Ag 9 rfl rfl BC rfl (Nat.zero_lt_succ _) rfl) ?_;refine wk 10 ?_;refine Bc (γ:=Nat) (kf 10) (fun j=>⟨122,(Aa (Aa (Aa (Aa (Aa (Aa (Aa (Aa (Aa (Aa (Aa (Aa Ba 0 (.ptr 2 1 0 0)) 1 (.int .i64 (v:Int))) 5 (.ref 0 f.blocks.length 0 f.blocks.length)) 6 (.ref 1 f.blocks.length 0 f.blocks.length)) 7 (.ref 8 q.2.length 0 (todoK f G v q.1).length)) 35 (oR f.blocks.length R (SB f) v)) 36 (.int .i64 ((JX f.blocks.length R (SB f) v).length:Int))) 37 (.int .i64 (q.1:Int))) 9 (.ptr 9 1 0 0)) 42 (.ref (4*(v+R*i)+3+16) (Hp f v i).length 0 (Hp f v i).length)) 43 (.int .i64 ((Hp f v i).length:Int))) 44 (.int .i64 (j:Int))),(HA (nb [(.row true 1 (iC f.blocks.length (HZ f G v q.1))),(.row true 1 (bC f.blocks.length (S9 f G v q.1))),(.row false 8 [Ta f R (es).length (len)]),(.row false 1 (Ay (aR (Aw f)) f.blocks.length)),(.row false 1 (Ay (oR f.blocks.length R (SB f)) R)),(.row false 1 (Ay (gR f) f.blocks.length)),(.row true 1 (es)),(.row true 1 (bC R (w))),(.row true 1 q.2),(.row false 2 [UI R (SB f) v i])]) (DF f R (SB f) G))⟩) (fun j=>Dc (G i) x.ins.length ((Hp f v i).drop j)=firstG f G v i/\j<=(Hp f v i).length) (fun j=>(Hp f v i).length-j) 0 (Sub.mk' Ez (B1 (k0:=10) rfl re FX Kt)) ⟨by rw[List.drop_zero,DJ hx,Ge hx],Nat.zero_le _⟩ (fun g b hb=>BI (k0:=10) rfl hb) ?_
  intro j hF;refine wk 5 ?_;refine asp 45 (fun hb2=>?_) fun hb2=>?_
  .
   refine act ?_;have hjl:j<(Hp f v i).length:=by have h:=hb2;simp at h;exact h
   obtain⟨s,hsj⟩:=Ae hjl;have hat:=Xj hx hsj;refine wk 5 ?_;refine aq 46 (Ab Ag rfl rfl rfl rfl rfl rfl ((Ao _ _ _).trans (congrArg some (Nn hv hig.2))) (List.length_map _).symm rfl (Int.natCast_nonneg _) (by omega)) ?_;refine aq 47 (At Ag rfl rfl rfl (.ptr _ _ _ _ true 3 ((Hp f v i).map G8) (G8 s) ((Ao _ _ _).trans (congrArg some (Nn hv hig.2))) (List.length_map _).symm (by rw[Nat.zero_add,Int.toNat_natCast,List.getElem?_map,hsj];rfl)) rfl) ?_;refine ax 11 (HU Ag 10 rfl rfl BC rfl (Nat.zero_lt_succ _) rfl) ?_;refine wk 9 ?_;refine AOps.call 52 (hn:=EV _ (DH (Ip f R (SB f) (es) (len) (w)) (DF f R (SB f) G))) (r:=.bool (leftS (G i) x.ins.length s)) rfl rfl rfl (Em (Ip f R (SB f) (es) (len) (w)) (Ip f R (SB f) (es) (len) (w)) (DF f R (SB f) G) rfl Tryz.func85 (by kernel_rfl) rfl rfl rfl rfl rfl (Cf _ _ _ _ _ _) (Cf _ _ _ _ _ _) Rt G6 (Bd CF f R _ _) (Bd CF f R _ _) rfl (U1 f R (SB f) G es len w i x hx s hat)) ?_
   refine wk 2 ?_;refine asp 53 (fun hb3=>?_) fun hb3=>?_
   .
    refine act ?_;have hlf:leftS (G i) x.ins.length s=false:=by have h:=hb3;simpa using h
    refine wk 2 ?_;refine aq 73 (Bk rfl rfl hjl (by have:=MZ hx (v:=v);have:=hi x (List.mem_of_getElem? hx);simp only[maxLen];omega)) ?_;refine wk 2 ?_;exact⟨j+1,DropK.mk' (by repeat(first | exact EDropK.new _ _ | refine EDropK.put ?_ (by first | rfl | exact congrArg (fun(n:Nat)=>some (AV.int .i64 (n:Int))) (by simp)) (by first | rfl | exact A4 (Ar _) _ _ _ _ | exact Us _ _))) (Bm (k0:=10) rfl tD G6 (Bd (Ar _) f R _ _)),⟨by rw[<-first_skip hsj hlf];exact hF.1,hjl⟩,(by omega)⟩
   refine acf ?_;have hlf:leftS (G i) x.ins.length s=true:=by have h:=hb3;simpa using h
   refine wk 6 ?_;refine aq 57 (Ab Ag rfl rfl rfl rfl rfl rfl BC (An _ _).symm rfl (Int.natCast_nonneg _) (by omega)) ?_;refine AOps.w rfl rfl (o_store Ag rfl rfl rfl rfl rfl BC (An _ _).symm (by rw[Nat.zero_add,Int.toNat_natCast];exact BV hig.1) rfl (by decide) rfl (fun _=>rfl)) ?_;refine wk 7 ?_;refine asp 59 (fun hb4=>?_) fun hb4=>?_
   .
    refine act ?_;have hfg:firstG f G v i=1:=by rw[<-hF.1,OY hsj hlf,show s.r=true from hb4];rfl
    refine wk 5 ?_;refine aq 63 (Ab Ag rfl rfl rfl rfl rfl rfl BC (by rw[List.length_set];exact(An _ _).symm) rfl (Int.natCast_nonneg _) (by omega)) ?_;refine AOps.w rfl rfl (o_store Ag rfl rfl rfl rfl rfl BC (by rw[List.length_set];exact(An _ _).symm) (List.getElem?_set_self (by rw[An];omega)) rfl (by decide) rfl (fun _=>rfl)) ?_;refine wk 6 ?_;refine aq 67 (Ab Ag rfl rfl rfl rfl rfl rfl BC (An _ _).symm rfl (Int.natCast_nonneg _) (by omega)) ?_;refine AOps.w rfl rfl (o_store Ag rfl rfl rfl rfl rfl BC (An _ _).symm (by rw[Nat.zero_add,Int.toNat_natCast];exact BV hig.1) rfl (by decide) rfl (fun _=>rfl)) ?_;refine wk 5 ?_;refine ax 71 (Cp Ag rfl rfl rfl rfl rfl rfl (by decide) rfl rfl rfl rfl rfl rfl) ?_;refine ax 72 (LM Ag (es:=q.2) rfl rfl rfl rfl rfl rfl rfl rfl BC rfl hq.2.le rfl rfl (Nat.zero_lt_succ _) (.lst _ _) rfl (fun _=>rfl) (by have:=hq.2.max;show _*8<=_;omega) (by have:=hq.2.max;simp only[maxLen];omega)) ?_
    refine wk 4 ?_;refine aq 74 (Bk rfl rfl hkl jS) ?_;refine wk 2 ?_;exact⟨(q.1+1,CY q.2 (todoK f G v q.1).length (BH i)),DropK.mk' tC (Bm (k0:=9) rfl tG G6 (Bd (Ar _) f R _ _)),⟨hkl,by rw[<-Nx hgi hfg];exact hq.2.push (Nat.lt_of_le_of_lt (YH f G v q.1) (Nat.lt_of_lt_of_le hkl (SA (SB f) f.blocks.length v)))⟩,(by show(FE f v).length-(q.1+1)<(FE f v).length-q.1;omega)⟩
   refine acf ?_;have hfg:firstG f G v i=2:=by rw[<-hF.1,OY hsj hlf,show s.r=false from hb4];rfl
   refine wk 3 ?_;exact mX
  refine acf ?_;have hjge:(Hp f v i).length<=j:=by have h:=hb2;simp at h;omega
  have hfg:firstG f G v i=0:=by rw[<-hF.1,List.drop_eq_nil_iff.2 hjge];rfl
  refine wk 2 ?_;exact mX
 refine acf ?_;have hkge:(FE f v).length<=q.1:=by have h:=hb1;rw[Ea]at h;simp only[decide_eq_false_iff_not]at h;exact Nat.le_of_not_lt fun e=>h (Int.ofNat_lt.2 e)
 refine wk 3 ?_;refine Bc (γ:=MQ) (kf 9) (fun m=>⟨122,(Aa (Aa (Aa (Aa (Aa Ba 0 (.ptr 2 1 0 0)) 1 (.int .i64 (v:Int))) 5 (.ref 0 f.blocks.length 0 f.blocks.length)) 6 (.ref 1 f.blocks.length 0 f.blocks.length)) 7 (.ref 8 m.es.length 0 m.todo.length)),(HA (nb [(.row true 1 (iC f.blocks.length (firstG f G v))),(.row true 1 (bC f.blocks.length m.inn)),(.row false 8 [Ta f R (es).length (len)]),(.row false 1 (Ay (aR (Aw f)) f.blocks.length)),(.row false 1 (Ay (oR f.blocks.length R (SB f)) R)),(.row false 1 (Ay (gR f) f.blocks.length)),(.row true 1 (es)),(.row true 1 (bC R (w))),(.row true 1 m.es)]) (DF f R (SB f) G))⟩) (fun m=>BfI f G v m.inn m.todo 0 []/\StackI f.blocks.length m.es m.todo) (fun m=>2*Mb f.blocks.length m.inn+m.todo.length) ⟨S9 f G v q.1,todoK f G v q.1,q.2⟩ (Sub.mk' Ci (B1 (k0:=9) rfl (by repeat(first | exact trivial | refine⟨⟨by first | rfl | exact congrArg (fun w=>some (AObj.row true 1 (iC _ w))) (UM hkge),by first | rfl | exact Ad (fun _ _=>Bf (Ar _) _ _) | exact Ad (fun _ _=>A4 (Ar _) _ _ _ _) | exact Ad (fun _ _=>BZ (Ar _) _ _) | exact EM _⟩,?_⟩)) FX Ym)) ⟨BfI.first hkge,hq.2⟩ (fun g b hb=>BI (k0:=9) rfl hb) ?_
 intro m hM;obtain⟨inn,todo,es'⟩:=m;dsimp only at hM |-;refine wk 7 ?_;refine asp 77 (fun hb5=>?_) fun hb5=>?_
 .
  refine act ?_;obtain⟨todo',b,htd⟩: ∃todo' b,todo=todo'++[b]:=by
   rcases E2 todo with h | h
   . have h2:=hb5;rw[h]at h2;simp at h2
   . exact h
  subst htd;have hib:=hM.1.tod b (List.mem_append.2 (.inr (List.mem_singleton.2 rfl)));have hb:=(hM.1.sound b hib).1;refine wk 7 ?_;refine aq 81 (A2 (r:=.int .i64 (todo'.length:Int)) rfl rfl rfl (KO (by have:=hM.1.cnt;simp at this;omega))) ?_;refine aq 82 (Ab Ag rfl rfl rfl rfl rfl rfl BC rfl rfl (Int.natCast_nonneg _) (by simp;omega)) ?_;refine aq 83 (At Ag rfl rfl rfl (.ptr _ _ _ _ _ _ _ (BH b) BC rfl (by rw[Nat.zero_add,Int.toNat_natCast];exact hM.2.get)) rfl) ?_;refine wk 7 ?_;refine aq 87 (A2 (r:=.int .i64 (todo'.length:Int)) rfl rfl rfl (KO (by have:=hM.1.cnt;simp at this;omega))) ?_;refine aq 88 (Fw Ag (es:=es') (m:=todo'.length) rfl rfl rfl rfl rfl rfl BC rfl rfl (by simp)) ?_;refine wk 9 ?_;refine aq 94 (Ab Ag rfl rfl rfl rfl rfl rfl BC (An _ _).symm rfl (Int.natCast_nonneg _) (by omega)) ?_;refine aq 95 (At Ag rfl rfl rfl (.ptr _ _ _ _ _ _ _ [aR (Aw f) b] BC (An _ _).symm Lp) rfl) ?_
  refine aq 96 (FM Ag rfl rfl rfl rfl) ?_;refine wk 3 ?_;refine Bc (γ:=MP) (kf 9) (fun p=>⟨122,(Aa (Aa (Aa (Aa (Aa (Aa (Aa (Aa (Aa Ba 0 (.ptr 2 1 0 0)) 1 (.int .i64 (v:Int))) 5 (.ref 0 f.blocks.length 0 f.blocks.length)) 6 (.ref 1 f.blocks.length 0 f.blocks.length)) 7 (.ref 8 p.es.length 0 p.todo.length)) 12 (.int .i64 (b:Int))) 95 (aR (Aw f) b)) 96 (.int .i64 ((Aw f b).length:Int))) 97 (.int .i64 (p.j:Int))),(HA (nb [(.row true 1 (iC f.blocks.length (firstG f G v))),(.row true 1 (bC f.blocks.length p.inn)),(.row false 8 [Ta f R (es).length (len)]),(.row false 1 (Ay (aR (Aw f)) f.blocks.length)),(.row false 1 (Ay (oR f.blocks.length R (SB f)) R)),(.row false 1 (Ay (gR f) f.blocks.length)),(.row true 1 (es)),(.row true 1 (bC R (w))),(.row true 1 p.es)]) (DF f R (SB f) G))⟩) (fun p=>MPI f G v b (2*Mb f.blocks.length inn+todo'.length) p) (fun p=>(Aw f b).length-p.j) ⟨inn,todo',es',0⟩ (Sub.mk' (by repeat(first | exact ESub.new _ | refine ESub.put ?_ (by first | rfl | exact congrArg (fun m:Nat=>some (AV.int .i64 (m:Int))) (by simp)))) (B1 (k0:=9) rfl jX FX Ym)) ⟨hM.1.pop,hib,hM.2.pop,Nat.le_refl _⟩ (fun g b hb=>BI (k0:=9) rfl hb) ?_
  intro p hP;refine wk 5 ?_;refine asp 98 (fun hb6=>?_) fun hb6=>?_
  .
   refine act ?_;have hjl:p.j<(Aw f b).length:=by have h:=hb6;simp at h;exact h
   obtain⟨a,ha⟩:=Ae hjl;have ha2:=JM (List.mem_of_getElem? ha);refine wk 5 ?_;refine aq 99 (IC Ag (b:=4*b+0+16) (es:=(Aw f b).map BH) rfl rfl rfl rfl rfl rfl ((Ao _ _ _).trans (congrArg some (jy hb))) rfl (Int.natCast_nonneg _) (by rw[List.length_map];omega)) ?_;refine aq 100 (At Ag rfl rfl rfl (.ptr _ _ _ _ true 1 ((Aw f b).map BH) (BH a) ((Ao _ _ _).trans (congrArg some ((jy hb).trans (RR (k:=p.j) (by rw[List.length_map];omega))))) rfl (by rw[Int.toNat_natCast,List.getElem?_map,ha];rfl)) rfl) ?_;refine wk 6 ?_;refine aq 103 (Ab Ag rfl rfl rfl rfl rfl rfl BC (An _ _).symm rfl (Int.natCast_nonneg _) (by omega)) ?_;refine aq 104 (At Ag rfl rfl rfl (.ptr _ _ _ _ _ _ _ [.int .i64 (firstG f G v a:Int)] BC (An _ _).symm (by rw[Nat.zero_add,Int.toNat_natCast];exact BV ha2)) rfl) ?_;refine wk 2 ?_;refine EY 106 (fun hb7=>?_) fun hb7=>?_
   .
    refine wk 1 ?_;have hz:=hb7;refine wk 1 ?_;refine aq 109 (Ab Ag rfl rfl rfl rfl rfl rfl BC (An _ _).symm rfl (Int.natCast_nonneg _) (by omega)) ?_;refine aq 110 (At Ag rfl rfl rfl (.ptr _ _ _ _ _ _ _ [.bool (p.inn a)] BC (An _ _).symm (by rw[Nat.zero_add,Int.toNat_natCast];exact BV ha2)) rfl) ?_;refine wk 3 ?_;refine asp 112 (fun hb8=>?_) fun hb8=>?_
    .
     refine act ?_;have h0:firstG f G v a=0:=by have h:=hz;simp at h;omega
     have hni:p.inn a=false:=by have h:=hb8;simpa using h
     refine wk 4 ?_;refine aq 115 (Ab Ag rfl rfl rfl rfl rfl rfl BC (An _ _).symm rfl (Int.natCast_nonneg _) (by omega)) ?_;refine AOps.w rfl rfl (o_store Ag rfl rfl rfl rfl rfl BC (An _ _).symm (by rw[Nat.zero_add,Int.toNat_natCast];exact BV ha2) rfl (by decide) rfl (fun _=>rfl)) ?_;refine wk 4 ?_;refine ax 118 (Cp Ag rfl rfl rfl rfl rfl rfl (by decide) rfl rfl rfl rfl rfl rfl) ?_;refine ax 119 (LM Ag (es:=p.es) rfl rfl rfl rfl rfl rfl rfl rfl BC rfl hP.st.le rfl rfl (Nat.zero_lt_succ _) (.lst _ _) rfl (fun _=>rfl) (by have:=hP.st.max;show _*8<=_;omega) (by have:=hP.st.max;simp only[maxLen];omega)) ?_;refine wk 3 ?_;refine aq 120 (Bk rfl rfl hjl (by have:=Kq f b;simp only[maxLen];omega)) ?_;refine wk 2 ?_;exact⟨⟨Cx p.inn a true,p.todo++[a],CY p.es p.todo.length (BH a),p.j+1⟩,DropK.mk' m9 (Bm (k0:=9) rfl tF FX (Bd (Ar _) f R _ _)),(hP.push ha h0 hni),(by show(Aw f b).length-(p.j+1)<(Aw f b).length-p.j;omega)⟩
    refine acf ?_;have hno: ¬(firstG f G v a=0/\p.inn a=false):=fun e=>by
     have h:=hz;have h2:=hb8;simp[e.1,e.2]at h h2
    exact zt20
   refine wk 1 ?_;have hz:=hb7;refine wk 7 ?_;have hno: ¬(firstG f G v a=0/\p.inn a=false):=fun e=>by
    have h:=hz;have h2:=hb7;simp[e.1,e.2]at h h2
   exact zt20
  refine acf ?_;have hjge:(Aw f b).length<=p.j:=by have h:=hb6;simp at h;omega
  refine wk 1 ?_;exact⟨⟨p.inn,p.todo,p.es⟩,DropK.mk' Im (Bm (k0:=9) rfl jX FX (Bd (Ar _) f R _ _)),⟨(by have h:=hP.k;rw[List.drop_eq_nil_iff.2 hjge]at h;exact h.any),hP.st⟩,(Nat.lt_of_le_of_lt hP.mu (by show 2*Mb f.blocks.length inn+todo'.length<2*Mb f.blocks.length inn+(todo'++[b]).length;simp))⟩
 refine acf ?_;have htd:todo=[]:=by
  rcases E2 todo with h |⟨L,b,h⟩
  . exact h
  . have h2:=hb5;rw[h]at h2;simp at h2
 subst htd;refine wk 2 ?_;refine AGo.ghost (.freezeA 6 1 rfl rfl (An _ _).symm) ?_;refine wk 5 ?_;refine⟨[_],⟨rfl,trivial⟩,?_,(Ma rfl (by repeat(first | exact trivial | refine⟨by first | rfl |((try simp only[hputs]);repeat(first | rfl | exact Aq _ _ _ | refine AA (by exact Af (by omega)) ?_ | refine hrm_skip (by omega) ?_ | refine(CG _ PH).trans ?_)),?_⟩)) (fun x_=>by dsimp only;rw[Fc _ (by omega)];exact Ao _ _ _))⟩;show AV.lst false (bC f.blocks.length inn)=_;rw[fe];exact congrArg Cu (Kh fun b hb=>hM.1.done hs hb)
theorem ew(t:Tac):APure Tryz.prog 86 [.agg t.cells] (fun r=>r= .bool t.pure):=by
 refine APure.of_body (n:=19) Ag Tryz.func86 rfl rfl ?_;refine Nk ?_;refine ax 1 (GW 8 0) ?_;refine wk 15 ?_;refine asp 5 (fun hb1=>?_) fun hb1=>?_
 .
  refine wk 7 ?_;exact Yg
 refine wk 6 ?_;refine asp 5 (fun hb2=>?_) fun hb2=>?_
 .
  refine wk 7 ?_;exact Yg
 refine wk 5 ?_;refine asp 5 (fun hb3=>?_) fun hb3=>?_
 .
  refine wk 5 ?_;exact Yg
 refine wk 6 ?_;refine asp 9 (fun hb4=>?_) fun hb4=>?_
 .
  refine wk 7 ?_;refine EY 14 (fun hb5=>?_) fun hb5=>?_
  .
   refine wk 6 ?_;exact Yg
  refine wk 6 ?_;exact Yg
 refine wk 6 ?_;exact Yg
end Go.Proofs.YtbbfelelocccmaaGreat.Sv
