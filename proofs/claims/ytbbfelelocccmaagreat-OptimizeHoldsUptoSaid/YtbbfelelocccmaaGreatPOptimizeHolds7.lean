/-
  WALKS IN A ROUND OF A RANGE OVER A FUNCTION: own work, over no program.
-/
import Derived.Test.YtbbfelelocccmaaGreatPOptimizeHolds3
import Derived.RangeFuncFrom
import Derived.TacticsIn
import Derived.Test.YtbbfelelocccmaaGreatPOptimizeHolds5
import Derived.Test.YtbbfelelocccmaaGreatPOptimizeHolds2
import Derived.RangeFuncLeaves
import Derived.RangeFuncKeeps
import Derived.Shelf.Abstract
import Derived.WalkKit
import Derived.OwnWalkIn
import Derived.TacticsInMore
import Derived.LoopNIn
import Derived.LoopIn
import Derived.Test.YtbbfelelocccmaaGreatPOptimizeHolds6
import Derived.Test.YtbbfelelocccmaaGreatPOptimizeHolds4
set_option linter.unusedVariables false
set_option linter.unusedSimpArgs false
set_option maxRecDepth 100000
set_option maxHeartbeats 2000000
namespace Go.Proofs.YtbbfelelocccmaaGreat.Sv
open Go
abbrev Fr(l:Nat):Fence:=Fence.wide.inRound l
variable {P : Program} {l n : Nat}
variable {args : Array Value} {w : World}
theorem ij{f:FuncId}{R:Ending->World->Prop}(h:Calls P f args w R):CallsIn (Fr l) n P f args w R:=callsIn_wide (n:=n).2 h
theorem kO{row:String}{R:Value->World->Prop}(h:Rows P row args w R):RowsIn (Fr l) n P row args w R:=fun c cs _=>
 let ⟨v,w',r,s⟩:=h c cs
 ⟨v,w',r,stepsIn_wide.2 s⟩
def Ni(o:Oper):Bool:=match o.op with
  | .defer _=>false
  |_=>true
theorem c8{o:Oper}{a:Act}{N:Act->World->Prop}{Q:Exit->Act->World->Prop}(hd:Ni o=true)(h:o.wp P a w N Q):o.wpIn (Fr l) n P a w N Q:=by
 refine⟨fun _ _=>trivial,?_⟩;rw[Oper.semAt_eq _ _ _ (fun c e=>by unfold Ni at hd;rw[e]at hd;cases hd)];unfold Oper.wp at h;generalize(execOp a.eval o).run P w=res at h|-
 cases res with
 |ok x w'=>
  cases x with
  |value v=>exact h
  |skip=>exact h
  |defer d=>exact h
  |enter f args=>exact⟨fun e=>(by cases e),ij h⟩
  |row r args=>exact⟨fun e=>(by cases e),kO h⟩
  |_=>exact h.elim
 |halt x w'=>
  cases x with
  |panic v=>exact h
  |_=>exact h.elim
theorem di{ops:Array Oper}{Q:Exit->Act->World->Prop}(hq:¬LetsOut Q):∀(L:List Oper),L.all Ni=true->∀{a:Act} {w:World},wpList P ops Q L a w->wpListIn (Fr l) n P ops Q L a w
 | [],_,_,_,h=>h
 |o::L,hd,a,w,h=>by
  simp only[qQ1,q66]at hd;have ih:=@di ops Q hq L hd.2;unfold wpList at h;unfold wpListIn
  by_cases hw:Region.wanted o (yielded ops a.tmps)=true
  . rw[qK0 hw]at h|-;rcases h with h|⟨_,h⟩
    . exact c8 hd.1 (qX8 (fun a' w' hx=>ih hx) h)
    . exact absurd h hq
  . rw[qZ9 hw]at h|-;exact⟨fun _ _=>trivial,ih h⟩
def AGoR(P:Program)(l n:Nat)(c:Code)(s:Ar)(Q:Exit->Ar->Prop):Prop:=
  ∀H ι a w,Sim H ι s a w->c.wpIn (Fr l) n P (Post H ι s.h w Q) a w
variable {s s' : Ar} {Q : Exit -> Ar -> Prop}
theorem AGoR.skip(h:Q .normal s):AGoR P l n .skip s Q:=fun H ι a w hs=>wpIn_skip ⟨s,H,ι,h,hs,qK3 _ _ _ _⟩
theorem AGoR.exit{id:Nat}(h:Q (.exit id) s):AGoR P l n (.exit id) s Q:=fun H ι a w hs=>wpIn_exit ⟨s,H,ι,h,hs,qK3 _ _ _ _⟩
theorem AGoR.mono{c:Code}{Q':Exit->Ar->Prop}(h:AGoR P l n c s Q)(hq:∀e s,Q e s->Q' e s):AGoR P l n c s Q':=fun H ι a w hs=>wpIn_mono (h H ι a w hs) fun e a' w' hp=>hp.mono (hq e)
theorem AGoR.seq{x y:Code}(h:AGoR P l n x s (El (fun s'=>AGoR P l n y s' Q) Q)):AGoR P l n (.seq x y) s Q:=by
 intro H ι a w hs;refine wpIn_seq (wpIn_mono (h H ι a w hs) fun e a' w' hp=>?_)
 cases e with
 |normal=>
  obtain⟨s',H',ι',q,r,t⟩:=hp;exact wpIn_mono (q H' ι' a' w' r) fun e a'' w'' hp'=>Post.step hs.heap r.heap t hp'
 |_=>exact hp
theorem AGoR.cond{t:Nat}{x y:Code}{b:Bool}(he:s.env t=some (.bool b))(h1:b=true->AGoR P l n x s Q)(h2:b=false->AGoR P l n y s Q):AGoR P l n (.cond (.tmp t) x y) s Q:=by
 intro H ι a w hs;obtain⟨v,hv,hr⟩:=hs.env t _ he
 cases hr
 have hev:a.eval (.tmp t)=.bool b:=by simp[Act.eval,hv]
 exact wpIn_cond_split hev (fun e=>h1 e H ι a w hs) (fun e=>h2 e H ι a w hs)
theorem AGoR.cond_true{t:Nat}{x y:Code}(b:Bool)(he:s.env t=some (.bool b))(hb:b=true)(h:AGoR P l n x s Q):AGoR P l n (.cond (.tmp t) x y) s Q:=
 AGoR.cond he (fun _=>h) bZ
theorem AGoR.cond_false{t:Nat}{x y:Code}(b:Bool)(he:s.env t=some (.bool b))(hb:b=false)(h:AGoR P l n y s Q):AGoR P l n (.cond (.tmp t) x y) s Q:=
 AGoR.cond he bZ (fun _=>h)
theorem AGoR.block{id:Nat}{c:Code}(h:AGoR P l n c s (WG id Q)):AGoR P l n (.block id c) s Q:=by
 intro H ι a w hs;refine wpIn_block (wpIn_mono (h H ι a w hs) fun e a' w' hp=>?_);exact tz
variable {c : Code}
theorem AGoR.ghost(hg:Ghost s s')(h:AGoR P l n c s' Q):AGoR P l n c s Q:=fun H ι a w hs=>by
 obtain⟨H',ι',h1,h2⟩:=hg H ι a w hs;exact wpIn_mono (h H' ι' a w h1) fun e a' w' hp=>Post.step hs.heap h1.heap h2 hp
theorem AGoR.sub(hg:Sub s' s)(h:AGoR P l n c s' Q):AGoR P l n c s Q:=AGoR.ghost (.of_sub hg) h
theorem AGoR.split{m:Nat}{e:A3}{h:Aj}(d:Nat){b:Bool}(he:e d=some (.bool b))(h1:b=true->AGoR P l n c ⟨m,Aa e d (.bool true),h⟩ Q)(h2:b=false->AGoR P l n c ⟨m,Aa e d (.bool false),h⟩ Q):AGoR P l n c ⟨m,e,h⟩ Q:=by
 exact oP
theorem AGoR.loop{γ:Type}{c:Code}(I:γ->Ar->Prop)(μ:γ->Nat)(g0:γ)(h0:I g0 s)
 (round:∀g s,I g s->AGoR P l n c s (El (fun s'=>∃g',I g' s'/\μ g'<μ g) Q)):AGoR P l n (.loop c) s Q:=by
 intro H ι a w hs b k cs hro hb hr;have key:∀m g s1 H1 ι1 a1 w1,μ g=m->I g s1->Sim H1 ι1 s1 a1 w1->Step H ι s.h w H1 ι1 s1.h w1->
  ∃e a' w',Post H ι s.h w Q e a' w'/\ArrivesIn (Machine.fenced P (Fr l)) P (lone (b.atR a1 (.code c:: .inLoop c::k)) cs w1) b k cs e a' w':=by
  intro m
  induction m using Nat.strongRecOn with
  |_ m ih=>
   intro g s1 H1 ι1 a1 w1 hn hI hs1 hst;obtain⟨e,a₂,w₂,hq,harr⟩:=round g s1 hI H1 ι1 a1 w1 hs1 b (.inLoop c::k) cs hro hb hr;obtain⟨s2,H2,ι2,q,r,t⟩:=hq;have t':=hst.trans hs.heap hs1.heap t
   cases e with
   |normal=>
    obtain⟨g',hI',hlt⟩:=q;obtain⟨e₂,a₃,w₃,hq₂,harr₂⟩:=ih (μ g') (hn▸hlt) g' s2 H2 ι2 a₂ w₂ rfl hI' r t';exact⟨e₂,a₃,w₃,hq₂,.of_steps (StepsIn.trans harr (.one (fenced_calm hb hr rfl) stepR_inLoop)) harr₂⟩
   |exit id=>exact⟨.exit id,a₂,w₂,⟨s2,H2,ι2,q,r,t'⟩,.pass (x:=.inLoop c) rfl (fun _ _=>.inl Aq) harr⟩
   |goto t=>exact⟨.goto t,a₂,w₂,⟨s2,H2,ι2,q,r,t'⟩,.pass (x:=.inLoop c) rfl (fun _ _=>.inl Aq) harr⟩
   |ret=>exact⟨.ret,a₂,w₂,⟨s2,H2,ι2,q,r,t'⟩,.pass (x:=.inLoop c) rfl (fun _ _=>.inl Aq) harr⟩
   |panic ch=>exact⟨.panic ch,a₂,w₂,⟨s2,H2,ι2,q,r,t'⟩,.pass (x:=.inLoop c) rfl (fun _ _=>.inl Aq) harr⟩
   |outgrown=>exact⟨.outgrown,a₂,w₂,⟨s2,H2,ι2,q,r,t'⟩,.pass (x:=.inLoop c) rfl (fun _ _=>.inl Aq) harr⟩
 obtain⟨e,a',w',hq,harr⟩:=key (μ g0) g0 s H ι a w rfl h0 hs (qK3 _ _ _ _);exact⟨e,a',w',hq,.of_steps (.one (fenced_calm hb hr rfl) stepR_loop) harr⟩
theorem AGoR.loopI{γ:Type}(inv:γ->Ar)(F:γ->Prop)(μ:γ->Nat)(g0:γ)(h0:Sub (inv g0) s)(hF:F g0)
 (round:∀g,F g->AGoR P l n c (inv g) (El (fun s'=>∃g',Sub (inv g') s'/\F g'/\μ g'<μ g) Q)):AGoR P l n (.loop c) s Q:=
 AGoR.loop (fun g s'=>Sub (inv g) s'/\F g) μ g0 ⟨h0,hF⟩ fun g s' hs=>AGoR.sub hs.1 ((round g hs.2).mono fun e s'' hq=>by
  cases e with
  |normal=>obtain⟨g',h1,h2,h3⟩:=hq;exact⟨g',⟨h1,h2⟩,h3⟩
  |_=>exact hq)
theorem AGoR.region{id:Nat}{ops:Array Oper}(hd:ops.toList.all Ni=true)(h:AOps P ops ops.toList s (fun s'=>Q .normal s')):AGoR P l n (.region id ops false) s Q:=fun H ι a w hs=>by
 have hpost:∀e a2 w2,Post H ι s.h w (El (fun s'=>Q .normal s') fun _ _=>False) e a2 w2->Post H ι s.h w Q e a2 w2:=fun e a2 w2 hp=>by
  exact ro
 have hlo:¬LetsOut (Post H ι s.h w (El (fun s'=>Q .normal s') fun _ _=>False)):=fun⟨a,w,s',H',ι',q,r⟩=>q
 exact wpIn_mono (wpIn_region_list (di hlo _ hd (h H ι a w hs))) hpost
abbrev qV6:=@AGoR.region
end Go.Proofs.YtbbfelelocccmaaGreat.Sv
namespace Go.Proofs.YtbbfelelocccmaaGreat.Sv
open Go Go.RowKit
def AObj.noMap:AObj->Bool
  | .map _=>false
  | .iter0=>false
  |_=>true
def NoMap(h:Aj):Prop:=∀b o,h b=some o->o.noMap=true
theorem NoMap.new:NoMap hNew:=fun b o h=>by cases h;rfl
variable {h : Aj}
theorem NoMap.put(hh:NoMap h)(b:Nat){o:AObj}(ho:o.noMap=true):NoMap (Af h b o):=fun c q hq=>by
 by_cases hc:c=b
 . subst hc;rw[AB]at hq;cases hq;exact ho
 . rw[Bd _ _ hc]at hq;exact hh c q hq
theorem NoMap.none:NoMap hNone:=fun b o h=>by cases h
variable {w w' : World} {row : Option Nat} {H : AJ} {ι : BD}
theorem HeapRel.grownO(hr:HeapRel H ι h w)(hm:NoMap h)(hg:w.grownBy w' row)(hrow:∀r,row=some r->∃o:Obj,w.heap[r]?=some o/\o.isCells=false):HeapRel H ι h w':=by
 have key:∀(b:Nat) (c:Array Value) (T:TypeId) (fr:Nat×Nat),w.heap[b]?=some (Obj.cells c T fr)->w'.heap[b]?=some (Obj.cells c T fr):=fun b c T fr hb=>by
  refine(hg.block b (q03.1 hb).1 (fun e=>?_)).trans hb;obtain⟨o,ho,hc⟩:=hrow b e.symm;rw[hb]at ho;cases ho;cases hc
 refine⟨fun b c hb=>?_,hr.free,fun b o h1 h2=>?_,hr.inj,hr.glob⟩
 . obtain⟨T,fr,e⟩:=hr.know b c hb;exact⟨T,fr,key _ _ _ _ e⟩
 . obtain⟨r,e1,e2,e3⟩:=hr.obj b o h1 h2;refine⟨r,e1,?_,e3⟩
   cases o with
   |free=>trivial
   |map kvs=>have:=hm b _ h1;cases this
   |iter0=>have:=hm b _ h1;cases this
   |row p sz es=>
    obtain⟨r1,r2,r3,r4,r5,r6⟩:=e2;refine⟨r1,r2,r3,r4,r5,fun hsol=>?_⟩;obtain⟨c,T,⟨fr,q1,q2⟩,q3,q4⟩:=r6 hsol;exact⟨c,T,⟨fr,key _ _ _ _ q1,q2⟩,q3,q4⟩
variable {H' : AJ} {ι' : BD} {h' : Aj}
theorem Step.grown{w'':World}(st:Step H ι h w H' ι' h' w')(hg:w'.grownBy w'' row)(hrow:∀r,row=some r->w.heap.size<=r):Step H ι h w H' ι' h' w'' where
 size:=qX2 st.size hg.size
 os:=hg.os.trans st.os
 out:=hg.output.trans st.out
 keep:=fun rb hlt hno=>by
  refine(hg.block rb (q51 hlt st.size) (fun e=>?_)).trans (st.keep rb hlt hno);have:=hrow rb e.symm;omega
 kle:=st.kle
 knew:=st.knew
 lle:=st.lle
 lframe:=st.lframe
 newrb:=st.newrb
 dom:=st.dom
theorem Step.others(hr:HeapRel H ι h w)(hm:NoMap h)(st:Step H ι h w H' ι' h' w'):KeepsOthers w w':=
 ⟨st.size,fun k o hk ho=>by
  have hlt:=(q03.1 hk).1;refine(st.keep k hlt ?_).trans hk
  rintro⟨b,q,r,h1,h2,h3,h4,h5⟩
  obtain⟨r',e1,e2,_⟩:=hr.obj b q h1 h2;rw[h3]at e1;cases e1
  cases q with
  |free=>cases h2
  |map kvs=>have:=hm b _ h1;cases this
  |iter0=>have:=hm b _ h1;cases this
  |row p sz es=>
   obtain⟨_,_,_,_,_,r6⟩:=e2;obtain⟨c,T,⟨fr,q1,_⟩,_,_⟩:=r6 h4;rw[h5]at q1;rw[hk]at q1;cases q1;cases ho⟩
theorem Step.of_sub(hh:HSub h' h):Step H ι h w H ι h' w:=⟨qZ0 _,rfl,rfl,fun _ _ _=>rfl,qK1 _,fun _ h=>.inl h,qK2 _,fun _ _=>rfl,fun _ _ h _=>.inl h,fun b hb=>by
 cases e:h' b with
 |none=>rfl
 |some o=>rw[hh b o e]at hb;cases hb⟩
variable {P : Program}
variable {Q : Exit -> Act -> World -> Prop} {s : Ar}
theorem jE{α:Type}{a:Act}(hs:Sim H ι s a w){g:Operand}{p d ida:Nat}{oa:Oper}{body:Code}{gf:Nat}{cs:List AV}
 (hoa:oa.op=.assign (.tmp p)) (hda:oa.dst=some d) (hga:oa.guard=none) (hp:p<s.n) (hd:d<s.n) (hpd:p≠d)
 (hg:At s.env g=some (.fn (.func gf) [] cs)) (eg:∀args w,(callFunc gf args).run P w=.ok (.enter gf args) w)
 {enc:α->Value} {av:α->AV} (hav:∀x H ι,Rel H ι (av x) (enc x)) {S:List α->Prop} {N:Nat}
 (hseq:∀lb:Array Value,lb.size=cs.length->(∀(j:Nat) (x:AV) (v:Value),cs[j]?=some x->lb[j]?=some v->Rel H ι x v)->SeqStopsK Fence.wide 3 P gf lb (fun x=> #[enc x]) (fun _ _=>True) S (fun _=>True) N w)
 (e0:A3) (hI:List α->Aj) (he0:ESub e0 s.env) (hm0:NoMap s.h) (hm:∀pre,NoMap (hI pre)) (h0:HSub (hI []) s.h)
 (hbody:∀(l:Nat) (pre:List α) (x:α),pre.length<N->AGoR P l 2 body ⟨s.n,Aa (Aa e0 p (av x)) d (av x),hI pre⟩ (El (fun s'=>HSub (hI (pre++[x])) s'.h) (fun _ _=>False)))
 (hdone:∀(D:Nat) (xs:List α) (W:World) (H':AJ) (ι':BD),w.heap.size<=D->S xs->HeapRel H' ι' (hI xs) W->Step H ι s.h w H' ι' (hI xs) W->W.heap[D]?=some (.deferred (some []))->Q .normal {tmps:=a.tmps,defers:=[{target:=.collected D,args:= #[]}]} W):
 (Code.rangeFunc g #[p] (.region ida #[oa] false) body).wp P Q a w:=by
 obtain⟨us,lb,hge,hus,hlb,_,hrl⟩:∃us lb,a.eval g=.func (.func gf) us lb/\([]:List AV).length=us.size/\cs.length=lb.size/\True/\∀(j:Nat) (x:AV) (v:Value),cs[j]?=some x->lb[j]?=some v->Rel H ι x v:=by
  obtain⟨us,vs,e1,e2,e3,_,e5⟩:=(Aw hs hg).fn_inv;exact⟨us,vs,e1,e2,e3,trivial,e5⟩
 have hus':us= #[]:=by
  cases us with
  |mk l=>cases l with
   |nil=>rfl
   |cons y l=>simp at hus
 subst hus';refine wpIn_wide (n:=4).1 ?_;have hpn:p<a.tmps.size:=by rw[hs.n];exact hp
 have hdn:d<a.tmps.size:=by rw[hs.n];exact hd
 have hI0:∃H' ι',HeapRel H' ι' (hI []) w/\Step H ι s.h w H' ι' (hI []) w:=⟨H,ι,hs.heap.sub h0,Step.of_sub h0⟩
 refine wpIn_rangeFunc_ownF (F:=Fence.wide) (n:=4) (α:=α) (Q:=Q) (a:=a) (w:=w) (w0:=w) rfl Al hge trivial eg (hseq lb hlb.symm hrl) (fun _ _=>trivial) (fun _ _ _ _ _ _ _ _=>trivial) (Below.refl _ _) (fun _=>rfl)
  (fun pre W=>∃H' ι',HeapRel H' ι' (hI pre) W/\Step H ι s.h w H' ι' (hI pre) W) (fun _ _ _=>False) ?_ (fun _ _ _ _ _ h _ _=>h) hI0
  (fun x=>{tmps:=(a.tmps.setIfInBounds p (enc x)).setIfInBounds d (enc x),defers:=[]}) ?_ ?_ ?_ (fun _ _ _ _ _ _ h _=>h.elim)
 . rintro pre W W' row ⟨H',ι',k1,k2⟩ hg' hr
   exact⟨H',ι',k1.grownO (hm pre) hg' (fun r e=>(hr r e).2),k2.grown hg' (fun r e=>(hr r e).1)⟩
 . intro l x W K hK;refine wpIn_region_list ?_;show wpListIn _ _ P _ _ [oa] _ W;unfold wpListIn;have hw:Region.wanted oa (yielded #[oa] (((#[p].zip #[enc x]).foldl (fun t (q:Nat×Value)=>t.setIfInBounds q.1 q.2) a.tmps)))=true:=by simp[Region.wanted,hga]
   rw[qK0 hw];refine c8 (by unfold Ni;rw[hoa]) ?_;unfold Oper.wp;simp only[execOp,hoa,qX1,Oper.upon];have e1:(#[p].zip #[enc x]).foldl (fun t (q:Nat×Value)=>t.setIfInBounds q.1 q.2) a.tmps=a.tmps.setIfInBounds p (enc x):=by simp
   have e2:({tmps:=a.tmps.setIfInBounds p (enc x),defers:=[]}:Act).eval (.tmp p)=enc x:=by
    simp[Act.eval,hpn]
   show K _ W;rw[hda];simpa[Act.put,Act.eval,hpn]using hK
 . rintro l pre x W ⟨H',ι',k1,k2⟩ hlt
   have hsim:Sim H' ι' ⟨s.n,Aa (Aa e0 p (av x)) d (av x),hI pre⟩ {tmps:=(a.tmps.setIfInBounds p (enc x)).setIfInBounds d (enc x),defers:=[]} W:=by
    refine⟨by simp[hs.n],rfl,fun t y hy=>?_,k1⟩
    by_cases htd:t=d
    . subst htd;have hy':Aa (Aa e0 p (av x)) t (av x) t=some y:=hy;rw[DG]at hy';cases hy';exact⟨enc x,by simp[hdn],hav x _ _⟩
    . have hy':Aa (Aa e0 p (av x)) d (av x) t=some y:=hy;rw[FK _ _ htd]at hy'
      by_cases htp:t=p
      . subst htp;rw[DG]at hy';cases hy';refine⟨enc x,?_,hav x _ _⟩;show((a.tmps.setIfInBounds t (enc x)).setIfInBounds d (enc x))[t]?=_;rw[q00 (fun e=>htd e.symm)];simp[hpn]
      . rw[FK _ _ htp]at hy';obtain⟨v,v1,v2⟩:=hs.env t y (he0 t y hy');refine⟨v,?_,v2.mono k2.kle k2.lle⟩;show((a.tmps.setIfInBounds p (enc x)).setIfInBounds d (enc x))[t]?=_;rw[q00 (fun e=>htd e.symm),q00 (fun e=>htp e.symm)];exact v1
   refine wpIn_mono (hbody l pre x hlt H' ι' _ W hsim) fun e a' W' hp=>?_
   obtain⟨s',H2,ι2,q,r,t⟩:=hp
   cases e with
   |normal=>
    have t2:Step H' ι' (hI pre) W H2 ι2 (hI (pre++[x])) W':=t.trans k1 r.heap (Step.of_sub q);exact⟨t.others k1 (hm pre),trivial,H2,ι2,r.heap.sub q,k2.trans hs.heap k1 t2⟩
   |_=>exact q.elim
 . rintro D xs W hD hS ⟨H',ι',k1,k2⟩ hK
   have:a.defers=[]:=hs.d;have ha:{a with defers:={target:=.collected D,args:= #[]}::a.defers}=({tmps:=a.tmps,defers:=[{target:=.collected D,args:= #[]}]}:Act):=by rw[this]
   rw[ha];exact hdone D xs W H' ι' hD hS k1 k2 hK
def QD(ds:List Deferred)(K:Act->World->Prop)(a:Act)(w:World):Prop:=∃tm,a={tmps:=tm,defers:=ds}/\K {tmps:=tm,defers:=[]} w
theorem lF(tm:Array Value)(ds:List Deferred)(d:Option Nat)(v:Value):∃tm',({tmps:=tm,defers:=ds}:Act).put d v={tmps:=tm',defers:=ds}/\({tmps:=tm,defers:=[]}:Act).put d v={tmps:=tm',defers:=[]}:=by
 cases d with
 |none=>exact⟨tm,rfl,rfl⟩
 |some d=>exact⟨tm.setIfInBounds d v,rfl,rfl⟩
def HH(o:Oper):Bool:=match o.op with
  | .load .. | .store .. =>true
  |_=>false
variable {o : Oper}
theorem ZP(hd:HH o=true){ρ:Operand->Value}{x:Next}(h:(execOp ρ o).run P w=.ok x w'):(∃v,x=.value v)\/x=.skip:=by
 unfold HH at hd;unfold execOp at h
 cases ho:o.op<;>rw[ho]at hd h<;>first|(cases hd;done)|skip
 . simp only[qQ9,qX1]at h;generalize(Instr.loadAt _ _).run P w=r at h
   cases r with
   |ok v w1=>simp only[q57]at h;cases h;exact .inl ⟨v,rfl⟩
   |halt y w1=>cases h
 . simp only[qQ9,qX1]at h;generalize(Instr.storeAt _ _ _).run P w=r at h
   cases r with
   |ok v w1=>simp only[q57]at h;cases h;exact .inr rfl
   |halt y w1=>cases h
variable {tm : Array Value}
theorem p6{ds:List Deferred}{K:Act->World->Prop}(hd:HH o=true)(h:o.wp P {tmps:=tm,defers:=[]} w K Q):o.wp P {tmps:=tm,defers:=ds} w (QD ds K) (fun e=>QD ds (Q e)):=by
 unfold Oper.wp at h|-;have e:(execOp ({tmps:=tm,defers:=ds}:Act).eval o)=execOp ({tmps:=tm,defers:=[]}:Act).eval o:=by
  congr 1
 rw[e];have hnd:∀x w',(execOp ({tmps:=tm,defers:=[]}:Act).eval o).run P w=.ok x w'->(∃v,x=.value v)\/x=.skip:=fun x w' hx=>ZP hd hx
 generalize(execOp ({tmps:=tm,defers:=[]}:Act).eval o).run P w=res at h hnd|-;have Af:∀v w',K (({tmps:=tm,defers:=[]}:Act).put o.dst v) w'->QD ds K (({tmps:=tm,defers:=ds}:Act).put o.dst v) w':=fun v w' hk=>by
  obtain⟨tm',e1,e2⟩:=lF tm ds o.dst v;rw[e2]at hk;exact⟨tm',e1,hk⟩
 cases res with
 |ok x w'=>
  rcases hnd x w' rfl with⟨v,rfl⟩|rfl
  . exact Af v w' h
  . exact Af _ w' h
 |halt x w'=>
  cases x with
  |panic v=>exact⟨tm,rfl,h⟩
  |_=>exact h.elim
theorem WA{ops:Array Oper}{ds:List Deferred}{Q:Exit->Act->World->Prop}(hq:¬LetsOut Q)(hd:∀(i:Nat) o,ops[i]?=some o->HH o=true):∀(fuel:Nat) (L:Array Bool) (tm:Array Value) (w:World),wpAny P .any ops Q fuel L {tmps:=tm,defers:=[]} w->wpAny P .any ops (fun e=>QD ds (Q e)) fuel L {tmps:=tm,defers:=ds} w
 |0,L,tm,w,h=>⟨h.1,tm,rfl,h.2⟩
 |fuel+1,L,tm,w,h=>by
  refine⟨fun h0=>⟨tm,rfl,h.1 h0⟩,fun i hi=>?_⟩;have h1:=h.2 i hi;unfold wpOp at h1|-;have go:∀a w',QD ds (wpAny P .any ops Q fuel (L.setIfInBounds i true)) a w'->wpAny P .any ops (fun e=>QD ds (Q e)) fuel (L.setIfInBounds i true) a w':=fun a w' ⟨tm',e,hx⟩=>by
   subst e;exact WA hq hd fuel _ tm' w' hx
  cases ho:ops[i]? with
  |none=>rw[ho]at h1;exact WA hq hd fuel _ tm w h1
  |some o=>
   rw[ho]at h1;simp only at h1|-
   by_cases hw:Region.wanted o (yielded ops tm)=true
   . rw[qK0 hw]at h1|-;rcases h1 with h1|⟨_,h1⟩
     . exact .inl (qX8 (fun a w' hx=>go a w' hx) (p6 (hd i o ho) h1))
     . exact absurd h1 hq
   . rw[qZ9 hw]at h1|-;obtain⟨tm',e1,e2⟩:=lF tm ds o.dst undef;rw[e2]at h1;rw[e1];exact WA hq hd fuel _ tm' w h1
theorem DOps.any{ops:Array Oper}{n:Nat}{e:A3}{h:Aj}{K:Ar->Prop}(hd:DOps P ops n ops.toList e h [] K){H:AJ}{ι:BD}{a:Act}{w:World}(hs:Sim H ι ⟨n,e,h⟩ a w):
 wpAny P .any ops (Post H ι h w (El K fun _ _=>False)) ops.size (Array.replicate ops.size false) a {w with drawn:=w.drawn+1}:=by
 obtain⟨cs,e',h',h1,h2,h3⟩:=hd;have hgrow:∀rb,rb<w.heap.size->({w with drawn:=w.drawn+1}:World).heap[rb]?=w.heap[rb]?:=fun _ _=>rfl
 have hr':HeapRel H ι h {w with drawn:=w.drawn+1}:=hs.heap.grow hgrow;have hst:Step H ι h w H ι h {w with drawn:=w.drawn+1}:=Step.grow hgrow (qZ0 _) rfl rfl;have hL0:∀i,(Array.replicate ops.size false).getD i false=false:=fun i=>by
  by_cases hi:i<ops.size
  . simp[hi]
  . simp[hi]
 have hm0:∀{V:Type} (l:List (Zc V)) (g:Nat->V),CT (fun i=>(Array.replicate ops.size false).getD i false) l 0 g=g:=fun l g=>funext fun x=>GK fun i u _ _=>hL0 _
 refine HO (fun e a' w' hp=>?_) _ _ _ _ (Vf (I:=fun _=>True) (D:=[]) (K:=K) h1 trivial Ke h3 hs.heap ops.size (Array.replicate ops.size false) H ι a {w with drawn:=w.drawn+1}
  ⟨by simp,fun i hi=>by rw[hL0]at hi;cases hi⟩ (by unfold todo;simp) hs.d (by rw[hm0,hm0,hs.d0];exact⟨hs.n,hs.d,hs.env,hr'⟩) (by rw[hm0];exact hst))
 obtain⟨hD,s',H',ι',q,r,t⟩:=hp;have e2:{a' with defers:=[]}=a':=by cases a';simp only at hD;subst hD;rfl
 rw[e2]at r;exact⟨s',H',ι',q,r,t⟩
theorem pc{T:Nat->Option AC}(hT:Dz P T)(hmx:P.follows .mixedOrders=true){fn:Func}{ops:Array Oper}{id D:Nat}{H0:AJ}{ι0:BD}{h0:Aj}{w0:World}{R:AV->Aj->Prop}
 (hld:∀(i:Nat) o,ops[i]?=some o->HH o=true) (hs:Sim H ι s {tmps:=tm,defers:=[]} w) (hnm:NoMap s.h) (hr0:HeapRel H0 ι0 h0 w0) (hst:Step H0 ι0 h0 w0 H ι s.h w) (hD:w0.heap.size<=D) (hK:w.heap[D]?=some (.deferred (some [])))
 (hd:DOps P ops s.n ops.toList s.env s.h [] (fun s'=>NoMap s'.h/\∃xs,Jy T s' fn.results.toList xs/\R (Mf xs) s'.h)):
 (Code.seq (.region id ops true) .ret).wp P (bodyPostM Fence.wide 3 P fn (fun e w'=>∃v r h' H' ι',e=.returned v/\R r h'/\Rel H' ι' r v/\HeapRel H' ι' h' w'/\Step H0 ι0 h0 w0 H' ι' h' w')) {tmps:=tm,defers:=[{target:=.collected D,args:= #[]}]} w:=by
 have hlo:¬LetsOut (Post H ι s.h w (El (fun s'=>NoMap s'.h/\∃xs,Jy T s' fn.results.toList xs/\R (Mf xs) s'.h) fun _ _=>False)):=fun⟨a,w,s',H',ι',q,r⟩=>q
 refine wp_seq (wp_mono (wp_region_any hmx (WA (ds:=[{target:=.collected D,args:= #[]}]) hlo hld _ _ _ _ (DOps.any (K:=fun s'=>NoMap s'.h/\∃xs,Jy T s' fn.results.toList xs/\R (Mf xs) s'.h) hd hs))) fun e a' w' hp=>?_);obtain⟨tm',rfl,s',H',ι',q,r,t⟩:=hp
 cases e with
 |normal=>
  obtain⟨qn,xs,q1,q2⟩:=q;refine wp_ret ?_;have hoth:=t.others hs.heap hnm;have hK':=hoth.same D _ hK rfl;have hg:=grownBy_putObj' w' D (.deferred none);have hrow:∀r,some D=some r->∃o:Obj,w'.heap[r]?=some o/\o.isCells=false:=fun r e=>by cases e;exact⟨_,hK',rfl⟩
  have hr2:=r.heap.grownO qn hg hrow;have hst2:Step H0 ι0 h0 w0 H' ι' s'.h (w'.putObj D (.deferred none)):=(hst.trans hr0 hs.heap t).grown hg (fun r e=>by cases e;exact hD);refine⟨by simp,.inl ⟨D,_,rfl,run_takeDeferred hK',?_⟩⟩;obtain⟨v,e1,e2⟩:=Pg hT (s:=s') (a:={tmps:=tm',defers:=[]}) ⟨r.n,rfl,r.env,hr2⟩ q1;exact⟨v,e2,v,_,_,H',ι',rfl,q2,e1,hr2,hst2⟩
 |_=>exact q.elim
end Go.Proofs.YtbbfelelocccmaaGreat.Sv
namespace Go.Proofs.YtbbfelelocccmaaGreat.Sv
open Go Go.RowKit
variable {P : Program}
def AW(P:Program)(Q:Exit->Act->World->Prop)(H0:AJ)(ι0:BD)(h0:Aj)(w0:World)(c:Code)(s:Ar):Prop:=
  ∀H ι a w,Sim H ι s a w->Step H0 ι0 h0 w0 H ι s.h w->c.wp P Q a w
def AD(K:Act->World->Prop)(H0:AJ)(ι0:BD)(h0:Aj)(w0:World)(s:Ar):Prop:=
  ∀H ι tm w D,Sim H ι s {tmps:=tm,defers:=[]} w->Step H0 ι0 h0 w0 H ι s.h w->w0.heap.size<=D->w.heap[D]?=some (.deferred (some []))->K {tmps:=tm,defers:=[{target:=.collected D,args:= #[]}]} w
variable {Q : Exit -> Act -> World -> Prop} {H0 : AJ} {ι0 : BD} {h0 : Aj} {w0 : World} {s s' : Ar} {K : Act -> World -> Prop}
theorem AW.seq(hr:HeapRel H0 ι0 h0 w0){x y:Code}(h:AGo P x s (El (fun s'=>AW P Q H0 ι0 h0 w0 y s') (fun _ _=>False))):AW P Q H0 ι0 h0 w0 (.seq x y) s:=fun H ι a w hs hst=>by
 refine wp_seq (wp_mono (h H ι a w hs) fun e a' w' hp=>?_);obtain⟨s',H',ι',q,r,t⟩:=hp
 cases e with
 |normal=>exact q H' ι' a' w' r (hst.trans hr hs.heap t)
 |_=>exact q.elim
theorem rg{x y:Code}(h:AW P (fun e a w=>match e with
 | .normal=>y.wp P Q a w
 |e=>Q e a w) H0 ι0 h0 w0 x s):AW P Q H0 ι0 h0 w0 (.seq x y) s:=fun H ι a w hs hst=>by
 refine wp_seq (wp_mono (h H ι a w hs hst) fun e a' w' hp=>?_)
 cases e<;>exact hp
theorem AD.ghost(hr:HeapRel H0 ι0 h0 w0)(hg:Ghost s s')(h:AD K H0 ι0 h0 w0 s'):AD K H0 ι0 h0 w0 s:=fun H ι tm w D hs hst hD hK=>by
 obtain⟨H',ι',g1,g2⟩:=hg H ι _ w hs;exact h H' ι' tm w D g1 (hst.trans hr hs.heap g2) hD hK
variable {cs : List AV}
theorem AW.range(hr:HeapRel H0 ι0 h0 w0){α:Type}{g:Operand}{p d ida b0:Nat}{oa:Oper}{body:Code}{gf:Nat}
 (hoa:oa.op=.assign (.tmp p)) (hda:oa.dst=some d) (hga:oa.guard=none) (hp:p<s.n) (hd:d<s.n) (hpd:p≠d)
 (hg:At s.env g=some (.fn (.func gf) [] cs)) (eg:∀args w,(callFunc gf args).run P w=.ok (.enter gf args) w)
 (enc:α->Value) (av:α->AV) (hav:∀x H ι,Rel H ι (av x) (enc x)) {S:List α->Prop} {N:Nat}
 (hseq:∀H ι w,HeapRel H ι s.h w->∀lb:Array Value,lb.size=cs.length->(∀(j:Nat) (x:AV) (v:Value),cs[j]?=some x->lb[j]?=some v->Rel H ι x v)->SeqStopsK Fence.wide 3 P gf lb (fun x=> #[enc x]) (fun _ _=>True) S (fun _=>True) N w)
 (e0:A3) (hI:List α->Aj) (he0:ESub e0 s.env) (hm0:NoMap s.h) (hm:∀pre,NoMap (hI pre)) (h1:HSub (hI []) s.h)
 (hbody:∀(l:Nat) (pre:List α) (x:α),pre.length<N->AGoR P l 2 body ⟨s.n,Aa (Aa e0 p (av x)) d (av x),hI pre⟩ (El (fun s'=>HSub (hI (pre++[x])) s'.h) (fun _ _=>False)))
 (hdone:∀xs,S xs->AD (Q .normal) H0 ι0 h0 w0 ⟨s.n,s.env,hI xs⟩):
 AW P Q H0 ι0 h0 w0 (.block b0 (.rangeFunc g #[p] (.region ida #[oa] false) body)) s:=fun H ι a w hs hst=>by
 refine wp_block ?_;refine jE hs hoa hda hga hp hd hpd hg eg hav (hseq H ι w hs.heap) e0 hI he0 hm0 hm h1 hbody fun D xs W H' ι' hD hS hr' hst' hK=>?_
 show Q .normal _ W;refine hdone xs hS H' ι' _ W D ⟨hs.n,rfl,fun t x hx=>?_,hr'⟩ (hst.trans hr hs.heap hst') (qX2 hst.size hD) hK;obtain⟨v,e1,e2⟩:=hs.env t x hx;exact⟨v,e1,e2.mono hst'.kle hst'.lle⟩
variable {n : Nat} {c : Code}
theorem AGoR.join{l:Nat}{R:Exit->Ar->Prop}{γ:Type}(inv:γ->Ar)(F:γ->Prop)(h:AGoR P l n c s (El (fun s'=>∃g,Sub (inv g) s'/\F g) R))(k:∀g,F g->R .normal (inv g)):AGoR P l n c s R:=fun H ι a w hs=>
 wpIn_mono (h H ι a w hs) fun e a' w' hp=>by
  exact tj
variable {e : A3} {h : Aj}
theorem Ghost.freezeP(t b:Nat){sz:Nat}(ht:e t=some (.ptr b 1 0 0))(hb:h b=some (.row true sz [cs])):Ghost ⟨n,e,h⟩ ⟨n,Aa e t (.loc cs),hrm h b⟩:=fun H ι a w hs=>by
 have hr:=hs.heap;obtain⟨r,hl,⟨r1,r2,r3,r4,r5,r6⟩,r7⟩:=hr.obj b _ hb rfl;have hsol:r.csz≠0:=by simp at r4;omega
 have hsubh:∀x o,hrm h b x=some o->h x=some o:=fun x o hx=>by
  exact iZ
 have hdom:∀x,h x=none->hrm h b x=none:=fun x hx=>by
  cases e:hrm h b x with
  |none=>rfl
  |some o=>rw[hsubh x o e]at hx;cases hx
 obtain⟨c,TT,w1,w2,w3⟩:=r6 hsol;have hnone:H r.rb=none:=r7 hsol;have hkle:KLe H (Mm H r.rb c):=fun x c' e=>by
  rw[Gm _ _ (fun hx=>by subst hx;rw[hnone]at e;cases e)];exact e
 have hsub:=hr.sub hsubh;have hheap:HeapRel (Mm H r.rb c) ι (hrm h b) w:=by
  refine⟨fun x c' e=>?_,hsub.free,fun x o h1 h2=>?_,hsub.inj,hr.glob.mono hkle⟩
  . by_cases hx:x=r.rb
    . subst hx;rw[HI]at e;cases e;obtain⟨fr,w1',_⟩:=w1;exact⟨TT,fr,w1'⟩
    . rw[Gm _ _ hx]at e;exact hr.know x c' e
  . obtain⟨r',e1,e2,e3⟩:=hsub.obj x o h1 h2;exact tg
 have hstep:Step H ι h w (Mm H r.rb c) ι (hrm h b) w:=by
  refine⟨qZ0 _,rfl,rfl,fun _ _ _=>rfl,hkle,fun x hx=>?_,qK2 _,fun _ _=>rfl,fun _ _ h _=>.inl h,hdom⟩
  by_cases hx':x=r.rb
  . subst hx';exact .inr (.inr ⟨b,_,r,hb,rfl,hl,hsol,rfl⟩)
  . rw[Gm _ _ hx']at hx;exact .inl hx
 refine⟨_,ι,⟨hs.n,hs.d,fun u y hy=>?_,hheap⟩,hstep⟩
 by_cases hu:u=t
 . subst hu;simp only[DG,q53]at hy;subst hy;obtain⟨v,h1,h2⟩:=hs.env u _ ht;have hv:=h2.ptr_live hl r3;subst hv;refine⟨_,h1,.loc _ _ _ _ c (fun k=>(c[0*r.sz+0+k]?).getD undef) (HI _ _ _) (fun j x hj=>?_) (fun j x hj=>?_) (fun j x hj=>?_)⟩
   . obtain⟨u,f1,_⟩:=w3.2 0 cs j x rfl hj;have f1':c[0*r.sz+0+j]?=some u:=by rw[<-f1];congr 1;rw[r1];omega
     show c[0*r.sz+0+j]?=some ((c[0*r.sz+0+j]?).getD undef);rw[f1'];rfl
   . obtain⟨u,f1,f2,_⟩:=w3.2 0 cs j x rfl hj;have f1':c[0*r.sz+0+j]?=some u:=by rw[<-f1];congr 1;rw[r1];omega
     show Rel _ _ _ ((c[0*r.sz+0+j]?).getD undef);rw[f1'];exact f2.mono hkle (qK2 _)
   . obtain⟨u,_,_,f3⟩:=w3.2 0 cs j x rfl hj;exact f3
 . simp only[FK _ _ hu]at hy;obtain⟨v,h1,h2⟩:=hs.env u y hy;exact⟨v,h1,h2.mono hkle (qK2 _)⟩
theorem oo(hh:NoMap h)(b:Nat):NoMap (hrm h b):=fun c q hq=>by
 by_cases hc:c=b
 . subst hc;rw[Ib]at hq;cases hq
 . rw[Hm _ hc]at hq;exact hh c q hq
abbrev uu(P:Program)(fn:Func)(R:AV->Aj->Prop)(H:AJ)(ι:BD)(h:Aj)(w:World):Exit->Act->World->Prop:=
  bodyPostM Fence.wide 3 P fn (fun e w'=>∃v r h' H' ι',e=.returned v/\R r h'/\Rel H' ι' r v/\HeapRel H' ι' h' w'/\Step H ι h w H' ι' h' w')
variable {R : AV -> Aj -> Prop} {fn : Func}
theorem SV{f:FuncId}{args:List AV}(hf:P.funcs[f]?=some fn)(hb:fn.body=some c)(hn:args.length+(fn.ntmps-args.length)=n)
 (hg:∀H ι w,HeapRel H ι h w->AW P (uu P fn R H ι h w) H ι h w c ⟨n,OV args,h⟩):ACall P f args h R:=by
 intro H ι w vs ha hr;have hs:Sim H ι ⟨n,OV args,h⟩ {tmps:=vs++Array.replicate (fn.ntmps-vs.size) undef,defers:=[]} w:=by
  exact tB
 exact callsIn_wide.1 (callsIn_of_wp_marks (F:=Fence.wide) (n:=3) hf hb trivial (wpIn_wide.2 (hg H ι w hr H ι _ w hs (qK3 _ _ _ _))))
variable {ops : Array Oper}
theorem rh{T:Nat->Option AC}(hT:Dz P T)(hmx:P.follows .mixedOrders=true){id:Nat}(hr:HeapRel H0 ι0 h0 w0)
 (hld:∀(i:Nat) o,ops[i]?=some o->HH o=true) (hnm:NoMap s.h)
 (hd:DOps P ops s.n ops.toList s.env s.h [] (fun s'=>NoMap s'.h/\∃xs,Jy T s' fn.results.toList xs/\R (Mf xs) s'.h)):
 AD (fun a w=>(Code.seq (.region id ops true) .ret).wp P (uu P fn R H0 ι0 h0 w0) a w) H0 ι0 h0 w0 s:=fun H ι tm w D hs hst hD hK=>
 pc hT hmx hld hs hnm hr hst hD hK hd
theorem iG{o:Oper}{rest:List Oper}{K:Ar->Prop}(d:Nat){v:Value}(hd:o.dst=some d)(ho:o.op=.assign (.const v))(hg:o.guard=none)(he:e d=none)(hr:AOps P ops rest ⟨n,e,h⟩ K):AOps P ops (o::rest) ⟨n,e,h⟩ K:=by
 intro H ι a w hs;unfold wpList;rw[qK0 (by simp[Region.wanted,hg])];refine .inl ?_;unfold Oper.wp;simp only[execOp,ho,qX1];refine hr H ι _ w ?_;rw[hd];refine⟨by simp[Act.put,hs.n],hs.d,fun t x hx=>?_,hs.heap⟩;have hne:d≠t:=fun e2=>by subst e2;rw[show e d=some x from hx]at he;cases he
 obtain⟨v',e1,e2⟩:=hs.env t x hx;exact⟨v',by simp only[Act.put];rw[q00 hne];exact e1,e2⟩
end Go.Proofs.YtbbfelelocccmaaGreat.Sv
namespace Go.Proofs.YtbbfelelocccmaaGreat.Sv
open Go Go.RowKit Go.Shelf
abbrev OZ(N:Nat):={k:Nat//k<N}
def leftOf:Value->Nat
  | .int _ i=>(i+1).toNat
  |_=>0
theorem kV(k:Nat):(List.range (k+1)).reverse=k::(List.range k).reverse:=by
 rw[q79,List.reverse_append];rfl
theorem qO(l N b off:Nat)(hN:N<=1000000000)(J Jx:List (OZ N)->World->Prop)
 (hY:∀pre (x:OZ N) W,J pre W->pre.length<N->YieldAt Fence.wide 2 Tryz.prog l #[.int .i64 (x.1:Int)] W fun e W'=>
  (e=.returned (.bool true)/\J (pre++[x]) W'/\True)\/(e=.returned (.bool false)/\Jx (pre++[x]) W'))
 (W:World) (hB:W.cell? ⟨b,off,none⟩=some (.int .i64 (N:Int))) (h0:J [] W):
 CallsIn Fence.wide 3 Tryz.prog 110 #[.func (.yield l) #[] #[],.pointer (some ⟨b,off,none⟩)] W fun e W'=>(∃v,e=.returned v)/\
  ((∃xs:List (OZ N),xs.map (·.1)=(List.range N).reverse/\J xs W')\/(∃pre,True/\Jx pre W')):=by
 refine callsIn_of_wp Tryz.func110 rfl trivial ?_ rfl;simp only[Tryz.ntmps110,List.size_toArray,q70,q84,Nat.reduceAdd,Nat.reduceSub,Array.replicate_succ,Array.replicate_zero,List.push_toArray,List.append_toArray,List.nil_append,q73]
 gi_wp2
 gi_loopw [3] (fun p wr=>∃(m:Nat) (pre:List (OZ N)),p=.int .i64 ((m:Int)-1)/\pre.map (·.1)++(List.range m).reverse=(List.range N).reverse/\J pre wr)
  (fun p wr=>leftOf p)
 case atStart=>
  exact⟨N,[],rfl,rfl,h0⟩
 case round=>
  obtain⟨m,pre,rfl,hx,hJs⟩:=hrel;have hlen:=congrArg List.length hx;simp only[q48,q76,List.length_reverse,List.length_range]at hlen
  cases m with
  |zero=>
   gi_wp2
   exact⟨rfl,_,results_none rfl _ _ _,⟨_,rfl⟩,.inl ⟨pre,by simpa using hx,hJs⟩⟩
  |succ k=>
   have hk:k<N:=by omega
   obtain⟨fn,tmps,assign,body,hy,hR⟩:=hY pre ⟨k,hk⟩ wr hJs Ab;dsimp only at hy
   gi_wp2
   refine hR.mono ?_
   rintro e W3 (⟨rfl,hJ3,_⟩|⟨rfl,hJx3⟩)
   . gi_wp2
     refine⟨⟨k,pre++[⟨k,hk⟩],rfl,?_,hJ3⟩,?_⟩
     . rw[q77,<-hx,kV];simp only[qQ0,qX9,q63,q73,List.nil_append]
     . show((k:Int)-1+1).toNat<(((k+1:Nat):Int)-1+1).toNat;omega
   . gi_wp2
     exact⟨rfl,_,results_none rfl _ _ _,⟨_,rfl⟩,.inr ⟨_,trivial,hJx3⟩⟩
theorem bi{N:Nat}(hN:N<=1000000000){H:AJ}{ι:BD}{h:Aj}{w:World}(hr:HeapRel H ι h w)(lb:Array Value)(hl:lb.size=[AV.loc [.int .i64 (N:Int)]].length)
 (hlb:∀(j:Nat) (x:AV) (v:Value),[AV.loc [.int .i64 (N:Int)]][j]?=some x->lb[j]?=some v->Rel H ι x v):
 SeqStopsK Fence.wide 3 Tryz.prog 110 lb (fun x:OZ N=> #[.int .i64 (x.1:Int)]) (fun _ _=>True) (fun xs=>xs.map (·.1)=(List.range N).reverse) (fun _=>True) N w:=by
 intro l J Jx W hB hJ hJx hY h0;obtain⟨v,hv⟩:=(⟨lb[0]'(by rw[hl];exact Nat.zero_lt_one),q12 _⟩:∃v,lb[0]?=some v);have hlb2:lb= #[v]:=by
  cases lb with
  |mk L=>cases L with
   |nil=>simp at hv
   |cons y L=>cases L with
    |nil=>simp at hv;rw[hv]
    |cons z L=>simp at hl
 subst hlb2;obtain⟨b,off,c,vals,rfl,hb,hcv,hcr,_⟩:=(hlb 0 _ v rfl hv).loc_inv;have e1:=hcv 0 _ rfl;have e2:=hcr 0 _ rfl
 cases e2_:vals 0 with
 |int k i=>
  rw[e2_]at e2 e1
  cases e2
  obtain⟨T,fr,e3⟩:=hr.know b c hb;have e4:W.heap[b]?=some (.cells c T fr):=by
   have:=hB.block b (q03.1 e3).1;exact this.trans e3
  refine(qO l N b off hN J Jx hY W ?_ h0).mono ?_
  . unfold World.cell?;rw[e4];exact e1
  . intro e W' hp;exact hp
 |_=>rw[e2_]at e2;cases e2
theorem qN(n:Int):Ca Tryz.prog 107 [.int .i64 n] hNew (.fn (.func 110) [] [.loc [.int .i64 n]]) hNone:=by
 refine qK4 (n:=4) Ah Tryz.func107 rfl rfl ?_;refine FL ?_;refine ax 1 (CC 1 0) ?_;refine iG 2 rfl rfl rfl rfl ?_;refine wk 2 ?_;refine qJ0 (.plain 0 rfl (by intro cs hc;simp at hc;subst hc;rfl)) ?_;refine qJ0 (.freezeP 1 0 rfl rfl) ?_;refine bB ?_;refine aq 3 (HZ rfl rfl rfl) ?_;refine wk 3 ?_;exact⟨[_],⟨rfl,trivial⟩,rfl,qJ6 _⟩
theorem Q5(z R:Nat)(i:Int)(p:Nat->Bool)(h0:0<=i)(hi:i<R)(hR:R<=100000):Ca Tryz.prog 106 [.ref z (nw R) 0 (nw R),.int .i64 i] (Af hNew z (F8 R p)) (.tup []) (Af hNone z (F8 R (fun v=>p v||v==i.toNat))):=by
 have:=pO z R i.toNat p Ab hR;rw[q41 h0]at this;exact this
theorem pI(z R:Nat)(i:Int)(p:Nat->Bool)(h0:0<=i)(hi:i<R)(hR:R<=100000):Ca Tryz.prog 108 [.ref z (nw R) 0 (nw R),.int .i64 i] (Af hNew z (F8 R p)) (.tup []) (Af hNone z (F8 R (fun v=>p v&& !(v==i.toNat)))):=by
 have:=vo z R i.toNat p Ab hR;rw[q41 h0]at this;exact this
theorem vg(x:Block):tR x []=Ei x:=rfl
theorem ve(x:Block):tS x []=fun _=>false:=rfl
theorem TY{R:Nat}{p:Nat->Bool}:((B1 R p).drop 0).take (nw R)=B1 R p:=by rw[q95,q20 (by rw[BJ];exact qZ0 _)]
attribute [local irreducible] B1 Ei cM PK IF tR tS
theorem j7(x:Block)(R:Nat)(hR:R<=100000)(hi:x.ins.length<=100000)(hT:∀t∈x.ins,t.inR (R:Int))(hv:x.fin=2->0<=x.v/\x.v<R):Ca Tryz.prog 97 [.agg x.cells,.int .i64 (R:Int)] hNew (.tup [.lst false (B1 R (M3 x)),.lst false (B1 R (fun v=>D2 v x.ins))]) hNone:=by
 refine SV (n:=57) Tryz.func97 rfl rfl ?_;intro H0 ι0 w0 hr;refine AW.seq hr ?_;refine bB ?_;refine ax 2 (CC 5 0) ?_;refine ax 4 (DA Ah 1) ?_;refine ax 5 (DA Ah 2) ?_;refine an ?_;refine AW.seq hr ?_;refine wk 2 ?_;refine ax 11 (GD (MW 3 R hR) [3] [(3,(F8 R (fun _=>false)))] rfl Tryz.func98 AF rfl rfl rfl ⟨⟨_,rfl,rfl⟩,trivial⟩ rfl Cf ⟨⟨_,rfl,rfl,rfl⟩,trivial⟩ rfl) ?_;refine wk 1 ?_;refine ax 13 (GD (MW 4 R hR) [4] [(4,(F8 R (fun _=>false)))] rfl Tryz.func98 AF rfl rfl rfl ⟨⟨_,rfl,rfl⟩,trivial⟩ rfl Cf ⟨⟨_,rfl,rfl,rfl⟩,trivial⟩ rfl) ?_;refine wk 3 ?_;refine AW.seq hr ?_;refine qV2 (γ:=Unit) (fun _u=>⟨57,(Aa (Aa (Aa AU 2 (pZ 0)) 4 (pZ 1)) 5 (pZ 2)),(Af (Af (Af (Af (Af hNone 0 (rf 5 [x.cells])) 1 (rf 1 [[.ref 3 (nw R) 0 (nw R)]])) 2 (rf 1 [[.ref 4 (nw R) 0 (nw R)]])) 3 (F8 R (Ei x))) 4 (F8 R (fun _=>false)))⟩) (fun _u=>True) ?_ ?_
 .
  refine wk 6 ?_;refine asp 16 (fun hb1=>?_) fun hb1=>?_
  .
   refine Ba ?_;have hfin:x.fin=2:=by simpa using hb1
   have hv2:=hv hfin
   skip
   refine wk 4 ?_;refine ax 20 (GD (Q5 3 R x.v (fun _=>false) hv2.1 hv2.2 hR) [3] [(3,(F8 R (fun v=>(fun _=>false) v||v==x.v.toNat)))] rfl Tryz.func106 AF rfl rfl rfl ⟨⟨_,rfl,rfl⟩,trivial⟩ rfl Cf ⟨⟨_,rfl,rfl,rfl⟩,trivial⟩ rfl) ?_;refine an ?_;exact tQ
  refine Bg ?_;have hfin:¬x.fin=2:=by simpa using hb1
  refine oL ?_;exact tQ
 intro _ _;refine rg ?_;refine AW.seq hr ?_;refine wk 4 ?_;refine ax 24 (Mh (r:=(.fn (.func 110) [] [.loc [.int .i64 (x.ins.length:Int)]])) (hc:=hNew) (hw:=hNone) [] [] rfl Tryz.func107 AF rfl rfl rfl trivial rfl Cf trivial rfl (by rw[q76];exact qN _)) ?_;refine an ?_;refine AW.range hr (α:=OZ x.ins.length) (S:=fun xs=>xs.map (·.1)=(List.range x.ins.length).reverse) (N:=x.ins.length) rfl rfl rfl (by show 25<57;decide) (by show 6<57;decide) Al rfl (fun _ _=>rfl) (fun q=>.int .i64 (q.1:Int)) (fun q=>.int .i64 (q.1:Int)) (fun _ _ _=>.int _ _ _) (fun H ι w hh lb h1 h2=>bi Ab hh lb h1 h2) (Aa (Aa (Aa AU 2 (pZ 0)) 4 (pZ 1)) 5 (pZ 2)) (fun pre=>(Af (Af (Af (Af (Af hNone 0 (rf 5 [x.cells])) 1 (rf 1 [[.ref 3 (nw R) 0 (nw R)]])) 2 (rf 1 [[.ref 4 (nw R) 0 (nw R)]])) 3 (F8 R ((tR x (pre.map (·.1)))))) 4 (F8 R ((tS x (pre.map (·.1))))))) B4 o4 (fun _=>o4) (by repeat(first|exact qJ4 _|exact qJ6 _|exact AO _|exact AG Dl|refine qJ5 ?_ (by first|rfl|exact congrArg (fun p=>some (F8 R p)) (vg x).symm|exact congrArg (fun p=>some (F8 R p)) (ve x).symm)|refine AN ?_ Dl|refine Bh ?_ Al)) ?_ ?_
 .
  intro l pre q hlt;obtain⟨t,ht⟩:=Ad q.2;have hin:=hT t (q33 ht);refine AGoR.block ?_;refine AGoR.seq ?_;refine AGoR.seq ?_;refine qV6 rfl ?_;refine wk 3 ?_;refine aq 29 (En Ah (Au ht)) ?_;refine wk 1 ?_;refine ax 31 (Cn Tryz.func77 (NG _)) ?_;refine wk 2 ?_;refine AGoR.seq ?_;refine qV6 rfl ?_;refine wk 3 ?_;refine AGoR.join (γ:=Unit) (fun _u=>⟨57,(Aa (Aa (Aa (Aa (Aa AU 2 (pZ 0)) 4 (pZ 1)) 5 (pZ 2)) 25 (iN q.1)) 6 (iN q.1)),(Af (Af (Af (Af (Af hNone 0 (rf 5 [x.cells])) 1 (rf 1 [[.ref 3 (nw R) 0 (nw R)]])) 2 (rf 1 [[.ref 4 (nw R) 0 (nw R)]])) 3 (F8 R (cM t (tR x (pre.map (·.1)))))) 4 (F8 R (PK t (tS x (pre.map (·.1))))))⟩) (fun _u=>True) ?_ ?_
  .
   refine AGoR.split 33 rfl (fun hb2=>?_) (fun hb2=>?_)
   .
    refine AGoR.cond_true true rfl rfl ?_;have hsp:0<=t.sets:=by simpa using hb2
    have hs1:t.sets<R:=by have:=hin.1 (Gc (by simpa using hb2));rw[K1 (Gc (by simpa using hb2))];omega
    refine AGoR.seq ?_;refine qV6 rfl ?_;refine wk 2 ?_;refine ax 36 (GD (pI 3 R t.sets (tR x (pre.map (·.1))) hsp hs1 hR) [3] [(3,(F8 R (fun v=>(tR x (pre.map (·.1))) v&& !(v==t.sets.toNat))))] rfl Tryz.func108 AF rfl rfl rfl ⟨⟨_,rfl,rfl⟩,trivial⟩ rfl Cf ⟨⟨_,rfl,rfl,rfl⟩,trivial⟩ rfl) ?_;refine an ?_;refine qV6 rfl ?_;refine wk 2 ?_;refine ax 39 (GD (Q5 4 R t.sets (tS x (pre.map (·.1))) hsp hs1 hR) [4] [(4,(F8 R (fun v=>(tS x (pre.map (·.1))) v||v==t.sets.toNat)))] rfl Tryz.func106 AF rfl rfl rfl ⟨⟨_,rfl,rfl⟩,trivial⟩ rfl Cf ⟨⟨_,rfl,rfl,rfl⟩,trivial⟩ rfl) ?_;refine an ?_;exact w7
   refine AGoR.cond_false false rfl rfl ?_;have hsp:¬0<=t.sets:=by simpa using hb2
   refine AGoR.skip ?_;exact w7
  intro _ _;refine AGoR.seq ?_;refine qV6 rfl ?_;refine wk 3 ?_;refine aq 43 (En Ah (Au ht)) ?_;refine wk 1 ?_;refine ax 45 (Cn Tryz.func81 (SA _)) ?_;refine wk 3 ?_;refine AGoR.block ?_;refine AGoR.loopI (γ:=Nat) (fun k=>⟨57,(Aa (Aa (Aa (Aa (Aa (Aa (Aa (Aa AU 2 (pZ 0)) 4 (pZ 1)) 5 (pZ 2)) 25 (iN q.1)) 6 (iN q.1)) 45 (AI t.uses)) 46 (iN t.uses.length)) 47 (iN k)),(Af (Af (Af (Af (Af hNone 0 (rf 5 [x.cells])) 1 (rf 1 [[.ref 3 (nw R) 0 (nw R)]])) 2 (rf 1 [[.ref 4 (nw R) 0 (nw R)]])) 3 (F8 R (IF (t.uses.take k) (cM t (tR x (pre.map (·.1))))))) 4 (F8 R (PK t (tS x (pre.map (·.1))))))⟩) (fun k=>True) (fun k=>t.uses.length-k) 0 (qJ1 (by repeat(first|exact qJ2 _|refine qJ3 ?_ (by first|rfl|exact congrArg (fun(n:Nat)=>some (AV.int .i64 (n:Int))) Aq|exact congrArg (fun n:Nat=>some (AV.int .i64 (n:Int))) Aq))) (by repeat(first|exact qJ4 _|exact qJ6 _|exact AO _|exact AG Dl|refine qJ5 ?_ (by first|rfl|exact DT (fun v=>by rw[List.take_zero];exact iD v))|refine AN ?_ Dl|refine Bh ?_ Al))) trivial ?_
  intro k _;refine AGoR.seq ?_;refine qV6 rfl ?_;refine wk 2 ?_;refine AGoR.seq ?_;refine AGoR.split 48 rfl (fun hb3=>?_) (fun hb3=>?_)
  .
   refine AGoR.cond_true true rfl rfl ?_;have hkl:k<t.uses.length:=by have h:=hb3;simp[AI]at h;exact h
   obtain⟨u,hu⟩:=Ad hkl;have hub:=hin.2 u (q33 hu);refine AGoR.skip ?_;refine AGoR.seq ?_;refine AGoR.block ?_;refine AGoR.seq ?_;refine qV6 rfl ?_;refine aq 49 (En Ah (Au hu)) ?_;refine wk 3 ?_;refine qV6 rfl ?_;refine wk 2 ?_;refine ax 53 (GD (Q5 3 R u (IF (t.uses.take k) (cM t (tR x (pre.map (·.1))))) hub.1 hub.2 hR) [3] [(3,(F8 R (fun v=>(IF (t.uses.take k) (cM t (tR x (pre.map (·.1))))) v||v==u.toNat)))] rfl Tryz.func106 AF rfl rfl rfl ⟨⟨_,rfl,rfl⟩,trivial⟩ rfl Cf ⟨⟨_,rfl,rfl,rfl⟩,trivial⟩ rfl) ?_;refine an ?_;refine qV6 rfl ?_;refine aq 54 (AS rfl rfl hkl jz) ?_;refine wk 2 ?_;exact⟨k+1,qJ1 B4 (by repeat(first|exact qJ4 _|exact qJ6 _|exact AO _|exact AG Dl|refine qJ5 ?_ (by first|rfl|exact DT (bD hu hub.1))|refine AN ?_ Dl|refine Bh ?_ Al)),trivial,by omega⟩
  refine AGoR.cond_false false rfl rfl ?_;have hge:t.uses.length<=k:=by have h:=hb3;simp[AI]at h;omega
  refine AGoR.exit ?_;show HSub _ _;exact(by repeat(first|exact qJ4 _|exact qJ6 _|exact AO _|exact AG Dl|refine qJ5 ?_ (by first|rfl|exact DT (fun v=>by rw[q77,q20 hge];exact(congrFun (pr ht) v).symm)|exact DT (fun v=>by rw[q77];exact(congrFun (pq ht) v).symm))|refine AN ?_ Dl|refine Bh ?_ Al))
 intro xs hS;dsimp only;rw[hS];refine AD.ghost hr (.freezeCell 1 0 0 3 rfl rfl rfl rfl (BJ _ _).symm Al) ?_;refine AD.ghost hr (.freezeCell 2 0 0 4 rfl rfl rfl rfl (BJ _ _).symm Al) ?_;rw[TY,TY];refine rh Ah mix hr (by intro i o ho;rcases i with _|_|_|_|i<;>first|(cases ho;rfl)|(simp at ho)) o4 ?_;refine wk 5 ?_;refine⟨o4,[.lst false _,.lst false _],⟨⟨_,_,_,_,rfl,rfl,.ptr _ _ _ _ _ _ _ _ rfl rfl rfl,rfl⟩,⟨_,_,_,_,rfl,rfl,.ptr _ _ _ _ _ _ _ _ rfl rfl rfl,rfl⟩,trivial⟩,?_,qJ6 _⟩;rw[show B1 R (M3 x)=_ from(EY (vh x)).symm,show B1 R (fun v=>D2 v x.ins)=_ from(EY (vf x)).symm];rfl
theorem cn(f:BFunc)(R:Nat)(es:List (List AV))(len:Nat)(w:Nat->Bool)(F:Nat->AObj)(b:Nat)(hb:b<f.blocks.length)(hn:f.blocks.length<=100000)(hl:len<=es.length)(he:es.length<=f.blocks.length):Ca Tryz.prog 90 [.ptr 2 1 0 0,.int .i64 (b:Int)] (HS f R (es) (len) (w) F) (.tup []) (HS f R (D7 w es len b) (EN w len b) (Dn w b true) F):=by
 refine qK4 (n:=28) Ah Tryz.func90 rfl rfl ?_;refine wk 7 ?_;refine aq 9 (Ae Ah (hm:=(Av _ _).symm)) ?_;refine aq 10 (Ao Ah rfl rfl rfl (.ptr _ _ _ _ _ _ _ [.bool (w b)] rfl (Av _ _).symm IU) rfl) ?_;refine wk 2 ?_;refine asp 11 (fun hb1=>?_) fun hb1=>?_
 .
  refine Ba ?_;have hwb:w b=false:=by have h:=hb1;simpa using h
  refine wk 7 ?_;refine aq 17 (Ae Ah (hm:=(Av _ _).symm)) ?_;refine qK6 rfl rfl (AY Ah (hm:=(Av _ _).symm) (hk:=IU)) ?_;refine wk 8 ?_;refine ax 24 DB ?_;refine ax 25 (Rn Ah (es:=es) rfl rfl rfl rfl rfl rfl rfl rfl rfl rfl hl rfl rfl (q68 _) (.lst _ _) rfl (fun _=>rfl) (by show _*8<=_;omega) Bq) ?_;refine wk 4 ?_;have e1:D7 w es len b=Eo es len (Cg b):=by unfold D7;rw[hwb];rfl
  have e2:EN w len b=len+1:=by unfold EN;rw[hwb];rfl
  rw[e1,e2];exact⟨[],trivial,rfl,(CI (k0:=10) rfl (by repeat(first|exact trivial|refine⟨⟨by first|rfl|exact congrArg (fun es=>some (rt 1 es)) (Lw true),by first|rfl|exact Ak (fun _ _=>Eb _ _ _ _)|exact Ak (fun _ _=>DI _ _ _)⟩,?_⟩)) Hw My)⟩
 refine Bg ?_;have hwb:w b=true:=by have h:=hb1;simpa using h
 refine oL ?_;have e1:D7 w es len b=es:=by unfold D7;rw[hwb];rfl
 have e2:EN w len b=len:=by unfold EN;rw[hwb];rfl
 rw[e1,e2,IY hwb];exact⟨[],trivial,rfl,(CI (k0:=10) rfl Vk Hw My)⟩
theorem qC(f:BFunc)(hs:f.sane)(R:Nat)(hR:R<=100000)(es:List (List AV))(len:Nat)(w:Nat->Bool)(I O:BB)(r2:Nat->AObj)(h2a:∀b,(r2 b).avoid (kf 10)=true)(b:Nat)(x:Block)(hx:f.blocks[b]?=some x)(hn:f.blocks.length<=100000):Ca Tryz.prog 89 [.ptr 2 1 0 0,.int .i64 (b:Int)] (HS f R (es) (len) (w) (F3 (rI f.blocks.length R I) (rI f.blocks.length R O) r2)) (.bool (chg (inN x (E3 I (O b) x)) (I b) (nw R))) (HS f R (es) (len) (w) (F3 (rI f.blocks.length R (Be I b ((inN x (E3 I (O b) x))))) (rI f.blocks.length R (Be O b (E3 I (O b) x))) r2)):=by
 have hb:b<f.blocks.length:=(q05.1 hx).1;have hxm:=q33 hx;have hnw:nw R<=100000:=by unfold nw;omega
 refine qK4 (n:=109) Ah Tryz.func89 rfl rfl ?_;refine wk 11 ?_;refine aq 18 (Ae Ah (hm:=(Av _ _).symm)) ?_;refine aq 19 (Ao Ah rfl rfl rfl (.ptr _ _ _ _ _ _ _ [rG 1 (nw R) b] rfl (Av _ _).symm IU) rfl) ?_;refine wk 11 ?_;refine aq 25 (En Ah (Au (C8 hx))) ?_;refine wk 5 ?_;refine Bu (γ:=Nat) (kf 10) (fun j=>⟨109,(Aa (Aa (Aa (Aa (Aa (Aa (Aa AU 0 (pZ 2)) 1 (iN b)) 5 (rG 1 (nw R) b)) 6 (.bool false)) 26 (AI x.nexts)) 27 (iN x.nexts.length)) 28 (iN j)),(Jq (nb [.free,.free,(rf 8 [oM f (es).length (len)]),(rf 1 (AH (rG 0 (nw R)) f.blocks.length)),(rf 1 (AH (rG 1 (nw R)) f.blocks.length)),(rt 1 (bC f.blocks.length (w))),(rt 1 (es)),(rf 1 (AH (SJ (AM f)) f.blocks.length)),(rt 1 (f.blocks.map (Y8 R))),(rt 1 (f.blocks.map (Y7 R)))]) (F3 (rI f.blocks.length R I) (rI f.blocks.length R (Be O b (Oi I (O b) x j))) r2))⟩) (fun j=>True) (fun j=>x.nexts.length-j) 0 (qJ1 Cq (CI (k0:=10) rfl Vk (fun x_=>by(try simp only[AQ]);exact(Ay _ _ _).trans (congrArg some (Aa7 (fU I (O b) x) _))) My)) trivial (fun g b hb=>Ci (k0:=10) rfl hb) ?_
 intro j _;refine wk 5 ?_;refine asp 29 (fun hb1=>?_) fun hb1=>?_
 .
  refine Ba ?_;have hjl:j<x.nexts.length:=by have h:=hb1;simp[AI]at h;exact h
  obtain⟨d,hd⟩:=Ad hjl;have hd0:=hs.next x hxm d (q33 hd);have hdn:d.toNat<f.blocks.length:=by omega
  refine wk 5 ?_;refine aq 30 (En Ah (Au hd)) ?_;refine wk 10 ?_;refine aq 37 (Ae Ah (hm:=(Av _ _).symm) (h0:=hd0.1)) ?_;refine aq 38 (Ao Ah rfl rfl rfl (.ptr _ _ _ _ _ _ _ [rG 0 (nw R) d.toNat] rfl (Av _ _).symm WW) rfl) ?_;refine wk 4 ?_;refine Bu (γ:=Nat) (kf 10) (fun k=>⟨109,(Aa (Aa (Aa (Aa (Aa (Aa (Aa (Aa (Aa (Aa (Aa AU 0 (pZ 2)) 1 (iN b)) 5 (rG 1 (nw R) b)) 6 (.bool false)) 26 (AI x.nexts)) 27 (iN x.nexts.length)) 28 (iN j)) 8 (.int .i64 d)) 38 (rG 0 (nw R) d.toNat)) 39 (.int .i64 (nw R:Int))) 40 (iN k)),(Jq (nb [.free,.free,(rf 8 [oM f (es).length (len)]),(rf 1 (AH (rG 0 (nw R)) f.blocks.length)),(rf 1 (AH (rG 1 (nw R)) f.blocks.length)),(rt 1 (bC f.blocks.length (w))),(rt 1 (es)),(rf 1 (AH (SJ (AM f)) f.blocks.length)),(rt 1 (f.blocks.map (Y8 R))),(rt 1 (f.blocks.map (Y7 R)))]) (F3 (rI f.blocks.length R I) (rI f.blocks.length R (Be O b (fX (Oi I (O b) x j) (I d.toNat) k))) r2))⟩) (fun k=>True) (fun k=>nw R-k) 0 (qJ1 Cq (CI (k0:=10) rfl Vk (fun x_=>by(try simp only[AQ]);exact(Ay _ _ _).trans (congrArg some (kP (EY (lR _ _)) _))) My)) trivial (fun g b hb=>Ci (k0:=10) rfl hb) ?_
  intro k _;refine wk 5 ?_;refine asp 41 (fun hb2=>?_) fun hb2=>?_
  .
   refine Ba ?_;have hkl:k<nw R:=by have h:=hb2;simp at h;exact h
   refine wk 6 ?_;refine aq 43 (Ae Ah rfl rfl rfl rfl rfl rfl ((Ay _ _ _).trans (congrArg some (pS hdn))) (BJ _ _).symm rfl (q46 _) Ab) ?_;refine aq 44 (Ao Ah rfl rfl rfl (.ptr _ _ _ _ _ _ _ (B6 (I d.toNat) k) ((Ay _ _ _).trans (congrArg some (pS hdn))) (BJ _ _).symm xR) rfl) ?_;refine wk 6 ?_;refine aq 47 (Ae Ah rfl rfl rfl rfl rfl rfl ((Ay _ _ _).trans (congrArg some (T9 hb))) (BJ _ _).symm rfl (q46 _) Ab) ?_;refine aq 48 (Ao Ah rfl rfl rfl (.ptr _ _ _ _ _ _ _ (B6 (Oi I (O b) x j) k) ((Ay _ _ _).trans (congrArg some (T9 hb))) (BJ _ _).symm xV) rfl) ?_;refine wk 1 ?_;refine aq 50 (A9 rfl rfl rfl (jG (fun v=>(Oi I (O b) x j) (64*k+v)) (fun v=>I d.toNat (64*k+v)))) ?_;refine aq 51 (Ae Ah rfl rfl rfl rfl rfl rfl ((Ay _ _ _).trans (congrArg some (T9 hb))) (BJ _ _).symm rfl (q46 _) Ab) ?_;refine qK6 rfl rfl (AY Ah (es:=B1 R (fX (Oi I (O b) x j) (I d.toNat) k)) (cs:=B6 (Oi I (O b) x j) k) rfl rfl rfl rfl rfl ((Ay _ _ _).trans (congrArg some (T9 hb))) (BJ _ _).symm xV rfl Al rfl (fun _=>rfl)) ?_;refine wk 2 ?_;refine aq 52 (AS rfl rfl hkl Bq) ?_;refine wk 2 ?_;exact⟨k+1,qV3 x9 (BO (k0:=10) rfl Vk (fun x_=>by(try simp only[AQ]);(repeat(first|refine AP Dd ?_|refine hrm_skip Ab ?_));exact(EO jm _ _ x_).trans (congrArg some (ln hb (lS _ _ _) x_).symm)) (CV (fun _=>Bf _) (fun _=>Bf _) h2a)),trivial,by omega⟩
  refine Bg ?_;have hkge:nw R<=k:=by have h:=hb2;simp at h;omega
  refine wk 2 ?_;refine aq 53 (AS rfl rfl hjl ce) ?_;refine wk 2 ?_;exact⟨j+1,qV3 x9 (BO (k0:=10) rfl Vk (fun x_=>by(try simp only[AQ]);exact(Ay _ _ _).trans (congrArg some (kP ((p5 _ _ hkge).trans (EY (fV hd))) _))) (CV (fun _=>Bf _) (fun _=>Bf _) h2a)),trivial,by omega⟩
 refine Bg ?_;have hjge:x.nexts.length<=j:=by have h:=hb1;simp[AI]at h;omega
 refine wk 9 ?_;refine Bu (γ:=Nat) (kf 10) (fun k=>⟨109,(Aa (Aa (Aa (Aa (Aa (Aa AU 0 (pZ 2)) 1 (iN b)) 5 (rG 1 (nw R) b)) 6 (.bool (chg (inN x (E3 I (O b) x)) (I b) k))) 55 (.int .i64 (nw R:Int))) 56 (iN k)),(Jq (nb [.free,.free,(rf 8 [oM f (es).length (len)]),(rf 1 (AH (rG 0 (nw R)) f.blocks.length)),(rf 1 (AH (rG 1 (nw R)) f.blocks.length)),(rt 1 (bC f.blocks.length (w))),(rt 1 (es)),(rf 1 (AH (SJ (AM f)) f.blocks.length)),(rt 1 (f.blocks.map (Y8 R))),(rt 1 (f.blocks.map (Y7 R)))]) (F3 (rI f.blocks.length R (Be I b (JE (inN x (E3 I (O b) x)) (I b) k))) (rI f.blocks.length R (Be O b (E3 I (O b) x))) r2))⟩) (fun k=>k<=nw R) (fun k=>nw R-k) 0 (qJ1 Cq (CI (k0:=10) rfl Vk (fun x_=>by(try simp only[AQ]);exact(Ay _ _ _).trans (congrArg some (by rw[lP hjge];exact Aa8 (gd _ _) _))) My)) (qZ1 _) (fun g b hb=>Ci (k0:=10) rfl hb) ?_;intro k hkn;refine wk 5 ?_;refine asp 57 (fun hb3=>?_) fun hb3=>?_
 .
  refine Ba ?_;have hkl:k<nw R:=by have h:=hb3;simp at h;exact h
  refine wk 15 ?_;refine dq 64 (Ae Ah rfl rfl rfl rfl rfl rfl rfl (q76 _).symm rfl (q46 _) Ab) ?_;refine dq 65 (Ao Ah rfl rfl rfl (.ptr _ _ _ _ _ _ _ (Y8 R x) rfl (q76 _).symm (by rw[qQ8,q55,q54,hx];rfl)) rfl) ?_;refine wk 1 ?_;refine dq 67 (An Ah rfl rfl rfl rfl rfl rfl (q46 _) (by rw[q55];exact FA hkl) rfl) ?_;refine wk 3 ?_;refine dq 71 (Ae Ah rfl rfl rfl rfl rfl rfl ((Ay _ _ _).trans (congrArg some (T9 hb))) (BJ _ _).symm rfl (q46 _) Ab) ?_;refine dq 72 (Ao Ah rfl rfl rfl (.ptr _ _ _ _ _ _ _ (B6 (E3 I (O b) x) k) ((Ay _ _ _).trans (congrArg some (T9 hb))) (BJ _ _).symm xR) rfl) ?_;refine wk 5 ?_;refine dq 78 (Ae Ah rfl rfl rfl rfl rfl rfl rfl (q76 _).symm rfl (q46 _) Ab) ?_;refine dq 79 (Ao Ah rfl rfl rfl (.ptr _ _ _ _ _ _ _ (Y7 R x) rfl (q76 _).symm (by rw[qQ8,q55,q54,hx];rfl)) rfl) ?_;refine wk 1 ?_;refine dq 81 (An Ah rfl rfl rfl rfl rfl rfl (q46 _) (by rw[q55];exact FA hkl) rfl) ?_;refine wk 1 ?_;refine dq 83 (A9 rfl rfl rfl (Tu (fun v=>(E3 I (O b) x) (64*k+v)) (fun v=>D2 (64*k+v) x.ins))) ?_;refine dq 84 (A9 rfl rfl rfl (jG (fun v=>M3 x (64*k+v)) (fun v=>(E3 I (O b) x) (64*k+v)&& !D2 (64*k+v) x.ins))) ?_;refine wk 10 ?_;refine aq 91 (Ae Ah (hm:=(Av _ _).symm)) ?_;refine aq 92 (Ao Ah rfl rfl rfl (.ptr _ _ _ _ _ _ _ [rG 0 (nw R) b] rfl (Av _ _).symm IU) rfl) ?_;refine wk 1 ?_;refine aq 94 (Ae Ah rfl rfl rfl rfl rfl rfl ((Ay _ _ _).trans (congrArg some (cQ hb))) (BJ _ _).symm rfl (q46 _) Ab) ?_
  refine aq 95 (Ao Ah rfl rfl rfl (.ptr _ _ _ _ _ _ _ (B6 (I b) k) ((Ay _ _ _).trans (congrArg some (cQ hb))) (BJ _ _).symm xW) rfl) ?_;refine wk 2 ?_;refine asp 96 (fun hb4=>?_) fun hb4=>?_
  .
   refine Ba ?_;have hne:(SW (inN x (E3 I (O b) x)) k !=SW (I b) k)=true:=ml hb4;refine wk 7 ?_;refine aq 102 (Ae Ah (hm:=(Av _ _).symm)) ?_;refine aq 103 (Ao Ah rfl rfl rfl (.ptr _ _ _ _ _ _ _ [rG 0 (nw R) b] rfl (Av _ _).symm IU) rfl) ?_;refine wk 2 ?_;refine aq 106 (Ae Ah rfl rfl rfl rfl rfl rfl ((Ay _ _ _).trans (congrArg some (cQ hb))) (BJ _ _).symm rfl (q46 _) Ab) ?_;refine qK6 rfl rfl (AY Ah (es:=B1 R (JE (inN x (E3 I (O b) x)) (I b) k)) (cs:=B6 (I b) k) rfl rfl rfl rfl rfl ((Ay _ _ _).trans (congrArg some (cQ hb))) (BJ _ _).symm xW rfl Al rfl (fun _=>rfl)) ?_;refine wk 5 ?_;refine aq 107 (AS rfl rfl hkl Bq) ?_;refine wk 2 ?_;exact⟨k+1,qV3 yq (BO (k0:=10) rfl Vk (fun x_=>by(try simp only[AQ]);(repeat(first|refine AP Dd ?_|refine hrm_skip Ab ?_));exact(EO jm _ _ x_).trans (congrArg some (lp hb (my _ _ _) x_).symm)) (CV (fun _=>Bf _) (fun _=>Bf _) h2a)),hkl,by omega⟩
  refine Bg ?_;have heq:SW (inN x (E3 I (O b) x)) k=SW (I b) k:=iv (ml hb4);refine wk 2 ?_;refine aq 107 (AS rfl rfl hkl Bq) ?_;refine wk 2 ?_;exact⟨k+1,qV3 yq (BO (k0:=10) rfl Vk (fun x_=>by(try simp only[AQ]);exact(Ay _ _ _).trans (congrArg some (kQ (EY (ge heq)) _))) (CV (fun _=>Bf _) (fun _=>Bf _) h2a)),hkl,by omega⟩
 refine Bg ?_;have hkge:nw R<=k:=by have h:=hb3;simp at h;omega
 refine wk 7 ?_;refine⟨[_],⟨rfl,trivial⟩,?_,(CI (k0:=10) rfl Vk (fun x_=>by(try simp only[AQ]);exact(Ay _ _ _).trans (congrArg some (kQ (mA _ _ hkge) _))) My)⟩;show AV.bool _=AV.bool _;congr 2;omega
theorem kT(f:BFunc)(hn:f.blocks.length<=100000):Pu Tryz.prog 50 [.agg f.cells] (Ax f.nexts):=by
 refine qK5 (n:=43) Ah Tryz.func50 rfl rfl ?_;refine FL ?_;refine ax 1 (CC 2 0) ?_;refine wk 7 ?_;refine ax 9 (AK Ah (n:=f.blocks.length) (m:=f.blocks.length) 1 true (hby:=Tn)) ?_;refine wk 4 ?_;refine qJ0 (L0 1 (es':=List.replicate f.blocks.length [.lst false []]) rfl Aq (Tt _)) ?_;refine wk 4 ?_;refine Ap (γ:=Nat) 2 (fun k=>⟨43,(Aa (Aa (Aa AU 1 (pZ 0)) 3 (.ref 1 f.blocks.length 0 f.blocks.length)) 4 (iN k)),(Af (Af (A0 2) 0 (rf 2 [f.cells])) 1 (rt 1 (((f.nexts.take (k)).map Gj)++List.replicate (f.blocks.length-(k)) [.lst false []])))⟩) (fun k=>k<=f.blocks.length) (fun k=>f.blocks.length-k) 0 (qJ1 Cq ym) (qZ1 _) (fun _=>B9) ?_;intro k hk;refine wk 9 ?_;refine asp 14 (fun hb1=>?_) fun hb1=>?_
 . -- True
   refine Ba ?_;have hkl:k<f.blocks.length:=by simpa using hb1
   obtain⟨x,hx⟩:=Ad hkl;have hnx:=C8 hx;refine wk 8 ?_;refine aq 20 F6 ?_;refine wk 1 ?_;refine ax 5 (DA Ah 2) ?_;refine wk 9 ?_;refine asp 24 (fun hb2=>?_) fun hb2=>?_
   . -- True
     refine Ba ?_;have hx1:x.fin=1:=by simpa using hb2
     refine wk 5 ?_;refine ax 29 DB ?_;refine aq 30 (Ae Ah rfl rfl rfl rfl rfl rfl rfl (AL (AZ f) (qX0 hkl)) rfl (q46 _) Ab) ?_;refine qK6 rfl rfl (AY Ah rfl rfl rfl rfl rfl rfl (AL (AZ f) (qX0 hkl)) (CH (AZ f) hkl) rfl Al rfl C1) ?_;refine wk 5 ?_;refine aq 33 (A9 (r:=.bool false) rfl rfl rfl (by show some (AV.bool (x.fin==2))=_;rw[hx1];rfl)) ?_;refine wk 5 ?_;exact i7
   . -- False
     refine Bg ?_;have hx1:¬x.fin=1:=by simpa using hb2
     refine wk 7 ?_;refine asp 33 (fun hb3=>?_) fun hb3=>?_
     . -- True
       refine wk 8 ?_;refine ax 40 DB ?_;refine aq 41 (Ae Ah rfl rfl rfl rfl rfl rfl rfl (AL (AZ f) (qX0 hkl)) rfl (q46 _) Ab) ?_;refine qK6 rfl rfl (AY Ah rfl rfl rfl rfl rfl rfl (AL (AZ f) (qX0 hkl)) (CH (AZ f) hkl) rfl Al rfl C1) ?_;refine wk 3 ?_;exact i7
     . -- False
       refine wk 4 ?_;exact i7
 . -- False
   refine Bg ?_;have hge:f.blocks.length<=k:=by simpa using hb1
   refine wk 2 ?_;refine qJ0 (.freezeA 3 1 rfl rfl (AL (AZ f) hk)) ?_;refine wk 4 ?_;refine CE ⟨[_],⟨rfl,trivial⟩,?_,rfl⟩;have e1:=Dg (f:=Gj) (z:=[.lst false []]) (AZ f) hge;rw[q95,q20 (Nat.le_of_eq (AL (AZ f) hk).symm)]at e1;show AV.lst false _=AV.lst false _;rw[e1];rfl
theorem PW(f:BFunc)(hn:f.blocks.length<=100000):Pu Tryz.prog 80 [.agg f.cells] (Ax f.nexts):=by
 refine qK5 (n:=40) Ah Tryz.func80 rfl rfl ?_;refine FL ?_;refine ax 1 (CC 2 0) ?_;refine wk 7 ?_;refine ax 9 (AK Ah (n:=f.blocks.length) (m:=f.blocks.length) 1 true (hby:=Tn)) ?_;refine wk 4 ?_;refine qJ0 (L0 1 (es':=List.replicate f.blocks.length [.lst false []]) rfl Aq (Tt _)) ?_;refine wk 7 ?_;refine Ap (γ:=Nat) 2 (fun k=>⟨40,(Aa (Aa (Aa (Aa AU 3 (.ref 1 f.blocks.length 0 f.blocks.length)) 11 (BK f.blocks)) 12 (iN f.blocks.length)) 13 (iN k)),(Af (Af (A0 2) 0 (rf 2 [f.cells])) 1 (rt 1 (((f.nexts.take (k)).map Gj)++List.replicate (f.blocks.length-(k)) [.lst false []])))⟩) (fun k=>k<=f.blocks.length) (fun k=>f.blocks.length-k) 0 (qJ1 Cq Vj) (qZ1 _) (fun _=>B9) ?_;intro k hk;refine wk 5 ?_;refine asp 14 (fun hb1=>?_) fun hb1=>?_
 . -- True
   refine Ba ?_;have hkl:k<f.blocks.length:=by simpa using hb1
   obtain⟨x,hx⟩:=Ad hkl;have hnx:=C8 hx;refine wk 6 ?_;refine aq 16 F6 ?_;refine wk 1 ?_;refine ax 5 (DA Ah 2) ?_;refine wk 14 ?_;refine asp 20 (fun hb2=>?_) fun hb2=>?_
   . -- True
     refine wk 6 ?_;refine ax 26 DB ?_;refine aq 27 (Ae Ah rfl rfl rfl rfl rfl rfl rfl (AL (AZ f) (qX0 hkl)) rfl (q46 _) Ab) ?_;exact tv
   . -- False
     refine wk 6 ?_;refine asp 28 (fun hb3=>?_) fun hb3=>?_
     . -- True
       refine wk 8 ?_;refine ax 36 DB ?_;refine aq 37 (Ae Ah rfl rfl rfl rfl rfl rfl rfl (AL (AZ f) (qX0 hkl)) rfl (q46 _) Ab) ?_;exact tv
     . -- False
       refine wk 3 ?_;refine aq 38 (AS rfl rfl hkl (show f.blocks.length<=maxLen by simp only[maxLen];omega)) ?_;exact uJ
 . -- False
   refine Bg ?_;have hge:f.blocks.length<=k:=by simpa using hb1
   refine wk 2 ?_;refine qJ0 (.freeze 3 1 rfl rfl (AL (AZ f) hk)) ?_;refine wk 4 ?_;refine CE ⟨[_],⟨rfl,trivial⟩,?_,rfl⟩;show AV.lst false _=AV.lst false _;rw[Dg (AZ f) hge];rfl
theorem Xd(f:BFunc)(hs:f.sane)(R:Nat)(hRf:f.regs=(R:Int))(hR:R<=100000)(hn0:0<f.blocks.length)(hn:f.blocks.length<=100000)(hi:∀x∈f.blocks,x.ins.length<=100000):Ca Tryz.prog 88 [.agg f.cells] hNew (.ptr 2 1 0 0) (M7 hNone (HS f R ((List.range f.blocks.length).map Cg) f.blocks.length (fun b=>decide (b<f.blocks.length)) (F3 (rI f.blocks.length R B0) (rI f.blocks.length R B0) (rA f.blocks.length (AM f))))):=by
 refine qK4 (n:=121) Ah Tryz.func88 rfl rfl ?_;refine FL ?_;refine ax 1 (CC 2 0) ?_;refine wk 12 ?_;refine dx 16 (Cn Tryz.func80 (PW _ BR)) ?_;refine wk 1 ?_;refine dx 18 (AK Ah (n:=f.blocks.length) (m:=f.blocks.length) 7 false (hby:=Tn)) ?_;refine wk 1 ?_;refine dx 20 (AK Ah (n:=f.blocks.length) (m:=f.blocks.length) 5 true (hby:=(by show 1*f.blocks.length<=_;omega))) ?_;refine wk 1 ?_;refine dx 22 (CC 8 2) ?_;refine wk 4 ?_;refine qJ0 (qV5 2 (es':=[SBb f R 0]) rfl rfl (Qo ⟨Wk.refl _,Wk.refl _,Wk.nil _,Wk.nil _,Wk.nil _,Wk.nil _,Wk.refl _,Wk.refl _,trivial⟩)) ?_;refine qJ0 (qV5 7 (es':=AH (SJ (fun _=>[])) f.blocks.length) rfl (by rw[Av,q30]) (Qp fun b=>Wk.nil _)) ?_;refine wk 9 ?_;refine Bu (γ:=Nat) (kf 10) (fun k=>⟨121,(Aa (Aa (Aa (Aa (Aa (Aa AU 1 (pZ 0)) 3 (iN f.blocks.length)) 4 (pZ 2)) 26 (Ax f.nexts)) 27 (iN f.blocks.length)) 28 (iN k)),(Jq (nb [(rf 2 [f.cells]),.free,(rf 8 [SBb f R k]),(SX 1 (AH (rG 0 (nw R)) k)),(SX 1 (AH (rG 1 (nw R)) k)),(rt 1 (bC f.blocks.length (fun _=>false))),.free,(rf 1 (AH (SJ (aheadP f k 0)) f.blocks.length)),(BU 1 ((f.blocks.take k).map (Y8 R))),(BU 1 ((f.blocks.take k).map (Y7 R)))]) (F3 (rI k R B0) (rI k R B0) (rA f.blocks.length (aheadP f k 0))))⟩) (fun k=>k<=f.blocks.length) (fun k=>f.blocks.length-k) 0 (qJ1 yt (CI (k0:=10) rfl (by repeat(first|exact trivial|refine⟨⟨by first|rfl|exact congrArg (fun es=>some (rt 1 es)) (Jn _ _)|exact congrArg (fun A=>some (rf 1 (AH (SJ A) f.blocks.length))) (funext fun c=>(Ep f 0 c).symm),by first|rfl|exact K2 f R Al|exact C7 _ _|exact K0 (fun _ _=>Eb _ _ _ _)|exact Ak (fun _ _=>DI _ _ _)⟩,?_⟩)) (fun x_=>by rw[Xw (Ep f 0)];(try simp only[AQ]);(repeat(first|refine AP Dd ?_|refine hrm_skip Ab ?_));exact congrArg some rI_start.symm) My)) (qZ1 _) (fun g b hb=>Ci (k0:=10) rfl hb) ?_
 intro k hk;refine wk 5 ?_;refine asp 29 (fun hb1=>?_) fun hb1=>?_
 .
  refine Ba ?_;have hkl:k<f.blocks.length:=by have h:=hb1;simp at h;exact h
  obtain⟨x,hx⟩:=Ad hkl;have hxm:=q33 hx;refine wk 6 ?_;refine aq 31 (En Ah (Au (C8 hx))) ?_;refine wk 12 ?_;refine Bu (γ:=Nat) (kf 10) (fun j=>⟨121,(Aa (Aa (Aa (Aa (Aa (Aa (Aa (Aa (Aa (Aa AU 1 (pZ 0)) 3 (iN f.blocks.length)) 4 (pZ 2)) 26 (Ax f.nexts)) 27 (iN f.blocks.length)) 28 (iN k)) 5 (iN k)) 33 (AI x.nexts)) 34 (iN x.nexts.length)) 35 (iN j)),(Jq (nb [(rf 2 [f.cells]),.free,(rf 8 [SBb f R k]),(SX 1 (AH (rG 0 (nw R)) k)),(SX 1 (AH (rG 1 (nw R)) k)),(rt 1 (bC f.blocks.length (fun _=>false))),.free,(rf 1 (AH (SJ (aheadP f k j)) f.blocks.length)),(BU 1 ((f.blocks.take k).map (Y8 R))),(BU 1 ((f.blocks.take k).map (Y7 R)))]) (F3 (rI k R B0) (rI k R B0) (rA f.blocks.length (aheadP f k j))))⟩) (fun j=>True) (fun j=>x.nexts.length-j) 0 (qJ1 Cq (CI (k0:=10) rfl (by repeat(first|exact trivial|refine⟨⟨by rfl,by first|rfl|exact K2 f R Al|exact C7 _ _|exact K0 (fun _ _=>Eb _ _ _ _)|exact Ak (fun _ _=>DI _ _ _)⟩,?_⟩)) Hw My)) trivial (fun g b hb=>Ci (k0:=10) rfl hb) ?_
  intro j _;refine wk 5 ?_;refine asp 36 (fun hb2=>?_) fun hb2=>?_
  .
   refine Ba ?_;have hjl:j<x.nexts.length:=by have h:=hb2;simp[AI]at h;exact h
   obtain⟨d,hd⟩:=Ad hjl;have hd0:=hs.next x hxm d (q33 hd);have hdn:d.toNat<f.blocks.length:=by omega
   refine wk 5 ?_;refine aq 37 (En Ah (Au hd)) ?_;refine wk 14 ?_;refine dq 49 (Ae Ah (hm:=(Av _ _).symm) (h0:=hd0.1)) ?_;refine dq 50 (Ao Ah rfl rfl rfl (.ptr _ _ _ _ _ _ _ [SJ (aheadP f k j) d.toNat] rfl (Av _ _).symm WW) rfl) ?_;refine wk 1 ?_;refine dx 52 DB ?_;refine dx 53 (CF Ah (b:=3*d.toNat+2+16) (es:=(aheadP f k j d.toNat).map Cg) rfl rfl rfl rfl rfl rfl rfl rfl ((Ay _ _ _).trans (congrArg some (vB hdn))) rfl rfl (q68 _) (Lf fun _=>rfl) (H5 fun _=>rfl) rfl rfl xQ xO) ?_;refine dq 54 (Ae Ah (hm:=(Av _ _).symm) (h0:=hd0.1)) ?_;refine qK8 rfl rfl (CS Ah (p:=false) (sz:=1) (es:=AH (SJ (aheadP f k j)) f.blocks.length) (cs:=[SJ (aheadP f k j) d.toNat]) rfl rfl rfl rfl rfl rfl B7 (Av _ _).symm WW (Cx _ _) Al (CL _ _) D6) ?_;refine GS Ev [([],[]),([],[]),([],[]),([2],[]),([],[]),([],[]),([],[]),([],[]),([2],[]),([],[]),([7],[]),([7],[]),([],[]),([],[]),([18],[18]),([7],[]),([7],[7])] yw AF ?_;refine bB ?_;refine aq 55 (AS rfl rfl hjl ce) ?_;refine wk 2 ?_;exact⟨j+1,qV3 J7 (BO (k0:=10) rfl (by repeat(first|exact trivial|refine⟨⟨by first|rfl|exact congrArg (fun es=>some (rf 1 es)) (wA (ID hx hd hd0.1)),by first|rfl|exact K2 f R Al|exact C7 _ _|exact K0 (fun _ _=>Eb _ _ _ _)|exact Ak (fun _ _=>DI _ _ _)⟩,?_⟩)) (fun x_=>by(try simp only[AQ]);(repeat(first|refine AP Dd ?_|refine hrm_skip Ab ?_));exact(EO jm _ _ x_).trans (congrArg some (vA hdn (ID hx hd hd0.1) x_).symm)) (CV (fun _=>Bf _) (fun _=>Bf _) (fun _=>Dt _))),trivial,by omega⟩
  refine Bg ?_;have hjge:x.nexts.length<=j:=by have h:=hb2;simp[AI]at h;omega
  refine wk 6 ?_;refine dq 60 (En Ah (Au hx)) ?_;refine wk 3 ?_;refine dx 64 (Mh (r:=.tup [.lst false (B1 R (M3 x)),.lst false (B1 R (fun v=>D2 v x.ins))]) (hc:=hNew) (hw:=hNone) [] [] rfl Tryz.func97 AF rfl rfl rfl trivial rfl Cf trivial rfl (by rw[hRf];exact j7 x R hR (hi x hxm) (fun t ht=>by rw[<-hRf];exact hs.low x hxm t ht) (fun e=>by rw[<-hRf];exact hs.fin x hxm e))) ?_;refine wk 1 ?_;refine dq 65 (Od rfl rfl rfl) ?_;refine dq 66 (Od rfl rfl rfl) ?_;refine wk 11 ?_;refine ax 73 DB ?_;refine ax 74 (CF Ah (b:=8) (es:=(f.blocks.take k).map (Y8 R)) rfl rfl rfl rfl rfl rfl rfl rfl B7 rfl rfl (q68 _) (Lf fun _=>rfl) (H5 fun _=>rfl) rfl rfl o3 oW) ?_;refine wk 2 ?_;refine qK6 rfl rfl (CS Ah rfl rfl rfl rfl rfl rfl rfl rfl rfl (Cx _ _) Al (CL _ _) D6) ?_;refine wk 9 ?_;refine ax 83 DB ?_;refine ax 84 (CF Ah (b:=9) (es:=(f.blocks.take k).map (Y7 R)) rfl rfl rfl rfl rfl rfl rfl rfl B7 rfl rfl (q68 _) (Lf fun _=>rfl) (H5 fun _=>rfl) rfl rfl o3 oW) ?_;refine wk 2 ?_;refine qK6 rfl rfl (CS Ah rfl rfl rfl rfl rfl rfl rfl rfl rfl (Cx _ _) Al (CL _ _) D6) ?_;refine wk 10 ?_;refine dx 94 (Uj (q:=F8 R (fun _=>false)) (r:=.ref (3*k+0+16) (nw R) 0 (nw R)) (3*k+0+16) rfl Tryz.func98 AF rfl rfl rfl (by(try simp only[AQ]);(repeat(first|refine AP Dd ?_|refine hrm_skip Ab ?_));exact(Ay _ _ _).trans (congrArg some pR)) rfl (by show mem _ _=true;exact PX _) (by rw[hRf];exact MW (3*k+0+16) R hR)) ?_
  refine dx 95 (Ro Ah 10 false rfl rfl rfl rfl rfl rfl Al B7 rfl rfl rfl D6 rfl rfl) ?_;refine dx 96 (Mi Ah (b:=3) (es:=AH (rG 0 (nw R)) k) (x0:=[rG 0 (nw R) k]) rfl rfl rfl rfl rfl rfl rfl rfl B7 rfl rfl (q68 _) (cA (p:=false) (sz:=1) B7 rfl) rfl (by rw[Av];show _*24<=_;omega) (by rw[Av];simp only[maxLen];omega)) ?_;refine wk 2 ?_;refine qK8 rfl rfl (CS Ah rfl rfl rfl rfl rfl rfl rfl rfl rfl (Cx _ _) Al (CL _ _) D6) ?_;refine GS Ev [([],[]),([],[]),([],[]),([],[]),([2],[]),([],[]),([0],[]),([16],[16]),([10],[10]),([3,10],[3]),([],[]),([],[]),([2],[2])] yw AF ?_;refine wk 8 ?_;refine dx 106 (Uj (q:=F8 R (fun _=>false)) (r:=.ref (3*k+1+16) (nw R) 0 (nw R)) (3*k+1+16) rfl Tryz.func98 AF rfl rfl rfl (by(try simp only[AQ]);(repeat(first|refine AP Dd ?_|refine hrm_skip Ab ?_));exact(Ay _ _ _).trans (congrArg some pQ)) rfl (by show mem _ _=true;exact PX _) (by rw[hRf];exact MW (3*k+1+16) R hR)) ?_
  refine dx 107 (Ro Ah 11 false rfl rfl rfl rfl rfl rfl Al B7 rfl rfl rfl D6 rfl rfl) ?_;refine dx 108 (Mi Ah (b:=4) (es:=AH (rG 1 (nw R)) k) (x0:=[rG 1 (nw R) k]) rfl rfl rfl rfl rfl rfl rfl rfl B7 rfl rfl (q68 _) (cA (p:=false) (sz:=1) B7 rfl) rfl (by rw[Av];show _*24<=_;omega) (by rw[Av];simp only[maxLen];omega)) ?_;refine wk 2 ?_;refine qK8 rfl rfl (CS Ah rfl rfl rfl rfl rfl rfl rfl rfl rfl (Cx _ _) Al (CL _ _) D6) ?_;refine GS Ev [([],[]),([],[]),([],[]),([],[]),([2],[]),([],[]),([0],[]),([17],[17]),([11],[11]),([4,11],[4]),([],[]),([],[]),([2],[2])] yw AF ?_;refine bB ?_;refine aq 111 (AS rfl rfl hkl Bq) ?_;refine wk 2 ?_;exact⟨k+1,qV3 J7 (BO (k0:=10) rfl (by repeat(first|exact trivial|refine⟨⟨by first|rfl|exact congrArg (fun s=>some (rf 8 [s])) (ky hx)|exact congrArg some (cB _ _ _).symm|exact congrArg (fun A=>some (rf 1 (AH (SJ A) f.blocks.length))) (funext (IE hx hjge))|exact congrArg (fun es=>some (BU 1 es)) (Ta hx _),by first|rfl|exact K2 f R Al|exact C7 _ _|exact K0 (fun _ _=>Eb _ _ _ _)|exact Ak (fun _ _=>DI _ _ _)⟩,?_⟩)) (fun x_=>by rw[<-Xw (IE hx hjge)];(try simp only[AQ]);(repeat(first|refine AP Dd ?_|refine hrm_skip Ab ?_));refine(EO (F:=F3 (rI (k+1) R B0) (rI k R B0) (rA f.blocks.length (aheadP f k j))) (fun y_=>?_) _ _ x_).trans (congrArg some (lr x_).symm);(repeat(first|refine AP Dd ?_|refine hrm_skip Ab ?_));exact(EO (fun z_=>by(repeat(first|refine AP Dd ?_|refine hrm_skip Ab ?_));exact Ay _ _ _) _ _ y_).trans (congrArg some (lu y_).symm)) (CV (fun _=>Bf _) (fun _=>Bf _) (fun _=>Dt _))),hkl,by omega⟩
 refine Bg ?_;have hge:f.blocks.length<=k:=by have h:=hb1;simp at h;omega
 refine wk 3 ?_;have hkn:k=f.blocks.length:=by omega
 subst hkn;rw[pE hn0,Xe hn0,Xe hn0,q71,cC hn0,cC hn0,show aheadP f f.blocks.length 0=AM f from funext fun c=>Ep f _ c];refine qJ0 (.dryCell 2 0 6 6 1 true rfl rfl rfl rfl rfl Al) ?_;refine wk 5 ?_;refine Bu (γ:=Nat) (kf 10) (fun k=>⟨121,(Aa (Aa (Aa (Aa (Aa AU 1 (pZ 0)) 3 (iN f.blocks.length)) 4 (pZ 2)) 112 (iN f.blocks.length)) 113 (iN k)),(Jq (nb [(rf 2 [f.cells]),.free,(rf 8 [oM f ((List.range k).map Cg).length (k)]),(rf 1 (AH (rG 0 (nw R)) f.blocks.length)),(rf 1 (AH (rG 1 (nw R)) f.blocks.length)),(rt 1 (bC f.blocks.length (fun b=>decide (b<k)))),(rt 1 ((List.range k).map Cg)),(rf 1 (AH (SJ (AM f)) f.blocks.length)),(rt 1 (f.blocks.map (Y8 R))),(rt 1 (f.blocks.map (Y7 R)))]) (F3 (rI f.blocks.length R B0) (rI f.blocks.length R B0) (rA f.blocks.length (AM f))))⟩) (fun k=>k<=f.blocks.length) (fun k=>f.blocks.length-k) 0 (qJ1 Cq (CI (k0:=10) rfl (by repeat(first|exact trivial|refine⟨⟨by first|rfl|exact congrArg (fun w=>some (rt 1 (bC _ w))) (funext fun b=>(q89 (Nat.not_lt_zero b)).symm),by first|rfl|exact Ak (fun _ _=>Eb _ _ _ _)|exact Ak (fun _ _=>DI _ _ _)⟩,?_⟩)) Hw My)) (qZ1 _) (fun g b hb=>Ci (k0:=10) rfl hb) ?_
 intro k hk;refine wk 5 ?_;refine asp 114 (fun hb3=>?_) fun hb3=>?_
 .
  refine Ba ?_;have hkl:k<f.blocks.length:=by have h:=hb3;simp at h;exact h
  refine wk 11 ?_;refine qV4 118 (hn:=M7 _ (HS f R ((List.range (k+1)).map Cg) (k+1) (fun b=>decide (b<k+1)) (F3 (rI f.blocks.length R B0) (rI f.blocks.length R B0) (rA f.blocks.length (AM f))))) (r:=.tup []) rfl rfl rfl (Rp (es:=(List.range k).map Cg) (len:=k) (w:=fun b=>decide (b<k)) rfl Tryz.func90 AF rfl rfl rfl O5 (fun x_=>Ay _ _ _) (CV (fun _=>Bf _) (fun _=>Bf _) (fun _=>Dt _)) (CV (fun _=>Bf _) (fun _=>Bf _) (fun _=>Dt _)) rfl (by have h:=cn f R ((List.range k).map Cg) k (fun b=>decide (b<k)) (F3 (rI f.blocks.length R B0) (rI f.blocks.length R B0) (rA f.blocks.length (AM f))) k hkl hn Aq Em;rw[Q9,UA,NU]at h;exact h)) ?_;refine wk 2 ?_;refine aq 119 (AS rfl rfl hkl Bq) ?_;refine wk 2 ?_;exact⟨k+1,qV3 J7 (BO (k0:=10) rfl jn (fun x_=>(M6 _ _ x_).trans (Ay _ _ _)) (CV (fun _=>Bf _) (fun _=>Bf _) (fun _=>Dt _))),hkl,by omega⟩
 refine Bg ?_;have hge:f.blocks.length<=k:=by have h:=hb3;simp at h;omega
 refine wk 7 ?_;have hkn:k=f.blocks.length:=by omega
 subst hkn;exact⟨[_],⟨rfl,trivial⟩,rfl,vW O5 js⟩
theorem qp(f:BFunc)(hs:f.sane)(hn0:0<f.blocks.length)(hn:f.blocks.length<=100000)(hr:f.regs<=100000)(hi:∀x∈f.blocks,x.ins.length<=100000):Pu Tryz.prog 62 [.agg f.cells] (.agg [N5 (Fx f),N5 (JC f)]):=by
 have hr0:=hs.regs;obtain⟨R,hRf⟩:∃R:Nat,f.regs=(R:Int):=⟨f.regs.toNat,by omega⟩
 have hRt:R=f.regs.toNat:=by omega
 have hR:R<=100000:=by omega
 refine qK5 (n:=103) Ah Tryz.func62 rfl rfl ?_;refine FL ?_;refine ax 1 (CC 2 0) ?_;refine ax 2 (DA Ah 1) ?_;refine wk 4 ?_;refine qV4 11 (hn:=M7 _ (HS f R ((List.range f.blocks.length).map Cg) f.blocks.length (fun b=>decide (b<f.blocks.length)) (F3 (rI f.blocks.length R B0) (rI f.blocks.length R B0) (rA f.blocks.length (AM f))))) (r:=.ptr 2 1 0 0) rfl rfl rfl (Nh (hc:=hNew) (hw:=M7 hNone (HS f R ((List.range f.blocks.length).map Cg) f.blocks.length (fun b=>decide (b<f.blocks.length)) (F3 (rI f.blocks.length R B0) (rI f.blocks.length R B0) (rA f.blocks.length (AM f))))) kS rfl Tryz.func88 AF rfl rfl rfl (fun b hb=>⟨.free,by have:=P2 hb;(try simp only[AQ]);(repeat(first|refine AP Dd ?_|refine hrm_skip Ab ?_));rfl,rfl⟩) (funext fun b=>by unfold FE;cases e:kS b with
  |false=>rfl
  |true=>(have:=P2 e;(try simp only[AQ]);show _=some AObj.free;(repeat(first|refine AP Dd ?_|refine hrm_skip Ab ?_));rfl)) (fun b hb=>VV hb) (fun b hb=>by obtain⟨q,q1,q2⟩:=SP (f:=f) (R:=R) (es:=(List.range f.blocks.length).map Cg) (len:=f.blocks.length) (w:=fun b=>decide (b<f.blocks.length)) (F:=(F3 (rI f.blocks.length R B0) (rI f.blocks.length R B0) (rA f.blocks.length (AM f)))) (CV (fun _=>Bf _) (fun _=>Bf _) (fun _=>Dt _)) hb;exact⟨q,(I6 hb).trans q1,(I6 hb).trans q1,q2⟩) rfl (Xd f hs R hRf hR hn0 hn hi)) ?_
 refine wk 4 ?_;refine Bu (γ:=LQ) (kf 10) (fun q=>⟨103,(Aa (Aa (Aa AU 1 (pZ 0)) 2 (pZ 1)) 3 (pZ 2)),(Jq (nb [(rf 2 [f.cells]),(rf 2 [[.nil,.nil]]),(rf 8 [oM f (q.es).length (q.ws.length)]),(rf 1 (AH (rG 0 (nw R)) f.blocks.length)),(rf 1 (AH (rG 1 (nw R)) f.blocks.length)),(rt 1 (bC f.blocks.length (q.w))),(rt 1 (q.es)),(rf 1 (AH (SJ (AM f)) f.blocks.length)),(rt 1 (f.blocks.map (Y8 R))),(rt 1 (f.blocks.map (Y7 R)))]) (F3 (rI f.blocks.length R q.I) (rI f.blocks.length R q.O) (rA f.blocks.length (AM f))))⟩) (fun q=>LQI f R q) (fun q=>lmu f R q) (lq0 f.blocks.length) (qJ1 B4 (CI (k0:=10) rfl (by repeat(first|exact trivial|refine⟨⟨by first|rfl|exact I6 rfl|(show some (rf 8 [oM f ((List.range f.blocks.length).map Cg).length f.blocks.length])=some (rf 8 [oM f ((List.range f.blocks.length).map Cg).length (List.range f.blocks.length).length]);rw[List.length_range]),by first|rfl|exact Ak (fun _ _=>Eb _ _ _ _)|exact Ak (fun _ _=>DI _ _ _)⟩,?_⟩)) (fun x_=>(M6 _ _ x_).trans (Ay _ _ _)) My)) (LQI.first f R) (fun g b hb=>Ci (k0:=10) rfl hb) ?_
 intro q hQ;obtain⟨I,O,w,ws,es⟩:=q;dsimp only at hQ|-;refine wk 10 ?_;refine asp 17 (fun hb1=>?_) fun hb1=>?_
 .
  refine Ba ?_;obtain⟨ws',b,hws⟩:∃ws' b,ws=ws'++[b]:=by
   rcases GF ws with h|h
   . have h2:=hb1;rw[h]at h2;simp at h2
   . exact h
  subst hws;have hpop:=hQ.wt.pop;have hb:=hpop.2.1;obtain⟨x,hx⟩:=Ad hb;have hxm:=q33 hx;have hle:=hQ.wt.le;have hgr:=hQ.k.grow hs hx hRt;refine wk 9 ?_;refine aq 23 (A9 (r:=.int .i64 (ws'.length:Int)) rfl rfl rfl (Nd (by have:=hQ.wt.le;simp at this;omega))) ?_;refine wk 9 ?_;refine aq 29 (Ae Ah (hm:=rfl) (hn:=Em)) ?_;refine aq 30 (Ao Ah rfl rfl rfl (.ptr _ _ _ _ _ _ _ (Cg b) rfl rfl (by rw[qQ8,q55];exact hQ.st.get)) rfl) ?_;refine wk 10 ?_;refine aq 37 (It Ah (es:=es) (m:=ws'.length) rfl rfl rfl rfl rfl rfl rfl rfl rfl Aq) ?_;refine wk 11 ?_;refine aq 45 (Ae Ah (hm:=(Av _ _).symm)) ?_;refine qK6 rfl rfl (AY Ah (hm:=(Av _ _).symm) (hk:=IU)) ?_;refine wk 5 ?_;refine qV4 48 (hn:=M7 _ (HS f R es ws'.length (Dn w b false) (F3 (rI f.blocks.length R (Be I b (inN x (E3 I (O b) x)))) (rI f.blocks.length R (Be O b (E3 I (O b) x))) (rA f.blocks.length (AM f))))) (r:=.bool (chg (inN x (E3 I (O b) x)) (I b) (nw R))) rfl rfl rfl (Rp (es:=es) (len:=ws'.length) (w:=Dn w b false) rfl Tryz.func89 AF rfl rfl rfl yf pb (CV (fun _=>Bf _) (fun _=>Bf _) (fun _=>Dt _)) (CV (fun _=>Bf _) (fun _=>Bf _) (fun _=>Dt _)) rfl (qC f hs R hR es ws'.length (Dn w b false) I O (rA f.blocks.length (AM f)) (fun _=>Dt _) b x hx hn)) ?_
  refine an ?_;refine asp 48 (fun hb2=>?_) fun hb2=>?_
  .
   refine Ba ?_;have hch:chg (inN x (E3 I (O b) x)) (I b) (nw R)=true:=hb2;refine wk 7 ?_;refine aq 54 (Ae Ah (hm:=(Av _ _).symm)) ?_;refine aq 55 (Ao Ah rfl rfl rfl (.ptr _ _ _ _ _ _ _ [SJ (AM f) b] rfl (Av _ _).symm IU) rfl) ?_;refine aq 56 EU ?_;refine wk 3 ?_;refine Bu (γ:=LP) (kf 10) (fun p=>⟨103,(Aa (Aa (Aa (Aa (Aa (Aa (Aa AU 1 (pZ 0)) 2 (pZ 1)) 3 (pZ 2)) 5 (iN b)) 55 (SJ (AM f) b)) 56 (.int .i64 ((AM f b).length:Int))) 57 (iN p.j)),(Jq (nb [(rf 2 [f.cells]),(rf 2 [[.nil,.nil]]),(rf 8 [oM f (p.es).length (p.ws.length)]),(rf 1 (AH (rG 0 (nw R)) f.blocks.length)),(rf 1 (AH (rG 1 (nw R)) f.blocks.length)),(rt 1 (bC f.blocks.length (p.w))),(rt 1 (p.es)),(rf 1 (AH (SJ (AM f)) f.blocks.length)),(rt 1 (f.blocks.map (Y8 R))),(rt 1 (f.blocks.map (Y7 R)))]) (F3 (rI f.blocks.length R (Be I b (inN x (E3 I (O b) x)))) (rI f.blocks.length R (Be O b (E3 I (O b) x))) (rA f.blocks.length (AM f))))⟩) (fun p=>LPI f R (Be I b (inN x (E3 I (O b) x))) (Be O b (E3 I (O b) x)) b p) (fun p=>(AM f b).length-p.j) ⟨Dn w b false,ws',es,0⟩ (qJ1 yh (CI (k0:=10) rfl jn (fun x_=>(M6 _ _ x_).trans (Ay _ _ _)) My)) ⟨by have h:=hgr.1;rw[hch]at h;exact h,hpop.1,hQ.st.pop⟩ (fun g b hb=>Ci (k0:=10) rfl hb) ?_
   intro p hP;refine wk 5 ?_;refine asp 58 (fun hb3=>?_) fun hb3=>?_
   .
    refine Ba ?_;have hjl:p.j<(AM f b).length:=by have h:=hb3;simp at h;exact h
    obtain⟨a,ha⟩:=Ad hjl;have ha2:=Lx (q33 ha);refine wk 5 ?_;refine aq 59 (Bl Ah (b:=3*b+2+16) (es:=(AM f b).map Cg) rfl rfl rfl rfl rfl rfl ((Ay _ _ _).trans (congrArg some (vB hb))) rfl (q46 _) Kf) ?_;refine aq 60 (Ao Ah rfl rfl rfl (.ptr _ _ _ _ true 1 ((AM f b).map Cg) (Cg a) ((Ay _ _ _).trans (congrArg some ((vB hb).trans (Kl (k:=p.j) Kf)))) rfl (by rw[q55,q54,ha];rfl)) rfl) ?_;refine wk 5 ?_;refine qV4 63 (hn:=M7 _ (HS f R (D7 p.w p.es p.ws.length a) (IX p.w p.ws a).length (LN p.w a) (F3 (rI f.blocks.length R (Be I b (inN x (E3 I (O b) x)))) (rI f.blocks.length R (Be O b (E3 I (O b) x))) (rA f.blocks.length (AM f))))) (r:=.tup []) rfl rfl rfl (Rp (es:=p.es) (len:=p.ws.length) (w:=p.w) rfl Tryz.func90 AF rfl rfl rfl O5 pb (CV (fun _=>Bf _) (fun _=>Bf _) (fun _=>Dt _)) (CV (fun _=>Bf _) (fun _=>Bf _) (fun _=>Dt _)) rfl (by have h:=cn f R p.es p.ws.length p.w (F3 (rI f.blocks.length R (Be I b (inN x (E3 I (O b) x)))) (rI f.blocks.length R (Be O b (E3 I (O b) x))) (rA f.blocks.length (AM f))) a ha2 hn hP.st.le hP.st.max;rw[Qq]at h;exact h)) ?_
    refine wk 2 ?_;refine aq 64 (AS rfl rfl hjl jA) ?_;refine wk 2 ?_;exact⟨⟨LN p.w a,IX p.w p.ws a,D7 p.w p.es p.ws.length a,p.j+1⟩,qV3 (by repeat(first|exact EDropK.new _ _|refine EDropK.put ?_ (by first|rfl) (by first|rfl|exact DI _ _ _))) (BO (k0:=10) rfl jn (fun x_=>(M6 _ _ x_).trans (Ay _ _ _)) (CV (fun _=>Bf _) (fun _=>Bf _) (fun _=>Dt _))),(hP.next ha),uM⟩
   refine Bg ?_;have hjge:(AM f b).length<=p.j:=by have h:=hb3;simp at h;omega
   refine wk 1 ?_;exact⟨⟨(Be I b (inN x (E3 I (O b) x))),(Be O b (E3 I (O b) x)),p.w,p.ws,p.es⟩,qV3 J7 (BO (k0:=10) rfl jn pb (CV (fun _=>Bf _) (fun _=>Bf _) (fun _=>Dt _))),(hP.done hjge),(qj (hgr.2.1 hch) hP.wt.le)⟩
  refine Bg ?_;have hch:chg (inN x (E3 I (O b) x)) (I b) (nw R)=false:=hb2;refine oL ?_;exact⟨⟨(Be I b (inN x (E3 I (O b) x))),(Be O b (E3 I (O b) x)),Dn w b false,ws',es⟩,qV3 J7 (BO (k0:=10) rfl jn pb (CV (fun _=>Bf _) (fun _=>Bf _) (fun _=>Dt _))),⟨by have h:=hgr.1;rw[hch]at h;exact h,hpop.1,hQ.st.pop⟩,(qk hgr.2.2 Aq)⟩
 refine Bg ?_;have hws:ws=[]:=by
  rcases GF ws with h|⟨L,b,h⟩
  . exact h
  . have h2:=hb1;rw[h]at h2;simp at h2
 subst hws;have hK:=hQ.k;have hW:=hQ.wt;refine wk 3 ?_;refine ax 8 (DA Ah 10) ?_;refine wk 3 ?_;refine qJ0 (qV5 10 (es':=[[Bo 11 [],Bo 12 []]]) rfl rfl (Qo ⟨Wk.nil _,Wk.nil _,trivial⟩)) ?_;refine wk 7 ?_;refine Bu (γ:=Nat) (kf 13) (fun k=>⟨103,(Aa (Aa (Aa (Aa (Aa (Aa AU 1 (pZ 0)) 2 (pZ 1)) 3 (pZ 2)) 8 (pZ 10)) 67 (iN f.blocks.length)) 68 (iN k)),(Jq (nb [(rf 2 [f.cells]),(rf 2 [[.nil,.nil]]),(rf 8 [oM f (es).length (0)]),(rf 1 (AH (rG 0 (nw R)) f.blocks.length)),(rf 1 (AH (rG 1 (nw R)) f.blocks.length)),(rt 1 (bC f.blocks.length (w))),(rt 1 (es)),(rf 1 (AH (SJ (AM f)) f.blocks.length)),(rt 1 (f.blocks.map (Y8 R))),(rt 1 (f.blocks.map (Y7 R))),(rf 2 [[Bo 11 (((Fx f).take k).map D3),Bo 12 (((JC f).take k).map D3)]]),(BU 1 (((Fx f).take k).map D3)),(BU 1 (((JC f).take k).map D3))]) (F3 (rI f.blocks.length R I) (rI f.blocks.length R O) (rA f.blocks.length (AM f))))⟩) (fun k=>k<=f.blocks.length) (fun k=>f.blocks.length-k) 0 (qJ1 Cq (CI (k0:=13) rfl (by repeat(first|exact trivial|refine⟨⟨by rfl,by first|rfl|exact Pi Al|exact C7 _ _|exact Ak (fun _ _=>Eb _ _ _ _)|exact Ak (fun _ _=>DI _ _ _)⟩,?_⟩)) Hw yp)) (qZ1 _) (fun g b hb=>Ci (k0:=13) rfl hb) ?_
 intro k hk;refine wk 5 ?_;refine asp 69 (fun hb4=>?_) fun hb4=>?_
 .
  refine Ba ?_;have hkl:k<f.blocks.length:=by have h:=hb4;simp at h;exact h
  obtain⟨x,hx⟩:=Ad hkl;have hxm:=q33 hx;refine wk 17 ?_;refine dq 78 (Ae Ah (hm:=(Av _ _).symm)) ?_;refine dq 79 (Ao Ah rfl rfl rfl (.ptr _ _ _ _ _ _ _ [rG 0 (nw R) k] rfl (Av _ _).symm jD) rfl) ?_;refine wk 2 ?_;refine dx 82 (Ui (q:=rt 1 (B1 R (I k))) (r:=Co (LU f k)) (3*k+0+16) rfl Tryz.func91 AF rfl rfl yd (by(try simp only[AQ]);(repeat(first|refine AP Dd ?_|refine hrm_skip Ab ?_));exact(Ay _ _ _).trans (congrArg some (pS hkl))) rfl rfl (by have h:=QW (3*k+0) R (I k) hR;rw[hK.inRow hs hRt hW hkl]at h;rw[hRf];exact h)) ?_;refine dx 83 DB ?_;refine dx 84 (CF Ah (b:=11) (es:=((Fx f).take k).map D3) rfl rfl rfl rfl rfl rfl rfl rfl B7 rfl rfl (q68 _) (Lf fun _=>rfl) (H5 fun _=>rfl) rfl rfl o3 oW) ?_;refine wk 1 ?_;refine qK8 rfl rfl (CS Ah rfl rfl rfl rfl rfl rfl rfl rfl rfl (Cx _ _) Al (CL _ _) D6) ?_;refine GS Ev [([],[]),([10],[]),([],[]),([],[]),([],[]),([2],[]),([],[]),([3],[]),([3],[]),([],[]),([0],[]),([16],[]),([],[]),([11],[11]),([],[]),([10],[10])] yw AF ?_;refine wk 8 ?_;refine dq 93 (Ae Ah (hm:=(Av _ _).symm)) ?_;refine dq 94 (Ao Ah rfl rfl rfl (.ptr _ _ _ _ _ _ _ [rG 1 (nw R) k] rfl (Av _ _).symm jD) rfl) ?_;refine wk 2 ?_;refine dx 97 (Ui (q:=rt 1 (B1 R (O k))) (r:=Co (V2 f x)) (3*k+1+16) rfl Tryz.func91 AF rfl rfl yd (by(try simp only[AQ]);(repeat(first|refine AP Dd ?_|refine hrm_skip Ab ?_));exact(Ay _ _ _).trans (congrArg some (Aa9 hkl))) rfl rfl (by have h:=QW (3*k+1) R (O k) hR;rw[hK.outRow hs hRt hW hx]at h;rw[hRf];exact h)) ?_;refine dx 98 DB ?_;refine dx 99 (CF Ah (b:=12) (es:=((JC f).take k).map D3) rfl rfl rfl rfl rfl rfl rfl rfl B7 rfl rfl (q68 _) (Lf fun _=>rfl) (H5 fun _=>rfl) rfl rfl o3 oW) ?_
  refine wk 1 ?_;refine qK8 rfl rfl (CS Ah rfl rfl rfl rfl rfl rfl rfl rfl rfl (Cx _ _) Al (CL _ _) D6) ?_;refine GS Ev [([],[]),([10],[]),([],[]),([],[]),([],[]),([2],[]),([],[]),([4],[]),([4],[]),([],[]),([0],[]),([17],[]),([],[]),([12],[12]),([],[]),([10],[10])] yw AF ?_;refine bB ?_;refine aq 101 (AS rfl rfl hkl Bq) ?_;refine wk 2 ?_;exact⟨k+1,qV3 J7 (BO (k0:=13) rfl (by repeat(first|exact trivial|refine⟨⟨by first|rfl|exact congrArg (fun es=>some (BU 1 es)) (GW (R1 hkl))|exact congrArg (fun es=>some (BU 1 es)) (GW (Pn hx))|(rw[<-GW (R1 hkl),<-GW (Pn hx)];rfl),by first|rfl|exact Pi Al|exact C7 _ _|exact Ak (fun _ _=>Eb _ _ _ _)|exact Ak (fun _ _=>DI _ _ _)⟩,?_⟩)) Hw (CV (fun _=>Bf _) (fun _=>Bf _) (fun _=>Dt _))),hkl,by omega⟩
 refine Bg ?_;have hge:f.blocks.length<=k:=by have h:=hb4;simp at h;omega
 refine wk 2 ?_;have hkn:k=f.blocks.length:=by omega
 subst hkn;refine qJ0 (.endCell 10 0 11 rfl rfl rfl Al) ?_;refine qJ0 (.endCell 10 1 12 rfl rfl rfl Al) ?_;refine wk 5 ?_;refine⟨[_],⟨⟨_,_,_,_,rfl,rfl,.ptr _ _ _ _ _ _ _ _ rfl rfl rfl,rfl⟩,trivial⟩,?_,rfl⟩;show AV.agg [AV.lst false _,AV.lst false _]=AV.agg [AV.lst false _,AV.lst false _];rw[q20 (by simp[Fx]),q20 (by simp[JC])];rfl
theorem YG(f:BFunc)(R:Nat)(S:DR)(G:GG)(es:List (List AV))(len:Nat)(w:Nat->Bool)(b:Nat)(hb:b<R)(hR:R<=100000)(hl:len<=es.length)(he:es.length<=R):Ca Tryz.prog 83 [.ptr 2 1 0 0,.int .i64 (b:Int)] (DH (Kc f R S (es) (len) (w)) (DF f R S G)) (.tup []) (GA hNone (DH (Kc f R S (D7 w es len b) (EN w len b) (Dn w b true)) (DF f R S G))):=by
 refine qK4 (n:=28) Ah Tryz.func83 rfl rfl ?_;refine wk 7 ?_;refine aq 9 (Ae Ah (hm:=(Av _ _).symm)) ?_;refine aq 10 (Ao Ah rfl rfl rfl (.ptr _ _ _ _ _ _ _ [.bool (w b)] rfl (Av _ _).symm IU) rfl) ?_;refine wk 2 ?_;refine asp 11 (fun hb1=>?_) fun hb1=>?_
 .
  refine Ba ?_;have hwb:w b=false:=by have h:=hb1;simpa using h
  refine wk 7 ?_;refine aq 17 (Ae Ah (hm:=(Av _ _).symm)) ?_;refine qK6 rfl rfl (AY Ah (hm:=(Av _ _).symm) (hk:=IU)) ?_;refine wk 8 ?_;refine ax 24 DB ?_;refine ax 25 (Rn Ah (es:=es) rfl rfl rfl rfl rfl rfl rfl rfl rfl rfl hl rfl rfl (q68 _) (.lst _ _) rfl (fun _=>rfl) (by show _*8<=_;omega) Bq) ?_;refine wk 4 ?_;have e1:D7 w es len b=Eo es len (Cg b):=by unfold D7;rw[hwb];rfl
  have e2:EN w len b=len+1:=by unfold EN;rw[hwb];rfl
  rw[e1,e2];exact⟨[],trivial,rfl,(OK rfl (by repeat(first|exact trivial|refine⟨by first|rfl|exact congrArg (fun es=>some (rt 1 es)) (Lw true),?_⟩)) IH)⟩
 refine Bg ?_;have hwb:w b=true:=by have h:=hb1;simpa using h
 refine oL ?_;have e1:D7 w es len b=es:=by unfold D7;rw[hwb];rfl
 have e2:EN w len b=len:=by unfold EN;rw[hwb];rfl
 rw[e1,e2,IY hwb];exact oQ
theorem YI(f:BFunc)(R:Nat)(S:DR)(G:GG)(es:List (List AV))(len:Nat)(w:Nat->Bool)(b:Nat)(x:Block)(hx:f.blocks[b]?=some x)(s:Site)(hat:s.at_<=x.ins.length):Ca Tryz.prog 85 [.ptr 2 1 0 0,.int .i64 (b:Int),.agg (IJ s)] (DH (Kc f R S (es) (len) (w)) (DF f R S G)) (.bool (leftS (G b) x.ins.length s)) (GA hNone (DH (Kc f R S (es) (len) (w)) (DF f R S G))):=by
 have hb:b<f.blocks.length:=(q05.1 hx).1;refine qK4 (n:=34) Ah Tryz.func85 rfl rfl ?_;refine FL ?_;refine ax 5 (CC 3 8) ?_;refine wk 12 ?_;refine dq 15 (En Ah (Au hx)) ?_;refine wk 5 ?_;refine qK9 20 rfl (fun hb1=>?_) (fun hb1=>?_)
 .
  refine wk 12 ?_;refine dq 33 (G4 true rfl rfl rfl rfl) ?_;exact xj
 have hc0:=hb1;have hne:¬s.at_=x.ins.length:=by have h:=hc0;simp at h;omega
 refine wk 5 ?_;refine dq 26 (Ae Ah (hm:=(Av _ _).symm)) ?_;refine dq 27 (Ao Ah rfl rfl rfl (.ptr _ _ _ _ _ _ _ [gR f b] rfl (Av _ _).symm IU) rfl) ?_;refine wk 2 ?_;refine dq 30 (Ae Ah (hb:=o8) (hm:=Tk) (hn:=(by rw[FZ hx];omega))) ?_;refine dq 31 (Ao Ah rfl rfl rfl (.ptr _ _ _ _ true 1 (bC x.ins.length (G b)) [.bool (G b s.at_)] o8 Tk (by rw[qQ8,q55];exact EE Ab)) rfl) ?_;refine dq 32 (Iu rfl rfl) ?_;refine dq 33 (Fh false rfl rfl rfl rfl) ?_;exact xj
theorem g8(f:BFunc)(R:Nat)(S:DR)(G:GG)(es:List (List AV))(ws:List Nat)(w:Nat->Bool)(b p:Nat)(x:Block)(hx:f.blocks[b]?=some x)(hp:p<x.ins.length)(t:Tac)(ht:∀u∈t.uses,0<=u/\u<R)(hR:R<=100000)(hq:QId R ⟨G,w,ws,es⟩):Ca Tryz.prog 87 [.ptr 2 1 0 0,.int .i64 (b:Int),.int .i64 (p:Int),.agg t.cells] (DH (Kc f R S (es) (ws.length) (w)) (DF f R S G)) (.tup []) (GA hNone (DH (Kc f R S (CB b p t.uses ⟨G,w,ws,es⟩).es (CB b p t.uses ⟨G,w,ws,es⟩).ws.length (CB b p t.uses ⟨G,w,ws,es⟩).w) (DF f R S (CB b p t.uses ⟨G,w,ws,es⟩).G))):=by
 have hb:b<f.blocks.length:=(q05.1 hx).1;refine qK4 (n:=30) Ah Tryz.func87 rfl rfl ?_;refine FL ?_;refine ax 7 (CC 8 0) ?_;refine wk 8 ?_;refine aq 15 (Ae Ah (hm:=(Av _ _).symm)) ?_;refine aq 16 (Ao Ah rfl rfl rfl (.ptr _ _ _ _ _ _ _ [gR f b] rfl (Av _ _).symm IU) rfl) ?_;refine wk 1 ?_;refine aq 18 (Ae Ah (hb:=o8) (hm:=Tk) (hn:=(by rw[FZ hx];omega))) ?_;refine qK6 rfl rfl (AY Ah (es:=bC x.ins.length (G b)) (cs:=[.bool (G b p)]) rfl rfl rfl rfl rfl o8 Tk (by rw[qQ8,q55];exact EE hp) rfl Al rfl (fun _=>rfl)) ?_;refine wk 4 ?_;refine ax 20 (Cn Tryz.func81 (SA _)) ?_;refine wk 4 ?_;refine Bu (γ:=Nat) (kf 8) (fun k=>⟨30,(Aa (Aa (Aa (Aa AU 0 (pZ 2)) 20 (AI t.uses)) 21 (iN t.uses.length)) 22 (iN k)),(Jq (nb [(rf 8 [t.cells]),.free,(rf 8 [WO f R (((t.uses.take k).foldl (fun st u=>H3 st u.toNat) (⟨ER G b p,w,ws,es⟩:Fu)).es).length (((t.uses.take k).foldl (fun st u=>H3 st u.toNat) (⟨ER G b p,w,ws,es⟩:Fu)).ws.length)]),(rf 1 (AH (aR (AM f)) f.blocks.length)),(rf 1 (AH (oR f.blocks.length R S) R)),(rf 1 (AH (gR f) f.blocks.length)),(rt 1 (((t.uses.take k).foldl (fun st u=>H3 st u.toNat) (⟨ER G b p,w,ws,es⟩:Fu)).es)),(rt 1 (bC R (((t.uses.take k).foldl (fun st u=>H3 st u.toNat) (⟨ER G b p,w,ws,es⟩:Fu)).w)))]) (DF f R S (ER G b p)))⟩) (fun k=>QId R ((t.uses.take k).foldl (fun st u=>H3 st u.toNat) (⟨ER G b p,w,ws,es⟩:Fu))/\k<=t.uses.length) (fun k=>t.uses.length-k) 0 (qJ1 Cq (CI (k0:=8) rfl uT (fun x_=>by(try simp only[AQ]);(repeat(first|refine AP Dd ?_|refine hrm_skip Ab ?_));exact(EO jm _ _ x_).trans (congrArg some (wJ hb hx x_).symm)) S1)) ⟨⟨hq.wt,hq.st⟩,qZ1 _⟩ (fun g b hb=>Ci (k0:=8) rfl hb) ?_
 intro k hQ;generalize hqe:((t.uses.take k).foldl (fun st u=>H3 st u.toNat) (⟨ER G b p,w,ws,es⟩:Fu))=q at hQ|-;refine wk 5 ?_;refine asp 23 (fun hb1=>?_) fun hb1=>?_
 .
  refine Ba ?_;have hkl:k<t.uses.length:=by have h:=hb1;simp[AI]at h;exact h
  obtain⟨u,hu⟩:=Ad hkl;have hub:=ht u (q33 hu);refine wk 5 ?_;refine aq 24 (En Ah (Au hu)) ?_;refine wk 6 ?_;refine qV4 28 (hn:=GA _ (DH (Kc f R S (D7 q.w q.es q.ws.length u.toNat) ((IX q.w q.ws u.toNat).length) (LN q.w u.toNat)) (DF f R S (ER G b p)))) (r:=.tup []) rfl rfl rfl (FD (Kc f R S (q.es) (q.ws.length) (q.w)) (Kc f R S (D7 q.w q.es q.ws.length u.toNat) ((IX q.w q.ws u.toNat).length) (LN q.w u.toNat)) (DF f R S (ER G b p)) rfl Tryz.func83 AF rfl rfl rfl rfl rfl (CY _ _ _ _ _ _) (CY _ _ _ _ _ _) Vi IH (Bw Dv f R _ _) (Bw Dv f R _ _) rfl (by have h:=YG f R S (ER G b p) q.es q.ws.length q.w u.toNat Ab hR hQ.1.st.le hQ.1.st.max;rw[Qq,q41 hub.1]at h;exact h)) ?_;refine wk 2 ?_;refine aq 29 (AS rfl rfl hkl jz) ?_;refine wk 2 ?_;exact⟨k+1,qV3 J7 (BO (k0:=8) rfl (by repeat(first|exact trivial|refine⟨⟨by first|rfl|exact Cz rfl|(rw[Pl hu,hqe];first|rfl|exact Cz rfl),by first|rfl|exact Ak (fun _ _=>Bz (AA _) _ _)|exact Ak (fun _ _=>Bm (AA _) _ _ _ _)|exact Ak (fun _ _=>CG (AA _) _ _)⟩,?_⟩)) IH (Bw (AA _) f R _ _)),⟨by rw[Pl hu,hqe];exact hQ.1.push Ab,hkl⟩,by omega⟩
 refine Bg ?_;have hge:t.uses.length<=k:=by have h:=hb1;simp[AI]at h;omega
 refine wk 1 ?_;have hk:k=t.uses.length:=by omega
 subst hk;rw[q71]at hqe;have e1:CB b p t.uses ⟨G,w,ws,es⟩=q:=hqe;have e2:q.G=ER G b p:=by rw[<-e1];exact PZ _ _ _ _
 rw[e1,e2];exact oQ
theorem YH(f:BFunc)(hs:f.sane)(R:Nat)(G:GG)(es:List (List AV))(len:Nat)(w:Nat->Bool)(v:Nat)(hv:v<R)(hn:f.blocks.length<=100000)(hR:R<=100000)(hi:∀x∈f.blocks,x.ins.length<=100000):Ca Tryz.prog 84 [.ptr 2 1 0 0,.int .i64 (v:Int)] (DH (Kc f R (SB f) (es) (len) (w)) (DF f R (SB f) G)) (Co (H7 f.blocks.length (fun b=>Za (Dh f G) v b))) (GA hNone (DH (Kc f R (SB f) (es) (len) (w)) (DF f R (SB f) G))):=by
 refine qK4 (n:=122) Ah Tryz.func84 rfl rfl ?_;refine wk 12 ?_;refine ax 21 (AK Ah (n:=f.blocks.length) (m:=f.blocks.length) 0 true rfl rfl rfl (Aq) (Aq) rfl rfl rfl rfl rfl (q68 _) rfl (qZ0 _) cc Bq) ?_;refine wk 10 ?_;refine ax 28 (AK Ah (n:=f.blocks.length) (m:=f.blocks.length) 1 true rfl rfl rfl (Aq) (Aq) rfl rfl rfl rfl rfl (q68 _) rfl (qZ0 _) (by show 1*f.blocks.length<=_;omega) Bq) ?_;refine wk 8 ?_;refine qJ0 (.dry 7 8 1 true rfl rfl rfl Al) ?_;refine wk 6 ?_;refine aq 34 (Ae Ah (hb:=B7) (hm:=(Av _ _).symm)) ?_;refine aq 35 (Ao Ah rfl rfl rfl (.ptr _ _ _ _ _ _ _ [oR f.blocks.length R (SB f) v] B7 (Av _ _).symm Tr) rfl) ?_;refine aq 36 EU ?_;refine wk 3 ?_;refine Bu (γ:=Nat×List (List AV)) (kf 9) (fun q=>⟨122,(Aa (Aa (Aa (Aa (Aa (Aa (Aa (Aa AU 0 (pZ 2)) 1 (iN v)) 5 (.ref 0 f.blocks.length 0 f.blocks.length)) 6 (.ref 1 f.blocks.length 0 f.blocks.length)) 7 (.ref 8 q.2.length 0 (Fy f G v q.1).length)) 35 (oR f.blocks.length R (SB f) v)) 36 (.int .i64 ((LX f.blocks.length R (SB f) v).length:Int))) 37 (iN q.1)),(Jq (nb [(rt 1 (iC f.blocks.length (JP f G v q.1))),(rt 1 (bC f.blocks.length (WN f G v q.1))),(rf 8 [WO f R (es).length (len)]),(rf 1 (AH (aR (AM f)) f.blocks.length)),(rf 1 (AH (oR f.blocks.length R (SB f)) R)),(rf 1 (AH (gR f) f.blocks.length)),(rt 1 (es)),(rt 1 (bC R (w))),(rt 1 q.2)]) (DF f R (SB f) G))⟩) (fun q=>q.1<=(Hn f v).length/\StackI f.blocks.length q.2 (Fy f G v q.1)) (fun q=>(Hn f v).length-q.1) (0,[]) (qJ1 uL (CI (k0:=9) rfl (by repeat(first|exact trivial|refine⟨⟨by first|rfl|exact congrArg (fun es=>some (rt 1 es)) ((Jn _ _).trans (by rw[UX];rfl))|exact congrArg (fun es=>some (rt 1 es)) ((Jn _ _).trans (by unfold WN;rw[UX];rfl))|((try simp only[AQ]);repeat(first|rfl|exact AB _ _ _|refine AP Dd ?_|refine hrm_skip Ab ?_|refine(Dy _ LL).trans ?_)),by first|rfl|exact Ak (fun _ _=>Bz (AA _) _ _)|exact Ak (fun _ _=>Bm (AA _) _ _ _ _)|exact Ak (fun _ _=>CG (AA _) _ _)|exact Gr _⟩,?_⟩)) Hw ej)) ⟨qZ1 _,by unfold Fy;exact StackI.none _⟩ (fun g b hb=>Ci (k0:=9) rfl hb) ?_
 intro q hq;refine wk 5 ?_;refine asp 38 (fun hb1=>?_) fun hb1=>?_
 .
  refine Ba ?_;have hkl:q.1<(Hn f v).length:=by have h:=hb1;rw[Fk]at h;simp only[q56]at h;exact Int.ofNat_lt.1 h
  obtain⟨i,hgi⟩:=Ad hkl;have hig:i<f.blocks.length/\0<(SB f i v).length:=Wj (S:=SB f) hgi;obtain⟨x,hx⟩:=Ad hig.1;refine wk 5 ?_;refine aq 39 (Q7 Ah rfl rfl rfl rfl rfl rfl ((Ay _ _ _).trans (congrArg some (WJ hv))) rfl (q46 _) (by rw[Fk];exact Int.ofNat_lt.2 hkl)) ?_;refine aq 40 (Ao Ah rfl rfl rfl (.ptr _ _ _ _ false 2 (LX f.blocks.length R (SB f) v) (Zb R (SB f) v i) ((Ay _ _ _).trans (congrArg some ((WJ hv).trans (Vy (k:=q.1) (by rw[Fk];exact hkl))))) rfl x8) rfl) ?_;refine ax 9 (Lh Ah 9 rfl rfl B7 rfl (q68 _) rfl) ?_;refine wk 10 ?_;refine Bu (γ:=Nat) (kf 10) (fun j=>⟨122,(Aa (Aa (Aa (Aa (Aa (Aa (Aa (Aa (Aa (Aa (Aa (Aa AU 0 (pZ 2)) 1 (iN v)) 5 (.ref 0 f.blocks.length 0 f.blocks.length)) 6 (.ref 1 f.blocks.length 0 f.blocks.length)) 7 (.ref 8 q.2.length 0 (Fy f G v q.1).length)) 35 (oR f.blocks.length R (SB f) v)) 36 (.int .i64 ((LX f.blocks.length R (SB f) v).length:Int))) 37 (iN q.1)) 9 (pZ 9)) 42 (.ref (4*(v+R*i)+3+16) (I2 f v i).length 0 (I2 f v i).length)) 43 (.int .i64 ((I2 f v i).length:Int))) 44 (iN j)),(Jq (nb [(rt 1 (iC f.blocks.length (JP f G v q.1))),(rt 1 (bC f.blocks.length (WN f G v q.1))),(rf 8 [WO f R (es).length (len)]),(rf 1 (AH (aR (AM f)) f.blocks.length)),(rf 1 (AH (oR f.blocks.length R (SB f)) R)),(rf 1 (AH (gR f) f.blocks.length)),(rt 1 (es)),(rt 1 (bC R (w))),(rt 1 q.2),(rf 2 [Zb R (SB f) v i])]) (DF f R (SB f) G))⟩) (fun j=>Eh (G i) x.ins.length ((I2 f v i).drop j)=firstG f G v i/\j<=(I2 f v i).length) (fun j=>(I2 f v i).length-j) 0 (qJ1 Cq (CI (k0:=10) rfl z6q Hw My)) ⟨by rw[q95,Hg hx,HL hx],qZ1 _⟩ (fun g b hb=>Ci (k0:=10) rfl hb) ?_
  intro j hF;refine wk 5 ?_;refine asp 45 (fun hb2=>?_) fun hb2=>?_
  .
   refine Ba ?_;have hjl:j<(I2 f v i).length:=by have h:=hb2;simp at h;exact h
   obtain⟨s,hsj⟩:=Ad hjl;have hat:=cE hx hsj;refine wk 5 ?_;refine aq 46 (Ae Ah rfl rfl rfl rfl rfl rfl ((Ay _ _ _).trans (congrArg some (Qd hv hig.2))) (q76 _).symm rfl (q46 _) Ab) ?_;refine aq 47 (Ao Ah rfl rfl rfl (.ptr _ _ _ _ true 3 ((I2 f v i).map IJ) (IJ s) ((Ay _ _ _).trans (congrArg some (Qd hv hig.2))) (q76 _).symm (by rw[qQ8,q55,q54,hsj];rfl)) rfl) ?_;refine ax 11 (Lh Ah 10 rfl rfl B7 rfl (q68 _) rfl) ?_;refine wk 9 ?_;refine qV4 52 (hn:=GA _ (DH (Kc f R (SB f) (es) (len) (w)) (DF f R (SB f) G))) (r:=.bool (leftS (G i) x.ins.length s)) rfl rfl rfl (FD (Kc f R (SB f) (es) (len) (w)) (Kc f R (SB f) (es) (len) (w)) (DF f R (SB f) G) rfl Tryz.func85 AF rfl rfl rfl rfl rfl (CY _ _ _ _ _ _) (CY _ _ _ _ _ _) Vi IH (Bw Dv f R _ _) (Bw Dv f R _ _) rfl (YI f R (SB f) G es len w i x hx s hat)) ?_
   refine wk 2 ?_;refine asp 53 (fun hb3=>?_) fun hb3=>?_
   .
    refine Ba ?_;have hlf:leftS (G i) x.ins.length s=false:=by have h:=hb3;simpa using h
    refine wk 2 ?_;refine aq 73 (AS rfl rfl hjl (by have:=PR hx (v:=v);have:=hi x (q33 hx);simp only[maxLen];omega)) ?_;refine wk 2 ?_;exact⟨j+1,qV3 (by repeat(first|exact EDropK.new _ _|refine EDropK.put ?_ xT (by first|rfl|exact Bm (AA _) _ _ _ _|exact Yb _ _))) (BO (k0:=10) rfl z5q IH (Bw (AA _) f R _ _)),⟨by rw[<-bf hsj hlf];exact hF.1,hjl⟩,Ab⟩
   refine Bg ?_;have hlf:leftS (G i) x.ins.length s=true:=by have h:=hb3;simpa using h
   refine wk 6 ?_;refine aq 57 (Ae Ah (hb:=B7) (hm:=(Av _ _).symm)) ?_;refine qK6 rfl rfl (AY Ah rfl rfl rfl rfl rfl B7 (Av _ _).symm (by rw[qQ8,q55];exact EE hig.1) rfl Al rfl (fun _=>rfl)) ?_;refine wk 7 ?_;refine asp 59 (fun hb4=>?_) fun hb4=>?_
   .
    refine Ba ?_;have hfg:firstG f G v i=1:=by rw[<-hF.1,Sb hsj hlf,show s.r=true from hb4];rfl
    refine wk 5 ?_;refine aq 63 (Ae Ah (hb:=B7) (hm:=(by rw[q83];exact(Av _ _).symm))) ?_;refine qK6 rfl rfl (AY Ah rfl rfl rfl rfl rfl B7 (by rw[q83];exact(Av _ _).symm) (q21 (by rw[Av];omega)) rfl Al rfl (fun _=>rfl)) ?_;refine wk 6 ?_;refine aq 67 (Ae Ah (hb:=B7) (hm:=(Av _ _).symm)) ?_;refine qK6 rfl rfl (AY Ah rfl rfl rfl rfl rfl B7 (Av _ _).symm (by rw[qQ8,q55];exact EE hig.1) rfl Al rfl (fun _=>rfl)) ?_;refine wk 5 ?_;refine ax 71 DB ?_;refine ax 72 (Rn Ah (es:=q.2) rfl rfl rfl rfl rfl rfl rfl rfl B7 rfl hq.2.le rfl rfl (q68 _) (.lst _ _) rfl (fun _=>rfl) (by have:=hq.2.max;show _*8<=_;omega) (by have:=hq.2.max;simp only[maxLen];omega)) ?_;refine wk 4 ?_;refine aq 74 (AS rfl rfl hkl uQ) ?_;refine wk 2 ?_;exact⟨(q.1+1,Eo q.2 (Fy f G v q.1).length (Cg i)),qV3 z7q (BO (k0:=9) rfl z2q IH (Bw (AA _) f R _ _)),⟨hkl,by rw[<-QA hgi hfg];exact hq.2.push (Nat.lt_of_le_of_lt (eS f G v q.1) (q51 hkl (Wi (SB f) f.blocks.length v)))⟩,(by show(Hn f v).length-(q.1+1)<(Hn f v).length-q.1;omega)⟩
   refine Bg ?_;have hfg:firstG f G v i=2:=by rw[<-hF.1,Sb hsj hlf,show s.r=false from hb4];rfl
   refine wk 3 ?_;exact xC
  refine Bg ?_;have hjge:(I2 f v i).length<=j:=by have h:=hb2;simp at h;omega
  have hfg:firstG f G v i=0:=by rw[<-hF.1,List.drop_eq_nil_iff.2 hjge];rfl
  refine wk 2 ?_;exact xC
 refine Bg ?_;have hkge:(Hn f v).length<=q.1:=by have h:=hb1;rw[Fk]at h;simp only[q16]at h;exact Nat.le_of_not_lt fun e=>h (Int.ofNat_lt.2 e)
 refine wk 3 ?_;refine Bu (γ:=MQ) (kf 9) (fun m=>⟨122,(Aa (Aa (Aa (Aa (Aa AU 0 (pZ 2)) 1 (iN v)) 5 (.ref 0 f.blocks.length 0 f.blocks.length)) 6 (.ref 1 f.blocks.length 0 f.blocks.length)) 7 (.ref 8 m.es.length 0 m.todo.length)),(Jq (nb [(rt 1 (iC f.blocks.length (firstG f G v))),(rt 1 (bC f.blocks.length m.inn)),(rf 8 [WO f R (es).length (len)]),(rf 1 (AH (aR (AM f)) f.blocks.length)),(rf 1 (AH (oR f.blocks.length R (SB f)) R)),(rf 1 (AH (gR f) f.blocks.length)),(rt 1 (es)),(rt 1 (bC R (w))),(rt 1 m.es)]) (DF f R (SB f) G))⟩) (fun m=>BfI f G v m.inn m.todo 0 []/\StackI f.blocks.length m.es m.todo) (fun m=>2*OL f.blocks.length m.inn+m.todo.length) ⟨WN f G v q.1,Fy f G v q.1,q.2⟩ (qJ1 B4 (CI (k0:=9) rfl (by repeat(first|exact trivial|refine⟨⟨by first|rfl|exact congrArg (fun w=>some (rt 1 (iC _ w))) (Yv hkge),by first|rfl|exact Ak (fun _ _=>Bz (AA _) _ _)|exact Ak (fun _ _=>Bm (AA _) _ _ _ _)|exact Ak (fun _ _=>CG (AA _) _ _)|exact Gr _⟩,?_⟩)) Hw ej)) ⟨BfI.first hkge,hq.2⟩ (fun g b hb=>Ci (k0:=9) rfl hb) ?_
 intro m hM;obtain⟨inn,todo,es'⟩:=m;dsimp only at hM|-;refine wk 7 ?_;refine asp 77 (fun hb5=>?_) fun hb5=>?_
 .
  refine Ba ?_;obtain⟨todo',b,htd⟩:∃todo' b,todo=todo'++[b]:=by
   rcases GF todo with h|h
   . have h2:=hb5;rw[h]at h2;simp at h2
   . exact h
  subst htd;have hib:=hM.1.tod b (q78.2 (.inr (q47.2 rfl)));have hb:=(hM.1.sound b hib).1;refine wk 7 ?_;refine aq 81 (A9 (r:=.int .i64 (todo'.length:Int)) rfl rfl rfl (Nd (by have:=hM.1.cnt;simp at this;omega))) ?_;refine aq 82 (Ae Ah (hb:=B7) (hm:=rfl) (hn:=Em)) ?_;refine aq 83 (Ao Ah rfl rfl rfl (.ptr _ _ _ _ _ _ _ (Cg b) B7 rfl (by rw[qQ8,q55];exact hM.2.get)) rfl) ?_;refine wk 7 ?_;refine aq 87 (A9 (r:=.int .i64 (todo'.length:Int)) rfl rfl rfl (Nd (by have:=hM.1.cnt;simp at this;omega))) ?_;refine aq 88 (It Ah (es:=es') (m:=todo'.length) rfl rfl rfl rfl rfl rfl B7 rfl rfl Aq) ?_;refine wk 9 ?_;refine aq 94 (Ae Ah (hb:=B7) (hm:=(Av _ _).symm)) ?_;refine aq 95 (Ao Ah rfl rfl rfl (.ptr _ _ _ _ _ _ _ [aR (AM f) b] B7 (Av _ _).symm IU) rfl) ?_;refine aq 96 EU ?_;refine wk 3 ?_;refine Bu (γ:=MP) (kf 9) (fun p=>⟨122,(Aa (Aa (Aa (Aa (Aa (Aa (Aa (Aa (Aa AU 0 (pZ 2)) 1 (iN v)) 5 (.ref 0 f.blocks.length 0 f.blocks.length)) 6 (.ref 1 f.blocks.length 0 f.blocks.length)) 7 (.ref 8 p.es.length 0 p.todo.length)) 12 (iN b)) 95 (aR (AM f) b)) 96 (.int .i64 ((AM f b).length:Int))) 97 (iN p.j)),(Jq (nb [(rt 1 (iC f.blocks.length (firstG f G v))),(rt 1 (bC f.blocks.length p.inn)),(rf 8 [WO f R (es).length (len)]),(rf 1 (AH (aR (AM f)) f.blocks.length)),(rf 1 (AH (oR f.blocks.length R (SB f)) R)),(rf 1 (AH (gR f) f.blocks.length)),(rt 1 (es)),(rt 1 (bC R (w))),(rt 1 p.es)]) (DF f R (SB f) G))⟩) (fun p=>MPI f G v b (2*OL f.blocks.length inn+todo'.length) p) (fun p=>(AM f b).length-p.j) ⟨inn,todo',es',0⟩ (qJ1 yh (CI (k0:=9) rfl uV Hw ej)) ⟨hM.1.pop,hib,hM.2.pop,qZ0 _⟩ (fun g b hb=>Ci (k0:=9) rfl hb) ?_
  intro p hP;refine wk 5 ?_;refine asp 98 (fun hb6=>?_) fun hb6=>?_
  .
   refine Ba ?_;have hjl:p.j<(AM f b).length:=by have h:=hb6;simp at h;exact h
   obtain⟨a,ha⟩:=Ad hjl;have ha2:=Lx (q33 ha);refine wk 5 ?_;refine aq 99 (Bl Ah (b:=4*b+0+16) (es:=(AM f b).map Cg) rfl rfl rfl rfl rfl rfl ((Ay _ _ _).trans (congrArg some (uw hb))) rfl (q46 _) Kf) ?_;refine aq 100 (Ao Ah rfl rfl rfl (.ptr _ _ _ _ true 1 ((AM f b).map Cg) (Cg a) ((Ay _ _ _).trans (congrArg some ((uw hb).trans (Kl (k:=p.j) Kf)))) rfl (by rw[q55,q54,ha];rfl)) rfl) ?_;refine wk 6 ?_;refine aq 103 (Ae Ah (hb:=B7) (hm:=(Av _ _).symm)) ?_;refine aq 104 (Ao Ah rfl rfl rfl (.ptr _ _ _ _ _ _ _ [.int .i64 (firstG f G v a:Int)] B7 (Av _ _).symm jC) rfl) ?_;refine wk 2 ?_;refine BM 106 (fun hb7=>?_) fun hb7=>?_
   .
    refine wk 1 ?_;have hz:=hb7;refine wk 1 ?_;refine aq 109 (Ae Ah (hb:=B7) (hm:=(Av _ _).symm)) ?_;refine aq 110 (Ao Ah rfl rfl rfl (.ptr _ _ _ _ _ _ _ [.bool (p.inn a)] B7 (Av _ _).symm jC) rfl) ?_;refine wk 3 ?_;refine asp 112 (fun hb8=>?_) fun hb8=>?_
    .
     refine Ba ?_;have h0:firstG f G v a=0:=by have h:=hz;simp at h;omega
     have hni:p.inn a=false:=by have h:=hb8;simpa using h
     refine wk 4 ?_;refine aq 115 (Ae Ah (hb:=B7) (hm:=(Av _ _).symm)) ?_;refine qK6 rfl rfl (AY Ah rfl rfl rfl rfl rfl B7 (Av _ _).symm jC rfl Al rfl (fun _=>rfl)) ?_;refine wk 4 ?_;refine ax 118 DB ?_;refine ax 119 (Rn Ah (es:=p.es) rfl rfl rfl rfl rfl rfl rfl rfl B7 rfl hP.st.le rfl rfl (q68 _) (.lst _ _) rfl (fun _=>rfl) (by have:=hP.st.max;show _*8<=_;omega) (by have:=hP.st.max;simp only[maxLen];omega)) ?_;refine wk 3 ?_;refine aq 120 (AS rfl rfl hjl jA) ?_;refine wk 2 ?_;exact⟨⟨Dn p.inn a true,p.todo++[a],Eo p.es p.todo.length (Cg a),p.j+1⟩,qV3 yz (BO (k0:=9) rfl z4q Hw (Bw (AA _) f R _ _)),(hP.push ha h0 hni),uM⟩
    refine Bg ?_;have hno:¬(firstG f G v a=0/\p.inn a=false):=fun e=>by
     have h:=hz;have h2:=hb8;simp[e.1,e.2]at h h2
    exact xw
   refine wk 1 ?_;have hz:=hb7;refine wk 7 ?_;have hno:¬(firstG f G v a=0/\p.inn a=false):=fun e=>by
    have h:=hz;have h2:=hb7;simp[e.1,e.2]at h h2
   exact xw
  refine Bg ?_;have hjge:(AM f b).length<=p.j:=by have h:=hb6;simp at h;omega
  refine wk 1 ?_;exact⟨⟨p.inn,p.todo,p.es⟩,qV3 J7 (BO (k0:=9) rfl uV Hw (Bw (AA _) f R _ _)),⟨(by have h:=hP.k;rw[List.drop_eq_nil_iff.2 hjge]at h;exact h.any),hP.st⟩,(Nat.lt_of_le_of_lt hP.mu (by show 2*OL f.blocks.length inn+todo'.length<2*OL f.blocks.length inn+(todo'++[b]).length;simp))⟩
 refine Bg ?_;have htd:todo=[]:=by
  rcases GF todo with h|⟨L,b,h⟩
  . exact h
  . have h2:=hb5;rw[h]at h2;simp at h2
 subst htd;refine wk 2 ?_;refine qJ0 (.freezeA 6 1 rfl rfl (Av _ _).symm) ?_;refine wk 5 ?_;refine⟨[_],⟨rfl,trivial⟩,?_,(OK rfl (by repeat(first|exact trivial|refine⟨by first|rfl|((try simp only[AQ]);repeat(first|rfl|exact AB _ _ _|refine AP Dd ?_|refine hrm_skip Ab ?_|refine(Dy _ LL).trans ?_)),?_⟩)) (fun x_=>by dsimp only;rw[Hm _ Ab];exact Ay _ _ _))⟩;show AV.lst false (bC f.blocks.length inn)=_;rw[od];exact congrArg Co (Mj fun b hb=>hM.1.done hs hb)
theorem ny(t:Tac):Pu Tryz.prog 86 [.agg t.cells] (.bool t.pure):=by
 refine qK5 (n:=19) Ah Tryz.func86 rfl rfl ?_;refine FL ?_;refine ax 1 (CC 8 0) ?_;refine wk 15 ?_;refine asp 5 (fun hb1=>?_) fun hb1=>?_
 .
  refine wk 7 ?_;exact dZ
 refine wk 6 ?_;refine asp 5 (fun hb2=>?_) fun hb2=>?_
 .
  refine wk 7 ?_;exact dZ
 refine wk 5 ?_;refine asp 5 (fun hb3=>?_) fun hb3=>?_
 .
  refine wk 5 ?_;exact dZ
 refine wk 6 ?_;refine asp 9 (fun hb4=>?_) fun hb4=>?_
 .
  refine wk 7 ?_;refine BM 14 (fun hb5=>?_) fun hb5=>?_
  .
   refine wk 6 ?_;exact dZ
  refine wk 6 ?_;exact dZ
 refine wk 6 ?_;exact dZ
theorem Wr(f:BFunc)(hs:f.sane)(R:Nat)(hRf:f.regs=(R:Int))(st:Fu)(hq:QId R st)(v:Nat)(hv:v<R)(hn:f.blocks.length<=100000)(hR:R<=100000)(hi:∀x∈f.blocks,x.ins.length<=100000):Ca Tryz.prog 59 [.ptr 2 1 0 0,.int .i64 (v:Int)] (DH (Kc f R (SB f) (st.es) (st.ws.length) (st.w)) (DF f R (SB f) st.G)) (.tup []) (GA hNone (DH (Kc f R (SB f) (Jz f v st).es (Jz f v st).ws.length (Jz f v st).w) (DF f R (SB f) (Jz f v st).G))):=by
 obtain⟨inn,hinn⟩:∃inn:Nat->Bool,inn=fun b=>Za (Dh f st.G) v b:=⟨_,rfl⟩
 refine qK4 (n:=109) Ah Tryz.func59 rfl rfl ?_;refine wk 8 ?_;refine aq 18 (Ae Ah (hm:=(Av _ _).symm)) ?_;refine aq 19 (Ao Ah rfl rfl rfl (.ptr _ _ _ _ _ _ _ [oR f.blocks.length R (SB f) v] B7 (Av _ _).symm Tr) rfl) ?_;refine aq 20 EU ?_;refine wk 2 ?_;refine asp 21 (fun hb1=>?_) fun hb1=>?_
 .
  refine Ba ?_;have hz0:(Hn f v).length=0:=by have h:=hb1;rw[Fk]at h;simp only[qZ4]at h;exact Int.ofNat_inj.1 h
  refine CE ?_;rw[fG hz0];exact oQ
 refine Bg ?_
 skip
 refine wk 5 ?_;refine qV4 24 (hn:=GA _ (DH (Kc f R (SB f) (st.es) (st.ws.length) (st.w)) (DF f R (SB f) st.G))) (r:=Co (H7 f.blocks.length inn)) rfl rfl rfl (FD (Kc f R (SB f) (st.es) (st.ws.length) (st.w)) (Kc f R (SB f) (st.es) (st.ws.length) (st.w)) (DF f R (SB f) st.G) rfl Tryz.func84 AF rfl rfl rfl rfl rfl (CY _ _ _ _ _ _) (CY _ _ _ _ _ _) Vi IH (Bw Dv f R _ _) (Bw Dv f R _ _) rfl (by rw[hinn];exact YH f hs R st.G st.es st.ws.length st.w v hv hn hR hi)) ?_;refine wk 9 ?_;refine aq 30 (Ae Ah (hb:=B7) (hm:=(Av _ _).symm)) ?_;refine aq 31 (Ao Ah rfl rfl rfl (.ptr _ _ _ _ _ _ _ [oR f.blocks.length R (SB f) v] B7 (Av _ _).symm Tr) rfl) ?_;refine aq 32 EU ?_;refine wk 3 ?_;refine Bu (γ:=Nat) (kf 8) (fun k=>⟨109,(Aa (Aa (Aa (Aa (Aa (Aa AU 0 (pZ 2)) 1 (iN v)) 4 (Co (H7 f.blocks.length inn))) 31 (oR f.blocks.length R (SB f) v)) 32 (.int .i64 ((LX f.blocks.length R (SB f) v).length:Int))) 33 (iN k)),(Jq (nb [.free,.free,(rf 8 [WO f R ((Md f inn v st k).es).length ((Md f inn v st k).ws.length)]),(rf 1 (AH (aR (AM f)) f.blocks.length)),(rf 1 (AH (oR f.blocks.length R (SB f)) R)),(rf 1 (AH (gR f) f.blocks.length)),(rt 1 ((Md f inn v st k).es)),(rt 1 (bC R ((Md f inn v st k).w)))]) (DF f R (SB f) (Md f inn v st k).G))⟩) (fun k=>k<=(Hn f v).length/\QId R (Md f inn v st k)) (fun k=>(Hn f v).length-k) 0 (qJ1 uL (CI (k0:=8) rfl z5q IH S1)) ⟨qZ1 _,hq⟩ (fun g b hb=>Ci (k0:=8) rfl hb) ?_
 intro k hQ;generalize hK:(Md f inn v st k)=q at hQ|-;refine wk 5 ?_;refine asp 34 (fun hb2=>?_) fun hb2=>?_
 .
  refine Ba ?_;have hkl:k<(Hn f v).length:=by have h:=hb2;rw[Fk]at h;simp only[q56]at h;exact Int.ofNat_lt.1 h
  obtain⟨i,hgi⟩:=Ad hkl;have hig:i<f.blocks.length/\0<(SB f i v).length:=Wj (S:=SB f) hgi;obtain⟨x,hx⟩:=Ad hig.1;have hxm:=q33 hx;refine wk 5 ?_;refine aq 35 (Q7 Ah rfl rfl rfl rfl rfl rfl ((Ay _ _ _).trans (congrArg some (WJ hv))) rfl (q46 _) (by rw[Fk];exact Int.ofNat_lt.2 hkl)) ?_;refine aq 36 (Ao Ah rfl rfl rfl (.ptr _ _ _ _ false 2 (LX f.blocks.length R (SB f) v) (Zb R (SB f) v i) ((Ay _ _ _).trans (congrArg some ((WJ hv).trans (Vy (k:=k) (by rw[Fk];exact hkl))))) rfl x8) rfl) ?_;refine ax 6 (Lh Ah 8 rfl rfl B7 rfl (q68 _) rfl) ?_;refine wk 15 ?_;refine dq 43 (En Ah (Au (C8 hx))) ?_;refine wk 5 ?_;refine Bu (γ:=Nat) (kf 9) (fun j=>⟨109,(Aa (Aa (Aa (Aa (Aa (Aa (Aa (Aa (Aa (Aa (Aa AU 0 (pZ 2)) 1 (iN v)) 4 (Co (H7 f.blocks.length inn))) 31 (oR f.blocks.length R (SB f) v)) 32 (.int .i64 ((LX f.blocks.length R (SB f) v).length:Int))) 33 (iN k)) 6 (pZ 8)) 7 (.bool (YV inn x j))) 44 (AI x.nexts)) 45 (iN x.nexts.length)) 46 (iN j)),(Jq (nb [.free,.free,(rf 8 [WO f R (q.es).length (q.ws.length)]),(rf 1 (AH (aR (AM f)) f.blocks.length)),(rf 1 (AH (oR f.blocks.length R (SB f)) R)),(rf 1 (AH (gR f) f.blocks.length)),(rt 1 (q.es)),(rt 1 (bC R (q.w))),(rf 2 [Zb R (SB f) v i])]) (DF f R (SB f) q.G))⟩) (fun j=>True) (fun j=>x.nexts.length-j) 0 (qJ1 Cq (CI (k0:=9) rfl z6q Hw ej)) trivial (fun g b hb=>Ci (k0:=9) rfl hb) ?_
  intro j _;refine wk 5 ?_;refine asp 47 (fun hb3=>?_) fun hb3=>?_
  .
   refine Ba ?_;have hjl:j<x.nexts.length:=by have h:=hb3;simp[AI]at h;exact h
   obtain⟨d,hd⟩:=Ad hjl;have hd0:=hs.next x hxm d (q33 hd);have hdn:d.toNat<f.blocks.length:=by omega
   refine wk 5 ?_;refine aq 48 (En Ah (Au hd)) ?_;refine wk 6 ?_;refine BM 51 (fun hb4=>?_) fun hb4=>?_
   .
    refine wk 8 ?_;exact xr
   refine wk 2 ?_;have hz9:=hb4;refine aq 54 (An Ah rfl rfl rfl rfl rfl rfl hd0.1 (Au (XW hdn)) rfl) ?_;refine wk 5 ?_;exact xr
  refine Bg ?_;have hjge:x.nexts.length<=j:=by have h:=hb3;simp[AI]at h;omega
  refine wk 6 ?_;refine aq 61 (A9 (r:=.int .i64 ((((I2 f v i).length-0:Nat):Int)-1)) rfl rfl rfl (fE (by have h1:(SB f i v).length<=x.ins.length+1:=PR hx;have:=hi x hxm;omega))) ?_;refine wk 3 ?_;refine Bu (γ:=Nat) (kf 9) (fun m=>⟨109,(Aa (Aa (Aa (Aa (Aa (Aa (Aa (Aa (Aa AU 0 (pZ 2)) 1 (iN v)) 4 (Co (H7 f.blocks.length inn))) 31 (oR f.blocks.length R (SB f) v)) 32 (.int .i64 ((LX f.blocks.length R (SB f) v).length:Int))) 33 (iN k)) 6 (pZ 8)) 7 (.bool (DC inn v x i q m).2)) 10 (.int .i64 ((((I2 f v i).length-m:Nat):Int)-1))),(Jq (nb [.free,.free,(rf 8 [WO f R ((DC inn v x i q m).1.es).length ((DC inn v x i q m).1.ws.length)]),(rf 1 (AH (aR (AM f)) f.blocks.length)),(rf 1 (AH (oR f.blocks.length R (SB f)) R)),(rf 1 (AH (gR f) f.blocks.length)),(rt 1 ((DC inn v x i q m).1.es)),(rt 1 (bC R ((DC inn v x i q m).1.w))),(rf 2 [Zb R (SB f) v i])]) (DF f R (SB f) (DC inn v x i q m).1.G))⟩) (fun m=>m<=(I2 f v i).length/\QId R (DC inn v x i q m).1) (fun m=>(I2 f v i).length-m) 0 (qJ1 (by repeat(first|exact qJ2 _|refine qJ3 ?_ (by first|rfl|exact congrArg (fun z=>some (AV.bool z)) (oe hjge)|exact congrArg (fun(n:Nat)=>some (AV.int .i64 (n:Int))) Aq))) (CI (k0:=9) rfl z6q Hw ej)) ⟨qZ1 _,hQ.2⟩ (fun g b hb=>Ci (k0:=9) rfl hb) ?_
  intro m hF;generalize hS2:(DC inn v x i q m)=S2 at hF|-;refine wk 6 ?_;refine asp 63 (fun hb5=>?_) fun hb5=>?_
  .
   refine Ba ?_;obtain⟨kk,hkk⟩:∃kk,m+kk+1=(I2 f v i).length:=⟨(I2 f v i).length-m-1,by have h:=hb5;simp at h;omega⟩
   obtain⟨s,hsk⟩:=Ad (l:=I2 f v i) (k:=kk) Ab;have hat:=cE hx hsk;rw[show(((I2 f v i).length-m:Nat):Int)-1=(kk:Int) by omega];refine wk 8 ?_;refine aq 69 (Ae Ah rfl rfl rfl rfl rfl rfl ((Ay _ _ _).trans (congrArg some (Qd hv hig.2))) (q76 _).symm rfl (q46 _) (by show((kk:Nat):Int)<((I2 f v i).length:Int);omega)) ?_;refine aq 70 (Ao Ah rfl rfl rfl (.ptr _ _ _ _ true 3 ((I2 f v i).map IJ) (IJ s) ((Ay _ _ _).trans (congrArg some (Qd hv hig.2))) (q76 _).symm (by rw[qQ8,q55,q54,hsk];rfl)) rfl) ?_;refine ax 11 (Lh Ah 9 rfl rfl B7 rfl (q68 _) rfl) ?_;refine wk 9 ?_;refine qV4 75 (hn:=GA _ (DH (Kc f R (SB f) (S2.1.es) (S2.1.ws.length) (S2.1.w)) (DF f R (SB f) S2.1.G))) (r:=.bool (leftS (S2.1.G i) x.ins.length s)) rfl rfl rfl (FD (Kc f R (SB f) (S2.1.es) (S2.1.ws.length) (S2.1.w)) (Kc f R (SB f) (S2.1.es) (S2.1.ws.length) (S2.1.w)) (DF f R (SB f) S2.1.G) rfl Tryz.func85 AF rfl rfl rfl rfl rfl (CY _ _ _ _ _ _) (CY _ _ _ _ _ _) Vi IH (Bw Dv f R _ _) (Bw Dv f R _ _) rfl (YI f R (SB f) S2.1.G S2.1.es S2.1.ws.length S2.1.w i x hx s hat)) ?_
   refine wk 2 ?_;refine asp 76 (fun hb6=>?_) fun hb6=>?_
   .
    refine Ba ?_;have hlf:leftS (S2.1.G i) x.ins.length s=false:=by have h:=hb6;simpa using h
    have hnx2:DC inn v x i q (m+1)=S2:=by rw[G2 bX bW,hS2];exact ZO hlf
    refine wk 3 ?_;exact zt1
   refine Bg ?_;have hlf:leftS (S2.1.G i) x.ins.length s=true:=by have h:=hb6;simpa using h
   refine wk 7 ?_;refine asp 78 (fun hb7=>?_) fun hb7=>?_
   .
    refine Ba ?_;have hss:s.s=true:=hb7;obtain⟨t,ht⟩:=kq hx hsk hss;have htu:∀u∈t.uses,0<=u/\u<R:=fun u hu=>by have:=(hs.low x hxm t (q33 ht)).2 u hu;rw[hRf]at this;exact this
    refine wk 10 ?_;refine dq 86 (En Ah (Au hx)) ?_;refine wk 4 ?_;refine dq 91 (En Ah (Au ht)) ?_;refine wk 1 ?_;refine dx 12 (Lh Ah 10 rfl rfl B7 rfl (q68 _) rfl) ?_;refine wk 7 ?_;refine BM 95 (fun hb8=>?_) fun hb8=>?_
    .
     refine wk 1 ?_;have hz:=hb8;refine ax 97 (Cn Tryz.func86 (ny _)) ?_;refine wk 2 ?_;refine asp 98 (fun hb9=>?_) fun hb9=>?_
     .
      refine Ba ?_;have hnx2:DC inn v x i q (m+1)=(CB i s.at_ t.uses S2.1,S2.2):=by rw[G2 bX bW,hS2];exact Xg hlf ht hss (by have h:=hz;simpa using h) hb9
      refine wk 8 ?_;refine qV4 105 (hn:=GA _ (DH (Kc f R (SB f) ((CB i s.at_ t.uses S2.1).es) ((CB i s.at_ t.uses S2.1).ws.length) ((CB i s.at_ t.uses S2.1).w)) (DF f R (SB f) (CB i s.at_ t.uses S2.1).G))) (r:=.tup []) rfl rfl rfl (FD (Kc f R (SB f) (S2.1.es) (S2.1.ws.length) (S2.1.w)) (Kc f R (SB f) ((CB i s.at_ t.uses S2.1).es) ((CB i s.at_ t.uses S2.1).ws.length) ((CB i s.at_ t.uses S2.1).w)) (DF f R (SB f) (CB i s.at_ t.uses S2.1).G) rfl Tryz.func87 AF rfl rfl rfl rfl rfl (CY _ _ _ _ _ _) (CY _ _ _ _ _ _) Vi IH (Bw Dv f R _ _) (Bw Dv f R _ _) rfl (g8 f R (SB f) S2.1.G S2.1.es S2.1.ws S2.1.w i s.at_ x hx (q05.1 ht).1 t htu hR hF.2)) ?_;refine wk 4 ?_;refine aq 65 (A9 (r:=.int .i64 ((((I2 f v i).length-(m+1):Nat):Int)-1)) rfl rfl rfl (tZ hkk (by have:=PR hx (v:=v);have:=hi x hxm;omega))) ?_;refine wk 2 ?_;exact⟨m+1,qV3 yr (BO (k0:=9) rfl z3q yA (Bw (AA _) f R _ _)),⟨by omega,by rw[hnx2];exact hF.2.leaveR htu⟩,Ab⟩
     refine Bg ?_;have hk2:s.s=true->∀t,x.ins[s.at_]?=some t->(!S2.2&&t.pure)=false:=fun _ t' e=>by
      rw[ht]at e;cases e;first|(rw[show t.pure=false from hb9];exact q97 _)|(rw[hz];rfl)
     refine wk 9 ?_;refine asp 107 (fun hb10=>?_) fun hb10=>?_
     .
      refine Ba ?_;have hr:s.r=true:=hb10;exact jk
     refine Bg ?_;have hr:s.r=false:=hb10;exact jj
    refine wk 1 ?_;have hz:=hb8;refine wk 4 ?_;have hk2:s.s=true->∀t,x.ins[s.at_]?=some t->(!S2.2&&t.pure)=false:=fun _ t' e=>by
     rw[ht]at e;cases e;first|(rw[show t.pure=false from hb8];exact q97 _)|(rw[hz];rfl)
    refine wk 9 ?_;refine asp 107 (fun hb11=>?_) fun hb11=>?_
    .
     refine Ba ?_;have hr:s.r=true:=hb11;exact jk
    refine Bg ?_;have hr:s.r=false:=hb11;exact jj
   refine Bg ?_;have hss:s.s=false:=hb7;have hk2:s.s=true->∀t,x.ins[s.at_]?=some t->(!S2.2&&t.pure)=false:=fun e=>by rw[hss]at e;cases e
   refine wk 6 ?_;refine asp 107 (fun hb12=>?_) fun hb12=>?_
   .
    refine Ba ?_;have hr:s.r=true:=hb12;exact jk
   refine Bg ?_;have hr:s.r=false:=hb12;exact jj
  refine Bg ?_;have hmge:(I2 f v i).length<=m:=by have h:=hb5;simp at h;omega
  have hnx:Md f inn v st (k+1)=S2.1:=by rw[<-fH hgi hx hmge,hK,hS2]
  refine wk 2 ?_;refine aq 108 (AS rfl rfl hkl uQ) ?_;refine wk 2 ?_;exact⟨k+1,qV3 (by repeat(first|exact EDropK.new _ _|refine EDropK.put ?_ xT (by first|rfl|exact Bm (AA _) _ _ _ _))) (BO (k0:=8) rfl (by repeat(first|exact trivial|refine⟨⟨by first|rfl|exact Cz rfl|(rw[hnx];first|rfl|exact Cz rfl),by first|rfl|exact Ak (fun _ _=>Bz (AA _) _ _)|exact Ak (fun _ _=>Bm (AA _) _ _ _ _)|exact Ak (fun _ _=>CG (AA _) _ _)|exact Gr _⟩,?_⟩)) (fun x_=>by rw[hnx];(try simp only[AQ]);(try dsimp only);first|exact Ay _ _ _|exact(Gg _ _ x_).trans (Ay _ _ _)) (Bw (AA _) f R _ _)),⟨hkl,by rw[hnx];exact hF.2⟩,Ab⟩
 refine Bg ?_;have hkge:(Hn f v).length<=k:=by have h:=hb2;rw[Fk]at h;simp only[q16]at h;exact Nat.le_of_not_lt fun e=>h (Int.ofNat_lt.2 e)
 refine wk 1 ?_;have hkk0:k=(Hn f v).length:=by omega
 have hreg:Jz f v st=q:=by rw[<-hK,hkk0,hinn];rfl
 rw[hreg];exact oQ
theorem Sl(n R:Nat)(S:DR)(v i p:Nat)(hv:v<R)(hi0:i<n)(hlast:∀j,i<j->S j v=[])(hlen:(S i v).length<=1000000)(hn:n<=100000)(c0 c1 c2 c3 c5 c6 c7:AV)(r3 r5 r6 r7:AObj)(r0 r1:Nat->AObj):Ca Tryz.prog 82 [.ptr 2 1 0 0,.int .i64 (v:Int),.int .i64 (i:Int),.int .i64 (p:Int)] (DH [(rf 8 [[c0,c1,c2,c3,.ref 4 R 0 R,c5,c6,c7]]),r3,(rf 1 (AH (oR n R S) R)),r5,r6,r7] (F4 r0 r1 (Q6 n R S) (PL R S))) (.ptr (4*(v+R*i)+3+16) (Br (S i v) p).length ((Br (S i v) p).length-1) 0) (GA hNone (DH [(rf 8 [[c0,c1,c2,c3,.ref 4 R 0 R,c5,c6,c7]]),r3,(rf 1 (AH (oR n R (Db S i v (Br (S i v) p))) R)),r5,r6,r7] (F4 r0 r1 (Q6 n R (Db S i v (Br (S i v) p))) (PL R (Db S i v (Br (S i v) p)))))):=by
 have hpl:=fS S i v;have hgl:=Wi S n v;refine qK4 (n:=94) Ah Tryz.func82 rfl rfl ?_;refine wk 11 ?_;refine aq 16 (Ae Ah (hm:=(Av _ _).symm)) ?_;refine aq 17 (Ao Ah rfl rfl rfl (.ptr _ _ _ _ _ _ _ [oR n R S v] rfl (Av _ _).symm Tr) rfl) ?_;refine wk 6 ?_;refine aq 19 EU ?_;refine wk 2 ?_;refine BM 21 (fun hb1=>?_) fun hb1=>?_
 .
  refine wk 11 ?_;refine qV2 (γ:=Unit) (fun _u=>⟨94,(Aa (Aa (Aa (Aa (Aa AU 0 (pZ 2)) 1 (iN v)) 2 (iN i)) 3 (iN p)) 9 (.ref (4*v+2+16) ((CZ S i v).length+1) 0 ((CZ S i v).length+1))),(DH [(rf 8 [[c0,c1,c2,c3,.ref 4 R 0 R,c5,c6,c7]]),r3,(rf 1 (AH (oX n R S v i) R)),r5,r6,r7] (F4 r0 r1 (T8 n R S v i (S i v)) (PL R S)))⟩) (fun _u=>True) ?_ ?_
  .
   refine Ba ?_;have hS0:S i v=[]:=by
    first
    |exact Um hi0 hlast hj0 Ab (by have h:=hb1;simp at h;omega)
    |exact Un hi0 hlast (FF hb1)
   exact xI
  intro _ _;refine wk 5 ?_;refine aq 47 (A9 (r:=.int .i64 (((CZ S i v).length:Nat):Int)) rfl rfl rfl (TQ (L:=(CZ S i v).length+1) (Nat.succ_pos _) Ab)) ?_;refine aq 48 (Ae Ah rfl rfl rfl rfl rfl rfl ((Ay _ _ _).trans (congrArg some (Hi))) JZ rfl (q46 _) Ab) ?_;refine wk 8 ?_;refine dq 52 (Ao Ah rfl rfl rfl (.ptr _ _ _ _ false 2 (Df R S v i++[Lq R v i (S i v)]) (Lq R v i (S i v)) ((Ay _ _ _).trans (congrArg some (Hi))) JZ LM) rfl) ?_;refine dq 53 EU ?_;refine wk 2 ?_;refine qK9 55 rfl (fun hb2=>?_) (fun hb2=>?_)
  .
   refine wk 15 ?_;refine dq 71 (G4 true rfl rfl rfl rfl) ?_;refine wk 1 ?_;refine qV2 (γ:=Unit) (fun _u=>⟨94,(Aa AU 10 (.ptr (4*v+2+16) ((CZ S i v).length+1) (0+(((CZ S i v).length:Nat):Int).toNat) 0)),(DH [(rf 8 [[c0,c1,c2,c3,.ref 4 R 0 R,c5,c6,c7]]),r3,(rf 1 (AH (oX n R S v i) R)),r5,r6,r7] (F4 r0 r1 (T8 n R S v i (Br (S i v) p)) (fM R S v i (Br (S i v) p))))⟩) (fun _u=>True) ?_ ?_
   .
    refine Ba ?_;have hnl:Br (S i v) p=S i v++[⟨p,false,false⟩]:=by
     first
     |exact Lj hs0 Ab (by have h:=hb2;simp at h;omega)
     |(have h0:(S i v).length=0:=(by have h:=hb2;first|exact FF h|(rw[q76]at h;exact FF h));rw[PY h0];rfl)
    exact zt3
   intro _ _;exact zt6
  have hs1:0<(S i v).length:=by have h:=hb2;rw[q76]at h;exact Wo h
  obtain⟨s0,hs0⟩:=Ad (l:=S i v) (k:=(S i v).length-1) Ab;refine wk 3 ?_;refine dq 59 (Ao Ah rfl rfl rfl (.ptr _ _ _ _ false 2 (Df R S v i++[Lq R v i (S i v)]) (Lq R v i (S i v)) ((Ay _ _ _).trans (congrArg some (Hi))) JZ LM) rfl) ?_;refine wk 3 ?_;refine dq 63 (Ao Ah rfl rfl rfl (.ptr _ _ _ _ false 2 (Df R S v i++[Lq R v i (S i v)]) (Lq R v i (S i v)) ((Ay _ _ _).trans (congrArg some (Hi))) JZ LM) rfl) ?_;refine dq 64 EU ?_;refine dq 65 (A9 (r:=.int .i64 (((S i v).length-1:Nat):Int)) rfl rfl rfl (by rw[q76];exact TQ hs1 Ab)) ?_;refine dq 66 (Bl Ah (b:=(4*(v+R*i)+3+16)) (es:=(S i v).map IJ) rfl rfl rfl rfl rfl rfl ((Ay _ _ _).trans (congrArg some (T7 hv))) rfl (q46 _) Kf) ?_;refine wk 1 ?_;refine dq 68 (Ao Ah rfl rfl rfl (.ptr _ _ _ _ true 3 ((S i v).map IJ) (IJ s0) ((Ay _ _ _).trans (congrArg some ((T7 hv).trans (PS hs1)))) rfl (by rw[q55,q54,hs0];rfl)) rfl) ?_
  refine wk 2 ?_;refine dq 71 (Fh false rfl rfl rfl rfl) ?_;refine wk 1 ?_;refine qV2 (γ:=Unit) (fun _u=>⟨94,(Aa AU 10 (.ptr (4*v+2+16) ((CZ S i v).length+1) (0+(((CZ S i v).length:Nat):Int).toNat) 0)),(DH [(rf 8 [[c0,c1,c2,c3,.ref 4 R 0 R,c5,c6,c7]]),r3,(rf 1 (AH (oX n R S v i) R)),r5,r6,r7] (F4 r0 r1 (T8 n R S v i (Br (S i v) p)) (fM R S v i (Br (S i v) p))))⟩) (fun _u=>True) ?_ ?_
  .
   refine asp 71 (fun hb3=>?_) fun hb3=>?_
   .
    refine Ba ?_;have hnl:Br (S i v) p=S i v++[⟨p,false,false⟩]:=by
     first
     |exact Lj hs0 Ab (by have h:=hb3;simp at h;omega)
     |(have h0:(S i v).length=0:=(by have h:=hb3;first|exact FF h|(rw[q76]at h;exact FF h));rw[PY h0];rfl)
    exact zt3
   refine Bg ?_;have hnl:Br (S i v) p=S i v:=Uo hs0 Ab (by have h:=hb3;simp at h;omega);exact xb
  intro _ _;exact zt6
 have hg0:0<(P4 S n v).length:=by have h:=hb1;rw[Fk]at h;exact Wo h
 obtain⟨j0,hj0⟩:=Ad (l:=P4 S n v) (k:=(P4 S n v).length-1) Ab;refine wk 2 ?_;refine aq 24 EU ?_;refine aq 25 (A9 (r:=.int .i64 (((P4 S n v).length-1:Nat):Int)) rfl rfl rfl (by rw[Fk];exact TQ hg0 Ab)) ?_;refine aq 26 (Q7 Ah rfl rfl rfl rfl rfl rfl ((Ay _ _ _).trans (congrArg some (Z6 hv))) rfl (q46 _) (by rw[Fk];omega)) ?_;refine wk 1 ?_;refine aq 28 (Ao Ah rfl rfl rfl (.ptr _ _ _ _ false 2 (LX n R S v) (Zb R S v j0) ((Ay _ _ _).trans (congrArg some ((Z6 hv).trans (Vy (k:=(P4 S n v).length-1) (by rw[Fk];omega))))) rfl (by rw[q55];show((P4 S n v).map (Zb R S v))[_]?=_;rw[q54,hj0];rfl)) rfl) ?_;refine wk 4 ?_;refine qV2 (γ:=Unit) (fun _u=>⟨94,(Aa (Aa (Aa (Aa (Aa AU 0 (pZ 2)) 1 (iN v)) 2 (iN i)) 3 (iN p)) 9 (.ref (4*v+2+16) ((CZ S i v).length+1) 0 ((CZ S i v).length+1))),(DH [(rf 8 [[c0,c1,c2,c3,.ref 4 R 0 R,c5,c6,c7]]),r3,(rf 1 (AH (oX n R S v i) R)),r5,r6,r7] (F4 r0 r1 (T8 n R S v i (S i v)) (PL R S)))⟩) (fun _u=>True) ?_ ?_
 .
  refine asp 31 (fun hb4=>?_) fun hb4=>?_
  .
   refine Ba ?_;have hS0:S i v=[]:=by
    first
    |exact Um hi0 hlast hj0 Ab (by have h:=hb4;simp at h;omega)
    |exact Un hi0 hlast (FF hb4)
   exact xI
  refine Bg ?_;have hji:j0=i:=by have h:=hb4;simp at h;omega
  rw[hji]at hj0;have hS1:0<(S i v).length:=mf hi0 hlast hj0;refine oL ?_;exact⟨(),qJ1 yk (P8 rfl rfl rfl (by repeat(first|exact trivial|refine⟨by first|rfl|exact congrArg (fun es=>some (rf 1 es)) ((qd hi0 hlast hS1).symm),?_⟩)) (fun x_=>(Ay _ _ _).trans (congrArg some (by rw[lk hv hi0 hlast hS1]))) S1),trivial⟩
 intro _ _;refine wk 5 ?_;refine aq 47 (A9 (r:=.int .i64 (((CZ S i v).length:Nat):Int)) rfl rfl rfl (TQ (L:=(CZ S i v).length+1) (Nat.succ_pos _) Ab)) ?_;refine aq 48 (Ae Ah rfl rfl rfl rfl rfl rfl ((Ay _ _ _).trans (congrArg some (Hi))) JZ rfl (q46 _) Ab) ?_;refine wk 8 ?_;refine dq 52 (Ao Ah rfl rfl rfl (.ptr _ _ _ _ false 2 (Df R S v i++[Lq R v i (S i v)]) (Lq R v i (S i v)) ((Ay _ _ _).trans (congrArg some (Hi))) JZ LM) rfl) ?_;refine dq 53 EU ?_;refine wk 2 ?_;refine qK9 55 rfl (fun hb5=>?_) (fun hb5=>?_)
 .
  refine wk 15 ?_;refine dq 71 (G4 true rfl rfl rfl rfl) ?_;refine wk 1 ?_;refine qV2 (γ:=Unit) (fun _u=>⟨94,(Aa AU 10 (.ptr (4*v+2+16) ((CZ S i v).length+1) (0+(((CZ S i v).length:Nat):Int).toNat) 0)),(DH [(rf 8 [[c0,c1,c2,c3,.ref 4 R 0 R,c5,c6,c7]]),r3,(rf 1 (AH (oX n R S v i) R)),r5,r6,r7] (F4 r0 r1 (T8 n R S v i (Br (S i v) p)) (fM R S v i (Br (S i v) p))))⟩) (fun _u=>True) ?_ ?_
  .
   refine Ba ?_;have hnl:Br (S i v) p=S i v++[⟨p,false,false⟩]:=by
    first
    |exact Lj hs0 Ab (by have h:=hb5;simp at h;omega)
    |(have h0:(S i v).length=0:=(by have h:=hb5;first|exact FF h|(rw[q76]at h;exact FF h));rw[PY h0];rfl)
   exact zt3
  intro _ _;exact zt6
 have hs1:0<(S i v).length:=by have h:=hb5;rw[q76]at h;exact Wo h
 obtain⟨s0,hs0⟩:=Ad (l:=S i v) (k:=(S i v).length-1) Ab;refine wk 3 ?_;refine dq 59 (Ao Ah rfl rfl rfl (.ptr _ _ _ _ false 2 (Df R S v i++[Lq R v i (S i v)]) (Lq R v i (S i v)) ((Ay _ _ _).trans (congrArg some (Hi))) JZ LM) rfl) ?_;refine wk 3 ?_;refine dq 63 (Ao Ah rfl rfl rfl (.ptr _ _ _ _ false 2 (Df R S v i++[Lq R v i (S i v)]) (Lq R v i (S i v)) ((Ay _ _ _).trans (congrArg some (Hi))) JZ LM) rfl) ?_;refine dq 64 EU ?_;refine dq 65 (A9 (r:=.int .i64 (((S i v).length-1:Nat):Int)) rfl rfl rfl (by rw[q76];exact TQ hs1 Ab)) ?_;refine dq 66 (Bl Ah (b:=(4*(v+R*i)+3+16)) (es:=(S i v).map IJ) rfl rfl rfl rfl rfl rfl ((Ay _ _ _).trans (congrArg some (T7 hv))) rfl (q46 _) Kf) ?_;refine wk 1 ?_;refine dq 68 (Ao Ah rfl rfl rfl (.ptr _ _ _ _ true 3 ((S i v).map IJ) (IJ s0) ((Ay _ _ _).trans (congrArg some ((T7 hv).trans (PS hs1)))) rfl (by rw[q55,q54,hs0];rfl)) rfl) ?_
 refine wk 2 ?_;refine dq 71 (Fh false rfl rfl rfl rfl) ?_;refine wk 1 ?_;refine qV2 (γ:=Unit) (fun _u=>⟨94,(Aa AU 10 (.ptr (4*v+2+16) ((CZ S i v).length+1) (0+(((CZ S i v).length:Nat):Int).toNat) 0)),(DH [(rf 8 [[c0,c1,c2,c3,.ref 4 R 0 R,c5,c6,c7]]),r3,(rf 1 (AH (oX n R S v i) R)),r5,r6,r7] (F4 r0 r1 (T8 n R S v i (Br (S i v) p)) (fM R S v i (Br (S i v) p))))⟩) (fun _u=>True) ?_ ?_
 .
  refine asp 71 (fun hb6=>?_) fun hb6=>?_
  .
   refine Ba ?_;have hnl:Br (S i v) p=S i v++[⟨p,false,false⟩]:=by
    first
    |exact Lj hs0 Ab (by have h:=hb6;simp at h;omega)
    |(have h0:(S i v).length=0:=(by have h:=hb6;first|exact FF h|(rw[q76]at h;exact FF h));rw[PY h0];rfl)
   exact zt3
  refine Bg ?_;have hnl:Br (S i v) p=S i v:=Uo hs0 Ab (by have h:=hb6;simp at h;omega);exact xb
 intro _ _;exact zt6
theorem V6(f:BFunc)(hs:f.sane)(R:Nat)(hRf:f.regs=(R:Int))(hR:R<=100000)(hn:f.blocks.length<=100000)(hi:∀x∈f.blocks,x.ins.length<=100000):Ca Tryz.prog 58 [.agg f.cells] hNew (.ptr 2 1 0 0) (GA hNone (DH (Kc f R (SB f) ((List.range R).map Cg) (R) (fun b=>decide (b<R))) (DF f R (SB f) G0))):=by
 refine qK4 (n:=152) Ah Tryz.func58 rfl rfl ?_;refine FL ?_;refine ax 1 (CC 2 0) ?_;refine wk 6 ?_;refine dx 18 (Cn Tryz.func80 (PW _ BR)) ?_;refine wk 3 ?_;refine dx 22 (AK Ah (n:=f.blocks.length) (m:=f.blocks.length) 3 false (hby:=Tn)) ?_;refine wk 2 ?_;refine dx 25 (AK Ah (n:=R) (m:=R) 4 false (hni:=hRf) (hnj:=hRf) (hby:=(by show 24*R<=_;omega))) ?_;refine wk 3 ?_;refine dx 29 (AK Ah (n:=f.blocks.length) (m:=f.blocks.length) 5 false (hby:=Tn)) ?_;refine wk 1 ?_;refine dx 31 (CC 8 2) ?_;refine wk 4 ?_;refine qJ0 (qV5 3 (es':=AH (aR (fun _=>[])) f.blocks.length) rfl (by rw[Av,q30]) (Qp fun b=>Wk.nil _)) ?_;refine qJ0 (qV5 4 (es':=AH (oR f.blocks.length R S0) R) rfl (by rw[Av,q30]) (Qp fun b=>by rw[qe];exact Wk.nil _)) ?_;refine wk 9 ?_;refine Bu (γ:=Nat) (kf 8) (fun k=>⟨152,(Aa (Aa (Aa (Aa (Aa AU 1 (pZ 0)) 3 (pZ 2)) 35 (Ax f.nexts)) 36 (iN f.blocks.length)) 37 (iN k)),(Jq (nb [(rf 2 [f.cells]),.free,(rf 8 [wO f R]),(rf 1 (AH (aR (aheadP f k 0)) f.blocks.length)),(rf 1 (AH (oR f.blocks.length R S0) R)),(rf 1 (AH (gK f 0) f.blocks.length)),.free,.free]) (F4 (VU f.blocks.length (aheadP f k 0)) (SY f 0 G0) (Q6 f.blocks.length R S0) (PL R S0)))⟩) (fun k=>k<=f.blocks.length) (fun k=>f.blocks.length-k) 0 (qJ1 yt (CI (k0:=8) rfl (by repeat(first|exact trivial|refine⟨⟨by first|rfl|exact congrArg (fun A=>some (rf 1 (AH (aR A) f.blocks.length))) (funext fun c=>(Ep f 0 c).symm)|exact congrArg (fun es=>some (rf 1 es)) (qE f f.blocks.length),by first|rfl|exact Ak (fun _ _=>Bz (AA _) _ _)|exact Ak (fun _ _=>Bm (AA _) _ _ _ _)|exact Ak (fun _ _=>E7 (AA _) _ _ _)⟩,?_⟩)) (fun x_=>by rw[Ua (Ep f 0)];(try simp only[AQ]);(repeat(first|refine AP Dd ?_|refine hrm_skip Ab ?_));exact congrArg some F4_start.symm) S1)) (qZ1 _) (fun g b hb=>Ci (k0:=8) rfl hb) ?_
 intro k hk;refine wk 5 ?_;refine asp 38 (fun hb1=>?_) fun hb1=>?_
 .
  refine Ba ?_;have hkl:k<f.blocks.length:=by have h:=hb1;simp at h;exact h
  obtain⟨x,hx⟩:=Ad hkl;have hxm:=q33 hx;refine wk 6 ?_;refine aq 40 (En Ah (Au (C8 hx))) ?_;refine wk 11 ?_;refine Bu (γ:=Nat) (kf 8) (fun j=>⟨152,(Aa (Aa (Aa (Aa (Aa (Aa (Aa (Aa (Aa AU 1 (pZ 0)) 3 (pZ 2)) 35 (Ax f.nexts)) 36 (iN f.blocks.length)) 37 (iN k)) 4 (iN k)) 42 (AI x.nexts)) 43 (iN x.nexts.length)) 44 (iN j)),(Jq (nb [(rf 2 [f.cells]),.free,(rf 8 [wO f R]),(rf 1 (AH (aR (aheadP f k j)) f.blocks.length)),(rf 1 (AH (oR f.blocks.length R S0) R)),(rf 1 (AH (gK f 0) f.blocks.length)),.free,.free]) (F4 (VU f.blocks.length (aheadP f k j)) (SY f 0 G0) (Q6 f.blocks.length R S0) (PL R S0)))⟩) (fun j=>True) (fun j=>x.nexts.length-j) 0 (qJ1 Cq (CI (k0:=8) rfl uU Hw S1)) trivial (fun g b hb=>Ci (k0:=8) rfl hb) ?_;intro j _;refine wk 5 ?_;refine asp 45 (fun hb2=>?_) fun hb2=>?_
  .
   refine Ba ?_;have hjl:j<x.nexts.length:=by have h:=hb2;simp[AI]at h;exact h
   obtain⟨d,hd⟩:=Ad hjl;have hd0:=hs.next x hxm d (q33 hd);have hdn:d.toNat<f.blocks.length:=by omega
   refine wk 5 ?_;refine aq 46 (En Ah (Au hd)) ?_;refine wk 14 ?_;refine dq 58 (Ae Ah (hm:=(Av _ _).symm) (h0:=hd0.1)) ?_;refine dq 59 (Ao Ah rfl rfl rfl (.ptr _ _ _ _ _ _ _ [aR (aheadP f k j) d.toNat] rfl (Av _ _).symm WW) rfl) ?_;refine wk 1 ?_;refine dx 61 DB ?_;refine dx 62 (CF Ah (b:=4*d.toNat+0+16) (es:=(aheadP f k j d.toNat).map Cg) rfl rfl rfl rfl rfl rfl rfl rfl ((Ay _ _ _).trans (congrArg some (Aba hdn))) rfl rfl (q68 _) (Lf fun _=>rfl) (H5 fun _=>rfl) rfl rfl xQ xO) ?_;refine dq 63 (Ae Ah (hb:=B7) (hm:=(Av _ _).symm) (h0:=hd0.1)) ?_;refine qK8 rfl rfl (CS Ah (p:=false) (sz:=1) (es:=AH (aR (aheadP f k j)) f.blocks.length) (cs:=[aR (aheadP f k j) d.toNat]) rfl rfl rfl rfl rfl rfl B7 (Av _ _).symm WW (Cx _ _) Al (CL _ _) D6) ?_;refine GS EF [([],[]),([],[]),([],[]),([2],[]),([],[]),([],[]),([],[]),([],[]),([2],[]),([],[]),([3],[]),([3],[]),([],[]),([],[]),([16],[16]),([3],[]),([3],[3])] z0q AF ?_;refine bB ?_;refine aq 64 (AS rfl rfl hjl ce) ?_;refine wk 2 ?_;exact⟨j+1,qV3 J7 (BO (k0:=8) rfl (by repeat(first|exact trivial|refine⟨⟨by first|rfl|exact congrArg (fun es=>some (rf 1 es)) (wC (ID hx hd hd0.1)),by first|rfl|exact Ak (fun _ _=>Bz (AA _) _ _)|exact Ak (fun _ _=>Bm (AA _) _ _ _ _)|exact Ak (fun _ _=>E7 (AA _) _ _ _)⟩,?_⟩)) (fun x_=>by(try simp only[AQ]);(repeat(first|refine AP Dd ?_|refine hrm_skip Ab ?_));exact(EO jm _ _ x_).trans (congrArg some (pV hdn (ID hx hd hd0.1) x_).symm)) (NM (fun _=>La _) (fun _=>K9 _) (fun _=>K8 (AA _) _) (fun _=>K7 _))),trivial,by omega⟩
  refine Bg ?_;have hjge:x.nexts.length<=j:=by have h:=hb2;simp[AI]at h;omega
  refine wk 2 ?_;refine aq 65 (AS rfl rfl hkl Bq) ?_;refine wk 2 ?_;exact⟨k+1,qV3 J7 (BO (k0:=8) rfl (by repeat(first|exact trivial|refine⟨⟨by first|rfl|exact congrArg (fun A=>some (rf 1 (AH (aR A) f.blocks.length))) (funext (IE hx hjge)),by first|rfl|exact Ak (fun _ _=>Bz (AA _) _ _)|exact Ak (fun _ _=>Bm (AA _) _ _ _ _)|exact Ak (fun _ _=>E7 (AA _) _ _ _)⟩,?_⟩)) (fun x_=>by rw[<-Ua (IE hx hjge)];exact Ay _ _ _) (NM (fun _=>La _) (fun _=>K9 _) (fun _=>K8 (AA _) _) (fun _=>K7 _))),hkl,by omega⟩
 refine Bg ?_;have hge:f.blocks.length<=k:=by have h:=hb1;simp at h;omega
 refine wk 3 ?_;have hkn:k=f.blocks.length:=by omega
 subst hkn;rw[show aheadP f f.blocks.length 0=AM f from funext fun c=>Ep f _ c,fQ f];refine wk 7 ?_;refine Bu (γ:=Nat) (kf 8) (fun k=>⟨152,(Aa (Aa (Aa (Aa (Aa AU 1 (pZ 0)) 3 (pZ 2)) 67 (BK f.blocks)) 68 (iN f.blocks.length)) 69 (iN k)),(Jq (nb [(rf 2 [f.cells]),.free,(rf 8 [wO f R]),(rf 1 (AH (aR (AM f)) f.blocks.length)),(rf 1 (AH (oR f.blocks.length R (Ec f k (fun _=>[]))) R)),(rf 1 (AH (gK f k) f.blocks.length)),.free,.free]) (iJ f R (Ec f k (fun _=>[])) k))⟩) (fun k=>k<=f.blocks.length) (fun k=>f.blocks.length-k) 0 (qJ1 Cq (CI (k0:=8) rfl uU Hw S1)) (qZ1 _) (fun g b hb=>Ci (k0:=8) rfl hb) ?_;intro k hk;refine wk 5 ?_;refine asp 70 (fun hb3=>?_) fun hb3=>?_
 .
  refine Ba ?_;have hkl:k<f.blocks.length:=by have h:=hb3;simp at h;exact h
  obtain⟨x,hx⟩:=Ad hkl;have hxm:=q33 hx;have hix:=hi x hxm;refine wk 6 ?_;refine aq 72 (En Ah (Au hx)) ?_;refine wk 1 ?_;refine ax 9 (DA Ah 8) ?_;refine wk 13 ?_;refine dx 82 (AK Ah (n:=x.ins.length) (m:=x.ins.length) (4*k+1+16) true (hb:=(by(try simp only[AQ]);(repeat(first|refine AP Dd ?_|refine hrm_skip Ab ?_));exact(Ay _ _ _).trans (congrArg some pU))) (hby:=(by show 1*x.ins.length<=_;omega))) ?_;refine dq 83 (Ae Ah (hb:=B7) (hm:=(Av _ _).symm)) ?_;refine qK8 rfl rfl (CS Ah (p:=false) (sz:=1) (es:=AH (gK f k) f.blocks.length) (cs:=[gK f k k]) rfl rfl rfl rfl rfl rfl B7 (Av _ _).symm jD rfl Al rfl D6) ?_;refine GS EF [([],[]),([],[]),([],[]),([2],[]),([],[]),([],[]),([8],[]),([],[]),([17],[17]),([5],[]),([5],[5])] z0q AF ?_;refine wk 4 ?_;refine aq 85 (Ao Ah rfl rfl rfl (.ptr _ _ _ _ _ _ _ _ B7 rfl rfl) rfl) ?_
  refine wk 4 ?_;refine Bu (γ:=Nat) (kf 9) (fun j=>⟨152,(Aa (Aa (Aa (Aa (Aa (Aa (Aa (Aa (Aa (Aa AU 1 (pZ 0)) 3 (pZ 2)) 67 (BK f.blocks)) 68 (iN f.blocks.length)) 69 (iN k)) 8 (iN k)) 9 (pZ 8)) 85 (CU x.ins)) 86 (iN x.ins.length)) 87 (iN j)),(Jq (nb [(rf 2 [f.cells]),.free,(rf 8 [wO f R]),(rf 1 (AH (aR (AM f)) f.blocks.length)),(rf 1 (AH (oR f.blocks.length R (Ec f k (BZ x j []))) R)),(rf 1 (AH (gK f (k+1)) f.blocks.length)),.free,.free,(rf 5 [x.cells])]) (iJ f R (Ec f k (BZ x j [])) (k+1)))⟩) (fun j=>j<=x.ins.length) (fun j=>x.ins.length-j) 0 (qJ1 Cq (CI (k0:=9) rfl (by repeat(first|exact trivial|refine⟨⟨by first|rfl|exact congrArg (fun S=>some (rf 1 (AH (oR _ R S) R))) (Ud f k x)|exact congrArg (fun es=>some (rf 1 es)) (vZ (FZ hx))|((try simp only[AQ]);repeat(first|rfl|exact AB _ _ _|refine AP Dd ?_|refine hrm_skip Ab ?_|refine(Dy _ LL).trans ?_)),by first|rfl|exact Ak (fun _ _=>Bz (AA _) _ _)|exact Ak (fun _ _=>Bm (AA _) _ _ _ _)|exact Ak (fun _ _=>E7 (AA _) _ _ _)⟩,?_⟩)) (fun x_=>by(try simp only[AQ]);rw[<-Ud f k x];(repeat(first|refine AP Dd ?_|refine hrm_skip Ab ?_));exact(EO (fun y_=>by(try simp only[AQ]);(repeat(first|refine AP Dd ?_|refine hrm_skip Ab ?_));exact Ay _ _ _) _ _ x_).trans (congrArg some (lw (FZ hx) x_).symm)) ej)) (qZ1 _) (fun g b hb=>Ci (k0:=9) rfl hb) ?_
  intro j hj;refine wk 5 ?_;refine asp 88 (fun hb4=>?_) fun hb4=>?_
  .
   refine Ba ?_;have hjl:j<x.ins.length:=by have h:=hb4;simp at h;exact h
   obtain⟨t,ht⟩:=Ad hjl;have hin:=hs.low x hxm t (q33 ht);refine wk 6 ?_;refine aq 90 (En Ah (Au ht)) ?_;refine wk 1 ?_;refine ax 11 (DA Ah 9) ?_;refine wk 7 ?_;refine ax 93 (Cn Tryz.func81 (SA _)) ?_;refine wk 4 ?_;refine Bu (γ:=Nat) (kf 10) (fun q=>⟨152,(Aa (Aa (Aa (Aa (Aa (Aa (Aa (Aa (Aa (Aa (Aa (Aa (Aa (Aa (Aa AU 1 (pZ 0)) 3 (pZ 2)) 67 (BK f.blocks)) 68 (iN f.blocks.length)) 69 (iN k)) 8 (iN k)) 9 (pZ 8)) 85 (CU x.ins)) 86 (iN x.ins.length)) 87 (iN j)) 10 (iN j)) 11 (pZ 9)) 93 (AI t.uses)) 94 (iN t.uses.length)) 95 (iN q)),(Jq (nb [(rf 2 [f.cells]),.free,(rf 8 [wO f R]),(rf 1 (AH (aR (AM f)) f.blocks.length)),(rf 1 (AH (oR f.blocks.length R (Ec f k (BZ x j (t.uses.take q)))) R)),(rf 1 (AH (gK f (k+1)) f.blocks.length)),.free,.free,(rf 5 [x.cells]),(rf 8 [t.cells])]) (iJ f R (Ec f k (BZ x j (t.uses.take q))) (k+1)))⟩) (fun q=>True) (fun q=>t.uses.length-q) 0 (qJ1 Cq (CI (k0:=10) rfl uU Hw My)) trivial (fun g b hb=>Ci (k0:=10) rfl hb) ?_
   intro q _;refine wk 5 ?_;refine asp 96 (fun hb5=>?_) fun hb5=>?_
   .
    refine Ba ?_;have hql:q<t.uses.length:=by have h:=hb5;simp[AI]at h;exact h
    obtain⟨u,hu⟩:=Ad hql;have hub:=hin.2 u (q33 hu);have hub2:u.toNat<R:=by omega
    refine wk 5 ?_;refine aq 97 (En Ah (Au hu)) ?_;refine wk 8 ?_;refine qV4 103 (hn:=GA _ (DH (ou f R (Db (Ec f k (BZ x j (t.uses.take q))) k u.toNat (Br (Ec f k (BZ x j (t.uses.take q)) k u.toNat) j)) (k+1)) (iJ f R (Db (Ec f k (BZ x j (t.uses.take q))) k u.toNat (Br (Ec f k (BZ x j (t.uses.take q)) k u.toNat) j)) (k+1)))) (r:=.ptr (4*(u.toNat+R*k)+3+16) (Br (Ec f k (BZ x j (t.uses.take q)) k u.toNat) j).length ((Br (Ec f k (BZ x j (t.uses.take q)) k u.toNat) j).length-1) 0) rfl rfl rfl (FD (ou f R (Ec f k (BZ x j (t.uses.take q))) (k+1)) (ou f R (Db (Ec f k (BZ x j (t.uses.take q))) k u.toNat (Br (Ec f k (BZ x j (t.uses.take q)) k u.toNat) j)) (k+1)) (iJ f R (Db (Ec f k (BZ x j (t.uses.take q))) k u.toNat (Br (Ec f k (BZ x j (t.uses.take q)) k u.toNat) j)) (k+1)) rfl Tryz.func82 AF rfl rfl rfl rfl rfl (HM _ _ _ _) (HM _ _ _ _) Vi IH (Ek Dv f R _ _) (Ek Dv f R _ _) (by simp[AV.avoid,AV.flat,Dv]) (by have h:=Sl f.blocks.length R (Ec f k (BZ x j (t.uses.take q))) u.toNat k j hub2 hkl (Re f k _ _) (aj Ab) hn (.int .i64 f.regs) (BK f.blocks) (Ax f.nexts) (.ref 3 f.blocks.length 0 f.blocks.length) (.ref 5 f.blocks.length 0 f.blocks.length) .nil .nil (rf 1 (AH (aR (AM f)) f.blocks.length)) (rf 1 (AH (gK f (k+1)) f.blocks.length)) .free .free (VU f.blocks.length (AM f)) (SY f (k+1) G0);rw[q41 hub.1]at h;first|exact h|(rw[q76];exact h))) ?_
    obtain⟨s,hs1,hs2,hs3⟩:=VA (Dp (Ec f k (BZ x j (t.uses.take q)) k u.toNat) j);refine wk 2 ?_;refine qK6 rfl rfl (AY Ah (es:=(Br (Ec f k (BZ x j (t.uses.take q)) k u.toNat) j).map IJ) (cs:=IJ s) rfl rfl rfl rfl rfl (by(try simp only[AQ]);exact(Gg _ _ _).trans ((Ay _ _ _).trans (congrArg some (R7 hub2 (Dp _ _))))) (q76 _).symm (by rw[q54,hs1];rfl) rfl Al rfl (fun _=>rfl)) ?_;refine wk 2 ?_;refine aq 106 (AS rfl rfl hql jz) ?_;refine wk 2 ?_;exact⟨q+1,qV3 J7 (BO (k0:=10) rfl (by repeat(first|exact trivial|refine⟨⟨by first|rfl|exact congrArg (fun es=>some (rf 1 es)) (Ly HJ (ah hu hub.1))|(refine(Cz rfl).trans ?_;exact congrArg (fun es=>some (rf 1 es)) (Ly HJ (ah hu hub.1)))|exact Cz rfl|((try simp only[AQ]);repeat(first|rfl|exact AB _ _ _|refine AP Dd ?_|refine hrm_skip Ab ?_|refine(Dy _ LL).trans ?_)),by first|rfl|exact Ak (fun _ _=>Bz (AA _) _ _)|exact Ak (fun _ _=>Bm (AA _) _ _ _ _)|exact Ak (fun _ _=>E7 (AA _) _ _ _)⟩,?_⟩)) (fun x_=>(EO (fun y_=>(Gg _ _ y_).trans (Ay _ _ _)) _ _ x_).trans (congrArg some (WE hub2 HJ (Dp _ _) (ah hu hub.1) hs2 x_).symm)) (Ek (AA _) f R _ _)),trivial,by omega⟩
   refine Bg ?_;have hqge:t.uses.length<=q:=by have h:=hb5;simp[AI]at h;omega
   rw[q20 hqge];refine wk 4 ?_;refine ax 108 (Cn Tryz.func77 (NG _)) ?_;refine wk 7 ?_;refine asp 110 (fun hb6=>?_) fun hb6=>?_
   .
    refine Ba ?_;have hsp:0<=t.sets:=by simpa using hb6
    have hs2_:t.sets.toNat<R:=by have:=hin.1 (Gc (by simpa using hb6));rw[<-K1 (Gc (by simpa using hb6))]at this;omega
    refine wk 5 ?_;refine qV4 115 (hn:=GA _ (DH (ou f R (Db (Ec f k (BZ x j t.uses)) k t.sets.toNat (Br (Ec f k (BZ x j t.uses) k t.sets.toNat) j)) (k+1)) (iJ f R (Db (Ec f k (BZ x j t.uses)) k t.sets.toNat (Br (Ec f k (BZ x j t.uses) k t.sets.toNat) j)) (k+1)))) (r:=.ptr (4*(t.sets.toNat+R*k)+3+16) (Br (Ec f k (BZ x j t.uses) k t.sets.toNat) j).length ((Br (Ec f k (BZ x j t.uses) k t.sets.toNat) j).length-1) 0) rfl rfl rfl (FD (ou f R (Ec f k (BZ x j t.uses)) (k+1)) (ou f R (Db (Ec f k (BZ x j t.uses)) k t.sets.toNat (Br (Ec f k (BZ x j t.uses) k t.sets.toNat) j)) (k+1)) (iJ f R (Db (Ec f k (BZ x j t.uses)) k t.sets.toNat (Br (Ec f k (BZ x j t.uses) k t.sets.toNat) j)) (k+1)) rfl Tryz.func82 AF rfl rfl rfl rfl rfl (HM _ _ _ _) (HM _ _ _ _) Vi IH (Ek Dv f R _ _) (Ek Dv f R _ _) (by simp[AV.avoid,AV.flat,Dv]) (by have h:=Sl f.blocks.length R (Ec f k (BZ x j t.uses)) t.sets.toNat k j hs2_ hkl (Re f k _ _) (aj Ab) hn (.int .i64 f.regs) (BK f.blocks) (Ax f.nexts) (.ref 3 f.blocks.length 0 f.blocks.length) (.ref 5 f.blocks.length 0 f.blocks.length) .nil .nil (rf 1 (AH (aR (AM f)) f.blocks.length)) (rf 1 (AH (gK f (k+1)) f.blocks.length)) .free .free (VU f.blocks.length (AM f)) (SY f (k+1) G0);rw[q41 hsp]at h;first|exact h|(rw[q76];exact h))) ?_
    obtain⟨s,hs1,hs2,hs3⟩:=VA (Dp (Ec f k (BZ x j t.uses) k t.sets.toNat) j);refine wk 2 ?_;refine qK6 rfl rfl (AY Ah (es:=(Br (Ec f k (BZ x j t.uses) k t.sets.toNat) j).map IJ) (cs:=IJ s) rfl rfl rfl rfl rfl (by(try simp only[AQ]);exact(Gg _ _ _).trans ((Ay _ _ _).trans (congrArg some (R7 hs2_ (Dp _ _))))) (q76 _).symm (by rw[q54,hs1];rfl) rfl Al rfl (fun _=>rfl)) ?_;refine wk 2 ?_;refine aq 118 (AS rfl rfl hjl Bq) ?_;refine wk 2 ?_;exact⟨j+1,qV3 J7 (BO (k0:=9) rfl (by repeat(first|exact trivial|refine⟨⟨by first|rfl|exact congrArg (fun es=>some (rf 1 es)) (Ly OH (ai ht hsp))|(refine(Cz rfl).trans ?_;exact congrArg (fun es=>some (rf 1 es)) (Ly OH (ai ht hsp)))|exact Cz rfl|((try simp only[AQ]);repeat(first|rfl|exact AB _ _ _|refine AP Dd ?_|refine hrm_skip Ab ?_|refine(Dy _ LL).trans ?_)),by first|rfl|exact Ak (fun _ _=>Bz (AA _) _ _)|exact Ak (fun _ _=>Bm (AA _) _ _ _ _)|exact Ak (fun _ _=>E7 (AA _) _ _ _)⟩,?_⟩)) (fun x_=>(EO (fun y_=>(Gg _ _ y_).trans (Ay _ _ _)) _ _ x_).trans (congrArg some (WE hs2_ OH (Dp _ _) (ai ht hsp) hs3 x_).symm)) (Ek (AA _) f R _ _)),hjl,by omega⟩
   refine Bg ?_;have hsp:¬0<=t.sets:=by simpa using hb6
   refine wk 2 ?_;refine aq 118 (AS rfl rfl hjl Bq) ?_;refine wk 2 ?_;exact⟨j+1,qV3 J7 (BO (k0:=9) rfl (by repeat(first|exact trivial|refine⟨⟨by first|rfl|exact congrArg (fun S=>some (rf 1 (AH (oR _ R S) R))) (XH ht hsp),by first|rfl|exact Ak (fun _ _=>Bz (AA _) _ _)|exact Ak (fun _ _=>Bm (AA _) _ _ _ _)|exact Ak (fun _ _=>E7 (AA _) _ _ _)⟩,?_⟩)) (fun x_=>by rw[<-XH ht hsp];exact Ay _ _ _) (Ek (AA _) f R _ _)),hjl,by omega⟩
  refine Bg ?_;have hje:j=x.ins.length:=by have h:=hb4;simp at h;omega
  subst hje;refine wk 7 ?_;refine asp 121 (fun hb7=>?_) fun hb7=>?_
  .
   refine Ba ?_;have hfin:x.fin=2:=by simpa using hb7
   have hv2:=hs.fin x hxm hfin;have hv3:x.v.toNat<R:=by omega
   refine wk 8 ?_;refine qV4 129 (hn:=GA _ (DH (ou f R (Db (Ec f k (BZ x x.ins.length [])) k x.v.toNat (Br (Ec f k (BZ x x.ins.length []) k x.v.toNat) x.ins.length)) (k+1)) (iJ f R (Db (Ec f k (BZ x x.ins.length [])) k x.v.toNat (Br (Ec f k (BZ x x.ins.length []) k x.v.toNat) x.ins.length)) (k+1)))) (r:=.ptr (4*(x.v.toNat+R*k)+3+16) (Br (Ec f k (BZ x x.ins.length []) k x.v.toNat) x.ins.length).length ((Br (Ec f k (BZ x x.ins.length []) k x.v.toNat) x.ins.length).length-1) 0) rfl rfl rfl (FD (ou f R (Ec f k (BZ x x.ins.length [])) (k+1)) (ou f R (Db (Ec f k (BZ x x.ins.length [])) k x.v.toNat (Br (Ec f k (BZ x x.ins.length []) k x.v.toNat) x.ins.length)) (k+1)) (iJ f R (Db (Ec f k (BZ x x.ins.length [])) k x.v.toNat (Br (Ec f k (BZ x x.ins.length []) k x.v.toNat) x.ins.length)) (k+1)) rfl Tryz.func82 AF rfl rfl rfl rfl rfl (HM _ _ _ _) (HM _ _ _ _) Vi IH (Ek Dv f R _ _) (Ek Dv f R _ _) (by simp[AV.avoid,AV.flat,Dv]) (by have h:=Sl f.blocks.length R (Ec f k (BZ x x.ins.length [])) x.v.toNat k x.ins.length hv3 hkl (Re f k _ _) (aj Ab) hn (.int .i64 f.regs) (BK f.blocks) (Ax f.nexts) (.ref 3 f.blocks.length 0 f.blocks.length) (.ref 5 f.blocks.length 0 f.blocks.length) .nil .nil (rf 1 (AH (aR (AM f)) f.blocks.length)) (rf 1 (AH (gK f (k+1)) f.blocks.length)) .free .free (VU f.blocks.length (AM f)) (SY f (k+1) G0);rw[q41 hv2.1]at h;first|exact h|(rw[q76];exact h))) ?_
   obtain⟨s,hs1,hs2,hs3⟩:=VA (Dp (Ec f k (BZ x x.ins.length []) k x.v.toNat) x.ins.length);refine wk 2 ?_;refine qK6 rfl rfl (AY Ah (es:=(Br (Ec f k (BZ x x.ins.length []) k x.v.toNat) x.ins.length).map IJ) (cs:=IJ s) rfl rfl rfl rfl rfl (by(try simp only[AQ]);exact(Gg _ _ _).trans ((Ay _ _ _).trans (congrArg some (R7 hv3 (Dp _ _))))) (q76 _).symm (by rw[q54,hs1];rfl) rfl Al rfl (fun _=>rfl)) ?_;refine wk 2 ?_;refine aq 132 (AS rfl rfl hkl Bq) ?_;refine wk 2 ?_;exact⟨k+1,qV3 J7 (BO (k0:=8) rfl (by repeat(first|exact trivial|refine⟨⟨by first|rfl|exact congrArg (fun es=>some (rf 1 es)) (Ly HJ (ap hx hfin hv2.1))|(refine(Cz rfl).trans ?_;exact congrArg (fun es=>some (rf 1 es)) (Ly HJ (ap hx hfin hv2.1)))|exact Cz rfl|((try simp only[AQ]);repeat(first|rfl|exact AB _ _ _|refine AP Dd ?_|refine hrm_skip Ab ?_|refine(Dy _ LL).trans ?_)),by first|rfl|exact Ak (fun _ _=>Bz (AA _) _ _)|exact Ak (fun _ _=>Bm (AA _) _ _ _ _)|exact Ak (fun _ _=>E7 (AA _) _ _ _)⟩,?_⟩)) (fun x_=>(EO (fun y_=>(Gg _ _ y_).trans (Ay _ _ _)) _ _ x_).trans (congrArg some (WE hv3 HJ (Dp _ _) (ap hx hfin hv2.1) hs2 x_).symm)) (Ek (AA _) f R _ _)),hkl,by omega⟩
  refine Bg ?_;have hfin:¬x.fin=2:=by simpa using hb7
  refine wk 2 ?_;refine aq 132 (AS rfl rfl hkl Bq) ?_;refine wk 2 ?_;exact⟨k+1,qV3 J7 (BO (k0:=8) rfl (by repeat(first|exact trivial|refine⟨⟨by first|rfl|exact congrArg (fun S=>some (rf 1 (AH (oR _ R S) R))) (XI hx hfin),by first|rfl|exact Ak (fun _ _=>Bz (AA _) _ _)|exact Ak (fun _ _=>Bm (AA _) _ _ _ _)|exact Ak (fun _ _=>E7 (AA _) _ _ _)⟩,?_⟩)) (fun x_=>by rw[<-XI hx hfin];exact Ay _ _ _) (Ek (AA _) f R _ _)),hkl,by omega⟩
 refine Bg ?_;have hge:f.blocks.length<=k:=by have h:=hb3;simp at h;omega
 refine wk 2 ?_;have hkn:k=f.blocks.length:=by omega
 subst hkn;rw[pX,v7];refine wk 4 ?_;refine ax 136 (AK Ah (n:=R) (m:=R) 7 true (hni:=hRf) (hnj:=hRf) (hby:=(by show 1*R<=_;omega))) ?_;refine wk 6 ?_;refine qJ0 (.dryCell 2 0 6 6 1 true rfl rfl rfl rfl rfl Al) ?_;refine wk 9 ?_;refine Bu (γ:=Nat) (kf 8) (fun k=>⟨152,(Aa (Aa (Aa (Aa AU 1 (pZ 0)) 3 (pZ 2)) 143 (iN R)) 144 (iN k)),(Jq (nb [(rf 2 [f.cells]),.free,(rf 8 [WO f R ((List.range k).map Cg).length (k)]),(rf 1 (AH (aR (AM f)) f.blocks.length)),(rf 1 (AH (oR f.blocks.length R (SB f)) R)),(rf 1 (AH (gR f) f.blocks.length)),(rt 1 ((List.range k).map Cg)),(rt 1 (bC R (fun b=>decide (b<k))))]) (DF f R (SB f) G0))⟩) (fun k=>k<=R) (fun k=>R-k) 0 (qJ1 Cq (CI (k0:=8) rfl (by repeat(first|exact trivial|refine⟨⟨by first|rfl|exact congrArg (fun es=>some (rt 1 es)) (oc R),by first|rfl|exact Ak (fun _ _=>Bz (AA _) _ _)|exact Ak (fun _ _=>Bm (AA _) _ _ _ _)|exact Ak (fun _ _=>CG (AA _) _ _)⟩,?_⟩)) Hw S1)) (qZ1 _) (fun g b hb=>Ci (k0:=8) rfl hb) ?_
 intro k hk;refine wk 5 ?_;refine asp 145 (fun hb8=>?_) fun hb8=>?_
 .
  refine Ba ?_;have hkl:k<R:=by have h:=hb8;simp at h;exact h
  refine wk 11 ?_;refine qV4 149 (hn:=GA _ (DH (Kc f R (SB f) ((List.range (k+1)).map Cg) (k+1) (fun b=>decide (b<k+1))) (DF f R (SB f) G0))) (r:=.tup []) rfl rfl rfl (FD (Kc f R (SB f) ((List.range k).map Cg) (k) (fun b=>decide (b<k))) (Kc f R (SB f) ((List.range (k+1)).map Cg) (k+1) (fun b=>decide (b<k+1))) (DF f R (SB f) G0) rfl Tryz.func83 AF rfl rfl rfl rfl rfl (CY _ _ _ _ _ _) (CY _ _ _ _ _ _) Vi IH (Bw Dv f R _ _) (Bw Dv f R _ _) rfl (by have h:=YG f R (SB f) G0 ((List.range k).map Cg) k (fun b=>decide (b<k)) k hkl hR Aq Em;rw[Q9,UA,NU]at h;exact h)) ?_;refine wk 2 ?_;refine aq 150 (AS rfl rfl hkl Bq) ?_;refine wk 2 ?_;exact⟨k+1,qV3 J7 (BO (k0:=8) rfl yx (fun x_=>(Gg _ _ x_).trans (Ay _ _ _)) (Bw (AA _) f R _ _)),hkl,by omega⟩
 refine Bg ?_;have hge:R<=k:=by have h:=hb8;simp at h;omega
 refine wk 7 ?_;have hkn:k=R:=by omega
 subst hkn;exact⟨[_],⟨rfl,trivial⟩,rfl,(OK rfl O5 IH)⟩
theorem qD(f:BFunc)(R:Nat)(S:DR)(G:GG)(es:List (List AV))(len:Nat)(w:Nat->Bool)(i:Nat)(x:Block)(hx:f.blocks[i]?=some x)(j:Nat)(hj:j<x.ins.length):Ca Tryz.prog 61 [.int .i64 (j:Int),.ptr 8 1 0 0,.ptr 12 1 0 0] (WS f R S G es len w i) (.bool (G i j)) (M9 kW hNone (WS f R S G es len w i)):=by
 have hb:i<f.blocks.length:=(q05.1 hx).1;refine qK4 (n:=15) Ah Tryz.func61 rfl rfl ?_;refine wk 11 ?_;refine dq 10 (Ae Ah (hm:=(Av _ _).symm)) ?_;refine dq 11 (Ao Ah rfl rfl rfl (.ptr _ _ _ _ _ _ _ [gR f i] rfl (Av _ _).symm IU) rfl) ?_;refine wk 1 ?_;refine dq 13 (Ae Ah rfl rfl rfl rfl rfl rfl ((Ay _ _ _).trans (congrArg some (Z7 hb hx))) Tk rfl (q46 _) (by rw[FZ hx];omega)) ?_;refine dq 14 (Ao Ah rfl rfl rfl (.ptr _ _ _ _ true 1 (bC x.ins.length (G i)) [.bool (G i j)] ((Ay _ _ _).trans (congrArg some (Z7 hb hx))) Tk (by rw[qQ8,q55];exact EE hj)) rfl) ?_;refine wk 3 ?_;exact⟨[_],⟨rfl,trivial⟩,rfl,XE (dS rfl rfl rfl rfl rfl rfl rfl rfl js)⟩
theorem Zo(f:BFunc)(R:Nat)(S:DR)(G:GG)(es:List (List AV))(len:Nat)(w:Nat->Bool)(i:Nat)(x:Block)(hx:f.blocks[i]?=some x)(hi:x.ins.length<=100000):Ca Tryz.prog 60 [CU x.ins,(.fn (.func 61) [] [.ptr 8 1 0 0,.ptr 12 1 0 0])] (WS f R S G es len w i) (CU (FJ (G i) x.ins 0)) (M9 kW hNone (WS f R S G es len w i)):=by
 refine qK4 (n:=28) Ah Tryz.func60 rfl rfl ?_;refine wk 8 ?_;refine ax 10 (AK Ah (n:=0) (m:=x.ins.length) 9 true rfl rfl rfl (rfl) Aq rfl rfl rfl rfl rfl (q68 _) rfl (qZ1 _) (by show 64*x.ins.length<=_;omega) Bq) ?_;refine wk 10 ?_;refine Bu (γ:=Nat) (kf 13) (fun j=>⟨28,(Aa (Aa (Aa (Aa (Aa AU 1 (.fn (.func 61) [] [.ptr 8 1 0 0,.ptr 12 1 0 0])) 5 (.ref 9 (FJ (G i) (x.ins.take j) 0).length 0 (FJ (G i) (x.ins.take j) 0).length)) 11 (CU x.ins)) 12 (iN x.ins.length)) 13 (iN j)),(Jq (nb [.free,.free,(rf 8 [WO f R (es).length (len)]),(rf 1 (AH (aR (AM f)) f.blocks.length)),(rf 1 (AH (oR f.blocks.length R S) R)),(rf 1 (AH (gR f) f.blocks.length)),(rt 1 (es)),(rt 1 (bC R (w))),ArW,(rt 8 ((FJ (G i) (x.ins.take j) 0).map Tac.cells)),.free,.free,(BrW i)]) (DF f R S G))⟩) (fun j=>j<=x.ins.length) (fun j=>x.ins.length-j) 0 (qJ1 Cq (CI (k0:=13) rfl uT Hw yp)) (qZ1 _) (fun g b hb=>Ci (k0:=13) rfl hb) ?_
 intro j hj;refine wk 5 ?_;refine asp 14 (fun hb1=>?_) fun hb1=>?_
 .
  refine Ba ?_;have hjl:j<x.ins.length:=by have h:=hb1;simp at h;exact h
  obtain⟨t,ht⟩:=Ad hjl;refine wk 6 ?_;refine aq 16 (En Ah (Au ht)) ?_;refine wk 1 ?_;refine ax 7 (DA Ah 13) ?_;refine wk 7 ?_;refine qV4 20 (hn:=_) (r:=.bool (G i j)) rfl rfl rfl (mc (W:=(WS f R S G es len w i)) kW rfl rfl Tryz.func61 AF rfl rfl rfl (dS B7 B7 B7 B7 B7 B7 B7 B7 yn) (YX f R S G es len w i) dT rfl (qD f R S G es len w i x hx j hjl)) ?_;refine wk 2 ?_;refine asp 21 (fun hb2=>?_) fun hb2=>?_
  .
   refine Ba ?_;have hg:G i j=false:=by have h:=hb2;simpa using h
   refine wk 3 ?_;refine ax 24 DB ?_;refine ax 25 (E4 Ah (n:=(FJ (G i) (x.ins.take j) 0).length) (m:=1) (es:=(FJ (G i) (x.ins.take j) 0).map Tac.cells) rfl rfl rfl rfl rfl rfl rfl rfl rfl Qi rfl rfl (q68 _) (.lst _ _) O3 O4 rfl (by have h1:=P1 (G i) (x.ins.take j) 0;rw[q69]at h1;simp[A6];omega) (by have h1:=P1 (G i) (x.ins.take j) 0;rw[q69]at h1;simp[A6];simp only[maxLen];omega)) ?_;refine wk 3 ?_;exact xy
  refine Bg ?_;have hg:G i j=true:=by have h:=hb2;simpa using h
  refine wk 2 ?_;exact xy
 refine Bg ?_;have hje:j=x.ins.length:=by have h:=hb1;simp at h;omega
 subst hje;refine wk 2 ?_;refine qJ0 (.freeze 5 9 rfl rfl Qi) ?_;refine wk 5 ?_;refine⟨[_],⟨rfl,trivial⟩,?_,XE (dS B7 B7 B7 B7 B7 B7 B7 B7 (fun x_=>by dsimp only;rw[Hm _ Ab];exact Ay _ _ _))⟩;show AV.lst false _=AV.lst false _;rw[q71,q95,q20 (by rw[q76];exact qZ0 _)]
theorem ib(f:BFunc)(hs:f.sane)(hn0:0<f.blocks.length)(hn:f.blocks.length<=100000)(hr:f.regs<=100000)(hi:∀x∈f.blocks,x.ins.length<=100000):Pu Tryz.prog 43 [.agg f.cells] (.tup [.agg (NP f).cells,.agg [N5 (Fx (NP f))]]):=by
 have hr0:=hs.regs;obtain⟨R,hRf⟩:∃R:Nat,f.regs=(R:Int):=⟨f.regs.toNat,by omega⟩
 have hR:R<=100000:=by omega
 refine qK5 (n:=83) Ah Tryz.func43 rfl rfl ?_;refine FL ?_;refine ax 1 (CC 2 0) ?_;refine ax 2 (DA Ah 1) ?_;refine ax 3 (DA Ah 9) ?_;refine wk 4 ?_;refine qV4 10 (hn:=GA _ (DH (Kc f R (SB f) ((List.range R).map Cg) (R) (fun b=>decide (b<R))) (DF f R (SB f) G0))) (r:=.ptr 2 1 0 0) rfl rfl rfl (ma (W:=hNew) (W':=(DH (Kc f R (SB f) ((List.range R).map Cg) (R) (fun b=>decide (b<R))) (DF f R (SB f) G0))) kD rfl Tryz.func58 AF rfl rfl rfl (fun b hb=>by have:=Wb hb;(try simp only[AQ]);show _=some AObj.free;(repeat(first|refine AP Dd ?_|refine hrm_skip Ab ?_));rfl) (fun b hb=>⟨.free,rfl,rfl⟩) (fun b hb=>rfl) (fun b hb=>SR rfl (CY _ _ _ _ _ _) (Bw Dv f R _ _) hb) rfl (V6 f hs R hRf hR hn hi)) ?_;refine ax 4 (DA Ah 8) ?_;refine wk 4 ?_;refine Bu (γ:=Fu) (kf 10) (fun st=>⟨83,(Aa (Aa (Aa (Aa AU 1 (pZ 0)) 2 (pZ 1)) 3 (pZ 9)) 4 (pZ 8)),(Jq (nb [(rf 2 [f.cells]),(rf 2 [[.int .i64 0,.nil]]),(rf 8 [WO f R (st.es).length (st.ws.length)]),(rf 1 (AH (aR (AM f)) f.blocks.length)),(rf 1 (AH (oR f.blocks.length R (SB f)) R)),(rf 1 (AH (gR f) f.blocks.length)),(rt 1 (st.es)),(rt 1 (bC R (st.w))),ArW,(rf 1 [[.nil]])]) (DF f R (SB f) st.G))⟩) (fun st=>SI f R st) (fun st=>wL f R st) (wM R) (qJ1 B4 (CI (k0:=10) rfl (by repeat(first|exact trivial|refine⟨⟨by first|rfl|exact Cz rfl|exact pH,by first|rfl|exact Ak (fun _ _=>Bz (AA _) _ _)|exact Ak (fun _ _=>Bm (AA _) _ _ _ _)|exact Ak (fun _ _=>CG (AA _) _ _)⟩,?_⟩)) IH My)) (SI.first hs hRf) (fun g b hb=>Ci (k0:=10) rfl hb) ?_
 intro st hQ;obtain⟨G,w,ws,es⟩:=st;dsimp only at hQ|-;refine wk 10 ?_;refine asp 16 (fun hb1=>?_) fun hb1=>?_
 .
  refine Ba ?_;obtain⟨ws',v,hws⟩:∃ws' v,ws=ws'++[v]:=by
   rcases GF ws with h|h
   . have h2:=hb1;rw[h]at h2;simp at h2
   . exact h
  subst hws;have hpop:=hQ.q.wt.pop;have hv:=hpop.2.1;refine wk 13 ?_;refine dq 26 (A9 (r:=.int .i64 (ws'.length:Int)) rfl rfl rfl (Nd (by have:=hQ.q.wt.le;simp at this;omega))) ?_;refine dq 27 (Ae Ah (hm:=rfl) (hn:=Em)) ?_;refine dq 28 (Ao Ah rfl rfl rfl (.ptr _ _ _ _ _ _ _ (Cg v) rfl rfl (by rw[qQ8,q55];exact hQ.q.st.get)) rfl) ?_;refine wk 14 ?_;refine dq 39 (A9 (r:=.int .i64 (ws'.length:Int)) rfl rfl rfl (Nd (by have:=hQ.q.wt.le;simp at this;omega))) ?_;refine dq 40 (It Ah (es:=es) (m:=ws'.length) rfl rfl rfl rfl rfl rfl rfl rfl rfl Aq) ?_;refine wk 11 ?_;refine aq 48 (Ae Ah (hm:=(Av _ _).symm)) ?_;refine qK6 rfl rfl (AY Ah (hm:=(Av _ _).symm) (hk:=Tr)) ?_;refine wk 4 ?_;refine qV4 51 (hn:=GA _ (DH (Kc f R (SB f) ((Jz f v (⟨G,Dn w v false,ws',es⟩:Fu)).es) ((Jz f v (⟨G,Dn w v false,ws',es⟩:Fu)).ws.length) ((Jz f v (⟨G,Dn w v false,ws',es⟩:Fu)).w)) (DF f R (SB f) (Jz f v (⟨G,Dn w v false,ws',es⟩:Fu)).G))) (r:=.tup []) rfl rfl rfl (FD (Kc f R (SB f) es ws'.length (Dn w v false)) (Kc f R (SB f) (Jz f v (⟨G,Dn w v false,ws',es⟩:Fu)).es (Jz f v (⟨G,Dn w v false,ws',es⟩:Fu)).ws.length (Jz f v (⟨G,Dn w v false,ws',es⟩:Fu)).w) (DF f R (SB f) (Jz f v (⟨G,Dn w v false,ws',es⟩:Fu)).G) rfl Tryz.func59 AF rfl rfl rfl rfl rfl (CY _ _ _ _ _ _) (CY _ _ _ _ _ _) yf IH (Bw Dv f R _ _) (Bw Dv f R _ _) rfl (Wr f hs R hRf (⟨G,Dn w v false,ws',es⟩:Fu) ⟨hpop.1,hQ.q.st.pop⟩ v hv hn hR hi)) ?_
  refine an ?_;exact⟨(Jz f v (⟨G,Dn w v false,ws',es⟩:Fu)),qV3 J7 (BO (k0:=10) rfl yx IH (Bw (AA _) f R _ _)),(hQ.reg hs hRf rfl).1,(hQ.reg hs hRf rfl).2⟩
 refine Bg ?_;have hws:ws=[]:=by
  rcases GF ws with h|⟨L,b,h⟩
  . exact h
  . have h2:=hb1;rw[h]at h2;simp at h2
 subst hws;have hdn:Dh f G=NP f:=hQ.done hs hRf rfl;refine wk 8 ?_;refine dx 57 (AK Ah (n:=f.blocks.length) (m:=f.blocks.length) 11 true (hby:=(by show 56*f.blocks.length<=_;omega))) ?_;refine wk 1 ?_;refine dx 6 (DA Ah 10) ?_;refine wk 11 ?_;refine Bu (γ:=Nat) (kf 12) (fun k=>⟨83,(Aa (Aa (Aa (Aa (Aa (Aa (Aa (Aa AU 1 (pZ 0)) 2 (pZ 1)) 3 (pZ 9)) 4 (pZ 8)) 6 (pZ 10)) 60 (BK f.blocks)) 61 (iN f.blocks.length)) 62 (iN k)),(Jq (nb [(rf 2 [f.cells]),(rf 2 [[.int .i64 0,.nil]]),(rf 8 [WO f R (es).length (([]:List Nat).length)]),(rf 1 (AH (aR (AM f)) f.blocks.length)),(rf 1 (AH (oR f.blocks.length R (SB f)) R)),(rf 1 (AH (gR f) f.blocks.length)),(rt 1 (es)),(rt 1 (bC R (w))),ArW,(rf 1 [[.nil]]),(rf 2 [[.int .i64 f.regs,.ref 11 f.blocks.length 0 f.blocks.length]]),(rt 5 (((Dh f G).blocks.take k).map Block.cells++List.replicate (f.blocks.length-k) [.nil,.int .i64 0,.int .i64 0,.int .i64 0,.int .i64 0]))]) (DF f R (SB f) G))⟩) (fun k=>k<=f.blocks.length) (fun k=>f.blocks.length-k) 0 (qJ1 Cq (CI (k0:=12) rfl uT Hw (fun c h1 h2=>by rcases(by omega:c=12\/c=13\/c=14\/c=15)with rfl|rfl|rfl|rfl<;>first|rfl|(try simp only[AQ];repeat(first|rfl|refine AP Dd ?_|refine hrm_skip Ab ?_))))) (qZ1 _) (fun g b hb=>Ci (k0:=12) rfl hb) ?_
 intro k hk;refine wk 5 ?_;refine asp 63 (fun hb2=>?_) fun hb2=>?_
 .
  refine Ba ?_;have hkl:k<f.blocks.length:=by have h:=hb2;simp at h;exact h
  obtain⟨x,hx⟩:=Ad hkl;have hxm:=q33 hx;refine wk 6 ?_;refine aq 65 (En Ah (Au hx)) ?_;refine wk 1 ?_;refine ax 7 (DA Ah 12) ?_;refine ax 8 (DA Ah 13) ?_;refine wk 7 ?_;refine aq 69 (HZ rfl rfl rfl) ?_;refine qV4 70 (hn:=_) (r:=CU (FJ (G k) x.ins 0)) rfl rfl rfl (mb (W:=WS f R (SB f) G es ([]:List Nat).length w k) kW rfl Tryz.func60 AF rfl rfl rfl (dS B7 B7 B7 B7 B7 B7 B7 B7 yn) (YX f R (SB f) G es _ w k) dT rfl (Zo f R (SB f) G es _ w k x hx (hi x hxm))) ?_;refine wk 8 ?_;refine aq 76 (Ae Ah rfl rfl rfl rfl rfl rfl rfl (AL (ED f G) (qX0 hkl)) rfl (q46 _) Ab) ?_;refine qK6 rfl rfl (AY Ah rfl rfl rfl rfl rfl rfl (AL (ED f G) (qX0 hkl)) (CH (ED f G) hkl) rfl Al rfl C1) ?_;refine wk 2 ?_;refine aq 77 (AS rfl rfl hkl Bq) ?_;refine wk 2 ?_;exact⟨k+1,qV3 J7 (BO (k0:=12) rfl (by repeat(first|exact trivial|refine⟨⟨by first|rfl|exact congrArg (fun es=>some (rt 5 es)) (Ct (f:=Block.cells) (x:=x.mid (FJ (G k) x.ins 0)) (ED f G) (Hc hx)),by first|rfl|exact Ak (fun _ _=>Bz (AA _) _ _)|exact Ak (fun _ _=>Bm (AA _) _ _ _ _)|exact Ak (fun _ _=>CG (AA _) _ _)⟩,?_⟩)) Hw (Bw (AA _) f R _ _)),hkl,by omega⟩
 refine Bg ?_;have hge:f.blocks.length<=k:=by have h:=hb2;simp at h;omega
 refine wk 2 ?_;refine qJ0 (.freezeCell 10 0 1 11 rfl rfl rfl rfl (AL (ED f G) hk) Al) ?_;rw[Dg (f:=Block.cells) (z:=[.nil,.int .i64 0,.int .i64 0,.int .i64 0,.int .i64 0]) (ED f G) hge];refine wk 3 ?_;refine dx 80 (Cn Tryz.func62 (qp (Dh f G) (ic hQ.c hs) (by rw[ED];exact hn0) (by rw[ED];exact hn) hr (nH hi))) ?_;refine dq 81 (cV Ah rfl rfl rfl rfl rfl rfl rfl rfl) ?_;refine wk 5 ?_;refine⟨[_,_],⟨⟨_,_,_,_,rfl,rfl,.ptr _ _ _ _ _ _ _ _ rfl rfl rfl,rfl⟩,⟨_,_,_,_,rfl,rfl,.ptr _ _ _ _ _ _ _ _ rfl rfl rfl,rfl⟩,trivial⟩,?_,rfl⟩;rw[<-hdn];rfl
theorem dw(next:List (List Int))(hnl:next.length<=100000)(b:Int)(s:DS)(es:List (List AV))(hl:s.been.length=next.length)(hw:WayIn next.length s es):Ca Tryz.prog 156 [.int .i64 b,.ptr 1 1 0 0,.ptr 2 1 0 0,.ptr 3 1 0 0] (Af (Af (Af (Af (Af hNew 0 (rt 1 ((s).been.map Bn))) 1 (rf 1 [[Ax next]])) 2 (rf 1 [[.ref 0 next.length 0 next.length]])) 3 (rf 1 [[.ref 4 (es).length 0 (s).way.length]])) 4 (rt 2 (es))) (.tup []) (Af (Af (Af (Af (Af hNone 0 (rt 1 (((Cu b s)).been.map Bn))) 1 (rf 1 [[Ax next]])) 2 (rf 1 [[.ref 0 next.length 0 next.length]])) 3 (rf 1 [[.ref 4 ((Wg b s es)).length 0 ((Cu b s)).way.length]])) 4 (rt 2 ((Wg b s es)))):=by
 refine qK4 (n:=28) Ah Tryz.func156 rfl rfl ?_;refine wk 5 ?_;refine BM 7 (fun hb1=>?_) fun hb1=>?_
 .
  refine wk 6 ?_;refine BM 13 (fun hb2=>?_) fun hb2=>?_
  .
   have hb0:0<=b/\b<s.been.length:=by simp_all[Ax]<;>omega
   obtain⟨v,hv⟩:=Ad (l:=s.been) (k:=b.toNat) Ab;refine wk 2 ?_;refine aq 16 (Ae Ah (hm:=(by simp[hl])) (h0:=hb0.1)) ?_;refine aq 17 (Ao Ah rfl rfl rfl (.ptr _ _ _ _ _ _ _ _ rfl (by simp[hl]) (show _=some [AV.bool v] by rw[qQ8,q54,hv];rfl)) rfl) ?_;refine wk 3 ?_;refine asp 19 (fun hb3=>?_) fun hb3=>?_
   .
    refine Ba ?_;have hnb:notBeen s.been b=true:=by rw[notBeen,hv];simp_all
    have hcap:=hw.cap;have hle:=hw.le;refine wk 4 ?_;refine aq 22 (Ae Ah (hm:=(by simp[hl])) (h0:=hb0.1)) ?_;refine qK6 rfl rfl (AY Ah rfl rfl rfl rfl rfl rfl (by simp[hl]) (show _=some [AV.bool v] by rw[qQ8,q54,hv];rfl) rfl Al rfl C1) ?_;refine wk 5 ?_;refine ax 26 DB ?_;refine ax 27 (Rn Ah (es:=es) rfl rfl rfl rfl rfl rfl rfl rfl rfl rfl hw.le rfl rfl (q68 _) (.lst _ _) rfl (fun _=>rfl) (by show _*16<=_;omega) Bq) ?_;refine wk 2 ?_;refine⟨[],trivial,rfl,?_⟩;rw[show Cu b s=_ from YK hnb,show Wg b s es=_ from mR hnb];exact qJ5 (qJ5 (qJ5 (qJ5 (qJ5 (qJ6 _) (by first|rfl|exact congrArg (fun es=>some (rt 1 es)) (YS _ _ _))) rfl) rfl) xN) (by rfl)
   refine Bg ?_;exact xu
  exact sR
 refine qK7 8 rfl rfl rfl ?_;refine qK7 9 rfl rfl rfl ?_;refine qK7 10 rfl rfl rfl ?_;refine qK7 11 rfl rfl rfl ?_;refine wk 2 ?_;exact sR
theorem qw(b:Int):Ca Tryz.prog 155 [.int .i64 b] hNew (.tup []) hNone:=by
 refine qK4 (n:=2) Ah Tryz.func155 rfl rfl ?_;refine oL ?_;exact⟨[],trivial,rfl,qJ6 _⟩
theorem pk(next:List (List Int))(hnl:next.length<=100000)(hsm:∀l∈next,l.length<=100000)(been:List Bool)(hbl:been.length=next.length):Ca Tryz.prog 154 [Ax next,.ref 0 next.length 0 next.length,.fn (.func 155) [] []] (Af hNew 0 (rt 1 (been.map Bn))) (.tup []) (Af hNone 0 (rt 1 ((IP next been).map Bn))):=by
 refine qK4 (n:=69) Ah Tryz.func154 rfl rfl ?_;refine FL ?_;refine ax 3 (CC 1 1) ?_;refine ax 4 (CC 1 2) ?_;refine wk 3 ?_;refine ax 6 (DA Ah 3) ?_;refine wk 2 ?_;refine qJ0 (.dryCell 3 0 0 4 2 true rfl rfl rfl rfl rfl Al) ?_;refine bB ?_;refine aq 10 (HZ rfl rfl rfl) ?_;refine wk 5 ?_;refine ax 12 (HB (hc:=(Af (Af (Af (Af (Af hNew 0 (rt 1 (((DS.mk been [])).been.map Bn))) 1 (rf 1 [[Ax next]])) 2 (rf 1 [[.ref 0 next.length 0 next.length]])) 3 (rf 1 [[.ref 4 (([]:List (List AV))).length 0 ((DS.mk been [])).way.length]])) 4 (rt 2 (([]:List (List AV)))))) (hw:=(Af (Af (Af (Af (Af hNone 0 (rt 1 (((Cu 0 (DS.mk been []))).been.map Bn))) 1 (rf 1 [[Ax next]])) 2 (rf 1 [[.ref 0 next.length 0 next.length]])) 3 (rf 1 [[.ref 4 ((Wg 0 (DS.mk been []) ([]:List (List AV)))).length 0 ((Cu 0 (DS.mk been []))).way.length]])) 4 (rt 2 ((Wg 0 (DS.mk been []) ([]:List (List AV))))))) [4,3,2,1,0] [(0,(rt 1 (((Cu 0 (DS.mk been []))).been.map Bn))),(1,(rf 1 [[Ax next]])),(2,(rf 1 [[.ref 0 next.length 0 next.length]])),(3,(rf 1 [[.ref 4 ((Wg 0 (DS.mk been []) ([]:List (List AV)))).length 0 ((Cu 0 (DS.mk been []))).way.length]])),(4,(rt 2 ((Wg 0 (DS.mk been []) ([]:List (List AV))))))] rfl rfl Tryz.func156 AF rfl rfl rfl Ql rfl Cf Zl rfl (dw next hnl 0 (DS.mk been []) ([]:List (List AV)) hbl (Tv hbl))) ?_
 refine wk 2 ?_;refine Ap (γ:=FW) 5 (fun q=>⟨69,(Aa (Aa (Aa (Aa (Aa AU 2 (.fn (.func 155) [] [])) 3 (pZ 1)) 4 (pZ 2)) 6 (pZ 3)) 7 (.fn (.func 156) [] [.ptr 1 1 0 0,.ptr 2 1 0 0,.ptr 3 1 0 0])),(Af (Af (Af (Af (Af (A0 5) 0 (rt 1 ((q.s).been.map Bn))) 1 (rf 1 [[Ax next]])) 2 (rf 1 [[.ref 0 next.length 0 next.length]])) 3 (rf 1 [[.ref 4 (q.es).length 0 (q.s).way.length]])) 4 (rt 2 (q.es)))⟩) (fun q=>FWInv next (KK next (Ws next (GM been)+1) (GM been)) q) (fun q=>q.g) ⟨GM been,Wg 0 (DS.mk been []) [],Ws next (GM been)+1⟩ (qJ1 B4 Vj) (FWInv.first hbl) (fun _=>Ac (Ac (Ac (B9) rfl) rfl) rfl) ?_;intro q hF;refine wk 7 ?_;refine asp 15 (fun hb1=>?_) fun hb1=>?_
 .
  refine Ba ?_;have hpos:0<q.s.way.length:=by simpa using hb1
  obtain⟨⟨b,i⟩,hp⟩:∃p,q.s.way.getLast?=some p:=⟨_,List.getLast?_eq_some_getLast (List.ne_nil_of_length_pos hpos)⟩
  have htop:=(hF.way.top hp).1;have hbi:=hF.ok.way (b,i) (by rw[IW hp];simp);simp only at hbi;obtain⟨l,hnx⟩:=Ad (l:=next) (k:=b.toNat) Ab;have hrl:Cl next b=l:=by simp[Cl,hnx]
  rw[hrl]at hbi;refine wk 7 ?_;refine aq 19 (A9 (r:=.int .i64 ((q.s.way.length-1:Nat):Int)) rfl rfl rfl (Jf hpos (by have:=hF.way.cap;have:=hF.way.le;omega))) ?_;refine aq 20 (Ae Ah (hm:=rfl) (hn:=(by have:=hF.way.le;omega))) ?_;refine wk 8 ?_;refine dq 24 (Ao Ah rfl rfl rfl (.ptr _ _ _ _ _ _ _ _ rfl rfl (show _=some (Ey (b,i)) by rw[qQ8,q55];exact htop)) rfl) ?_;refine wk 4 ?_;refine dq 29 (Ao Ah rfl rfl rfl (.ptr _ _ _ _ _ _ _ _ rfl rfl (show _=some (Ey (b,i)) by rw[qQ8,q55];exact htop)) rfl) ?_;refine dq 30 (An Ah rfl rfl rfl rfl rfl rfl hbi.1 (C4 hnx) rfl) ?_;refine wk 4 ?_;refine asp 33 (fun hb2=>?_) fun hb2=>?_
  .
   refine Ba ?_;have hil:i<l.length:=by have h:=hb2;simp at h;exact h
   obtain⟨y,hlx⟩:=Ad (l:=l) (k:=i.toNat) Ab;refine wk 5 ?_;refine aq 37 (Ao Ah rfl rfl rfl (.ptr _ _ _ _ _ _ _ _ rfl rfl (show _=some (Ey (b,i)) by rw[qQ8,q55];exact htop)) rfl) ?_;refine aq 38 (A9 (r:=.int .i64 (i+1)) rfl rfl rfl (by simp only[A8,BP,isShift,qZ3,qZ8];rw[B8 Ab (by have:=hsm _ (q33 hnx);omega)])) ?_;refine wk 2 ?_;refine qK6 rfl rfl (AY Ah rfl rfl rfl rfl rfl rfl rfl (show _=some (Ey (b,i)) by rw[qQ8,q55];exact htop) rfl Al rfl C1) ?_;refine wk 2 ?_;refine AGo.sub (s':=⟨69,(Aa (Aa (Aa (Aa (Aa (Aa AU 2 (.fn (.func 155) [] [])) 3 (pZ 1)) 4 (pZ 2)) 6 (pZ 3)) 7 (.fn (.func 156) [] [.ptr 1 1 0 0,.ptr 2 1 0 0,.ptr 3 1 0 0])) 8 (.ptr 4 q.es.length (0+(((q.s.way.length-1:Nat):Int)).toNat) 0)),(Af (Af (Af (Af (Af hNone 0 (rt 1 (((DS.mk q.s.been (q.s.way.dropLast++[(b,i+1)]))).been.map Bn))) 1 (rf 1 [[Ax next]])) 2 (rf 1 [[.ref 0 next.length 0 next.length]])) 3 (rf 1 [[.ref 4 ((q.es.set (q.s.way.length-1) (Ey (b,i+1)))).length 0 ((DS.mk q.s.been (q.s.way.dropLast++[(b,i+1)]))).way.length]])) 4 (rt 2 ((q.es.set (q.s.way.length-1) (Ey (b,i+1))))))⟩) (qJ1 B4 (by repeat(first|exact qJ6 _|exact AO _|exact AG Al|refine qJ5 ?_ (by first|rfl|exact congrArg (fun es=>some (rt 2 es)) (by rw[qQ8,q55];rfl)|exact congrArg (fun p:Nat×Nat=>some (rf 1 [[AV.ref 4 p.1 0 p.2]])) (Vq hp _ _))|refine AN ?_ Al))) ?_
   refine wk 6 ?_;refine dq 46 (Ao Ah rfl rfl rfl (.ptr _ _ _ _ _ _ _ _ rfl Aq (show _=some (Ey (b,i+1)) by rw[qQ8,q55,q21 (by have:=hF.way.le;omega)])) rfl) ?_;refine dq 47 (An Ah rfl rfl rfl rfl rfl rfl hbi.1 (C4 hnx) rfl) ?_;refine wk 4 ?_;refine dq 52 (Ao Ah rfl rfl rfl (.ptr _ _ _ _ _ _ _ _ rfl Aq (show _=some (Ey (b,i+1)) by rw[qQ8,q55,q21 (by have:=hF.way.le;omega)])) rfl) ?_;refine dq 53 (A9 (r:=.int .i64 i) rfl rfl rfl (by simp only[A8,BP,isShift,qZ3,qZ8];rw[show i+1-1=i by omega,B8 Ab (by have:=hsm _ (q33 hnx);omega)])) ?_;refine dq 54 (An Ah rfl rfl rfl rfl rfl rfl hbi.2.2.1 (cs:=[.int .i64 (((Cl next b)[i.toNat]?).getD 0)]) (by show(List.map (fun b=>[AV.int .i64 b]) l)[i.toNat]?=_;rw[q54,hlx,hrl,hlx];rfl) rfl) ?_;refine wk 1 ?_;refine dx 56 (HB (hc:=(Af (Af (Af (Af (Af hNew 0 (rt 1 (((DS.mk q.s.been (q.s.way.dropLast++[(b,i+1)]))).been.map Bn))) 1 (rf 1 [[Ax next]])) 2 (rf 1 [[.ref 0 next.length 0 next.length]])) 3 (rf 1 [[.ref 4 ((q.es.set (q.s.way.length-1) (Ey (b,i+1)))).length 0 ((DS.mk q.s.been (q.s.way.dropLast++[(b,i+1)]))).way.length]])) 4 (rt 2 ((q.es.set (q.s.way.length-1) (Ey (b,i+1))))))) (hw:=(Af (Af (Af (Af (Af hNone 0 (rt 1 (((Cu (((Cl next b)[i.toNat]?).getD 0) (DS.mk q.s.been (q.s.way.dropLast++[(b,i+1)])))).been.map Bn))) 1 (rf 1 [[Ax next]])) 2 (rf 1 [[.ref 0 next.length 0 next.length]])) 3 (rf 1 [[.ref 4 ((Wg (((Cl next b)[i.toNat]?).getD 0) (DS.mk q.s.been (q.s.way.dropLast++[(b,i+1)])) (q.es.set (q.s.way.length-1) (Ey (b,i+1))))).length 0 ((Cu (((Cl next b)[i.toNat]?).getD 0) (DS.mk q.s.been (q.s.way.dropLast++[(b,i+1)])))).way.length]])) 4 (rt 2 ((Wg (((Cl next b)[i.toNat]?).getD 0) (DS.mk q.s.been (q.s.way.dropLast++[(b,i+1)])) (q.es.set (q.s.way.length-1) (Ey (b,i+1)))))))) [4,3,2,1,0] [(0,(rt 1 (((Cu (((Cl next b)[i.toNat]?).getD 0) (DS.mk q.s.been (q.s.way.dropLast++[(b,i+1)])))).been.map Bn))),(1,(rf 1 [[Ax next]])),(2,(rf 1 [[.ref 0 next.length 0 next.length]])),(3,(rf 1 [[.ref 4 ((Wg (((Cl next b)[i.toNat]?).getD 0) (DS.mk q.s.been (q.s.way.dropLast++[(b,i+1)])) (q.es.set (q.s.way.length-1) (Ey (b,i+1))))).length 0 ((Cu (((Cl next b)[i.toNat]?).getD 0) (DS.mk q.s.been (q.s.way.dropLast++[(b,i+1)])))).way.length]])),(4,(rt 2 ((Wg (((Cl next b)[i.toNat]?).getD 0) (DS.mk q.s.been (q.s.way.dropLast++[(b,i+1)])) (q.es.set (q.s.way.length-1) (Ey (b,i+1)))))))] rfl rfl Tryz.func156 AF rfl rfl rfl Ql rfl Cf Zl rfl (dw next hnl (((Cl next b)[i.toNat]?).getD 0) (DS.mk q.s.been (q.s.way.dropLast++[(b,i+1)])) (q.es.set (q.s.way.length-1) (Ey (b,i+1))) hF.ok.len (hF.way.seen hp))) ?_
   refine wk 2 ?_;exact xi
  refine Bg ?_;have hil:¬i<l.length:=by have h:=hb2;simp at h;omega
  refine wk 6 ?_;refine aq 60 (Ao Ah rfl rfl rfl (.ptr _ _ _ _ _ _ _ _ rfl rfl (show _=some (Ey (b,i)) by rw[qQ8,q55];exact htop)) rfl) ?_;refine wk 7 ?_;refine aq 64 (A9 (r:=.int .i64 ((q.s.way.length-1:Nat):Int)) rfl rfl rfl (Jf hpos (by have:=hF.way.cap;have:=hF.way.le;omega))) ?_;refine aq 65 (It (m:=(DS.mk q.s.been q.s.way.dropLast).way.length) Ah rfl rfl rfl rfl rfl rfl rfl rfl Aq Aq) ?_;refine wk 5 ?_;refine ax 68 (HB (hc:=hNew) (hw:=hNone) [] [] rfl rfl Tryz.func155 AF rfl rfl rfl trivial rfl Cf trivial rfl (qw b)) ?_;refine an ?_;exact xi
 refine Bg ?_;have hnil:q.s.way=[]:=q18.1 (by have h:=hb1;simp at h;simpa using h);refine wk 1 ?_;refine⟨[],trivial,rfl,?_⟩;rw[show IP next been=q.s.been from(congrArg DS.been (hF.done hnil)).symm];exact qJ5 (qJ6 _) rfl
theorem k7(next:List (List Int))(hnl:next.length<=100000)(hsm:∀l∈next,l.length<=100000):Pu Tryz.prog 148 [Ax next] (Co (IP next (List.replicate next.length false))):=by
 refine qK5 (n:=11) Ah Tryz.func148 rfl rfl ?_;refine wk 8 ?_;refine ax 6 (AK Ah (n:=next.length) (m:=next.length) 0 true (hby:=(by show 1*next.length<=_;omega))) ?_;refine wk 3 ?_;refine AGo.sub (s':=⟨11,(Aa (Aa AU 0 (Ax next)) 3 (.ref 0 next.length 0 next.length)),(Af hNone 0 (rt 1 (((List.replicate next.length false)).map Bn)))⟩) (qJ1 B4 (by repeat(first|exact qJ6 _|exact AO _|exact AG Al|refine qJ5 ?_ (by first|rfl|exact congrArg (fun es=>some (rt 1 es)) (by rw[List.map_replicate];rfl))|refine AN ?_ Al))) ?_;refine wk 3 ?_;refine ax 9 (GD (pk next hnl hsm (List.replicate next.length false) Aq) [0] [(0,(rt 1 ((IP next (List.replicate next.length false)).map Bn)))] rfl Tryz.func154 AF rfl rfl rfl ⟨⟨_,rfl,rfl⟩,trivial⟩ rfl Cf ⟨⟨_,rfl,rfl,rfl⟩,trivial⟩ rfl) ?_;refine wk 2 ?_;refine qJ0 (.freezeA 3 0 rfl rfl (by simp[LY])) ?_;refine wk 4 ?_;refine CE ⟨[_],⟨rfl,trivial⟩,?_,rfl⟩
 rfl
theorem ZF(f:BFunc)(reach:List Bool)(hn:f.blocks.length<=1000)(hr:reach.length=f.blocks.length)(hle:f.leads):Pu Tryz.prog 149 [.agg f.cells,Ax f.nexts,Co reach] (.tup [AI (f.takes reach),Co (f.takenAt reach f.blocks.length)]):=by
 refine qK5 (n:=104) Ah Tryz.func149 rfl rfl ?_;refine FL ?_;refine ax 3 (CC 2 0) ?_;refine wk 8 ?_;refine ax 18 (AK Ah (n:=f.blocks.length) (m:=f.blocks.length) 1 true (hby:=cc)) ?_;refine wk 10 ?_;refine Ap (γ:=Nat) 2 (fun k=>⟨104,(Aa (Aa (Aa (Aa (Aa (Aa (Aa (Aa AU 0 (.agg f.cells)) 1 (Ax f.nexts)) 2 (Co reach)) 3 (pZ 0)) 8 (.ref 1 f.blocks.length 0 f.blocks.length)) 19 (Ax f.nexts)) 20 (iN f.blocks.length)) 21 (iN k)),(Af (Af (A0 2) 0 (rf 2 [f.cells])) 1 (rt 1 (BV (Cr f.nexts reach k))))⟩) (fun k=>k<=f.blocks.length) (fun k=>f.blocks.length-k) 0 (qJ1 (by repeat(first|exact qJ2 _|refine qJ3 ?_ (by first|rfl|exact congrArg (fun(n:Nat)=>some (AV.int .i64 (n:Int))) (by simp[AZ])))) (by repeat(first|exact qJ6 _|exact AO _|exact AG Al|refine qJ5 ?_ (by first|rfl|exact congrArg (fun es=>some (rt 1 es)) (by rw[Cr,AZ];exact No _))|refine AN ?_ Al))) (qZ1 _) (fun _=>B9) ?_
 intro k hk;refine wk 5 ?_;refine asp 22 (fun hb1=>?_) fun hb1=>?_
 .
  refine Ba ?_;have hkl:k<f.blocks.length:=by simpa using hb1
  obtain⟨x,hx⟩:=Ad hkl;have hnx:=C8 hx;obtain⟨rk,hrk⟩:=Ad (l:=reach) (k:=k) Ab;refine wk 6 ?_;refine aq 24 F6 ?_;refine wk 9 ?_;refine aq 28 F6 ?_;refine wk 3 ?_;refine asp 30 (fun hb2=>?_) fun hb2=>?_
  .
   refine Ba ?_;have hrf:reach[k]?=some false:=by rw[hrk];simpa using hb2
   exact wT
  refine Bg ?_;have hrt:reach[k]?=some true:=by rw[hrk];simpa using hb2
  have h2:=Oq f x.nexts (q33 hnx);refine wk 8 ?_;refine Ap (γ:=Nat) 2 (fun j=>⟨104,(Aa (Aa (Aa (Aa (Aa (Aa (Aa (Aa (Aa (Aa (Aa (Aa AU 0 (.agg f.cells)) 1 (Ax f.nexts)) 2 (Co reach)) 3 (pZ 0)) 8 (.ref 1 f.blocks.length 0 f.blocks.length)) 19 (Ax f.nexts)) 20 (iN f.blocks.length)) 21 (iN k)) 9 (iN k)) 31 (AI x.nexts)) 32 (iN x.nexts.length)) 33 (iN j)),(Af (Af (A0 2) 0 (rf 2 [f.cells])) 1 (rt 1 (BV ((x.nexts.take j).foldl LH (Cr f.nexts reach k)))))⟩) (fun j=>j<=x.nexts.length) (fun j=>x.nexts.length-j) 0 (qJ1 Cq Vj) (qZ1 _) (fun _=>B9) ?_;intro j hj;refine wk 5 ?_;refine asp 34 (fun hb3=>?_) fun hb3=>?_
  .
   refine Ba ?_;have hjl:j<x.nexts.length:=by simpa using hb3
   obtain⟨y,hy⟩:=Ad hjl;have hyr:=hle x.nexts (q33 hnx) y (q33 hy);have hub:=UL (Mu (x.nexts.take j) (O6 (Oq f) reach k)) y;have hjt:(x.nexts.take j).length=j:=by rw[q69];omega
   rw[hjt]at hub;refine wk 5 ?_;refine aq 35 F6 ?_;refine wk 6 ?_;refine aq 39 (Ae Ah (hm:=oV) (h0:=hyr.1)) ?_;refine aq 40 (Ao Ah rfl rfl rfl (.ptr _ _ _ _ _ _ _ _ rfl oV (R2 (by rw[Gv,C0,AZ];exact hyr))) rfl) ?_;refine aq 41 (A9 (r:=.int .i64 (iget ((x.nexts.take j).foldl LH (Cr f.nexts reach k)) y+1)) rfl rfl rfl uN) ?_;refine aq 42 (Ae Ah (hm:=oV) (h0:=hyr.1)) ?_;refine qK6 rfl rfl (AY Ah rfl rfl rfl rfl rfl rfl oV (R2 (by rw[Gv,C0,AZ];exact hyr)) rfl Al rfl C1) ?_;refine wk 2 ?_;refine aq 43 (AS rfl rfl hjl Bq) ?_;refine wk 2 ?_;exact⟨j+1,qV1 Vh (by repeat(first|exact qJ8 _ _|exact qV0 _ _|refine qJ9 ?_ (by first|rfl|exact congrArg (fun es=>some (rt 1 es)) (by rw[br hy];exact UN _ _ _)) rfl rfl)),hjl,by omega⟩
  refine Bg ?_;have hge2:x.nexts.length<=j:=by simpa using hb3
  exact wT
 refine Bg ?_;have hge:f.blocks.length<=k:=by simpa using hb1
 obtain rfl:k=f.blocks.length:=by omega
 refine wk 6 ?_;refine ax 48 (AK Ah (n:=f.blocks.length) (m:=f.blocks.length) 2 true (hby:=cc)) ?_;refine wk 7 ?_;refine ax 52 (AK Ah (n:=f.blocks.length) (m:=f.blocks.length) 3 true (hby:=(by show 1*f.blocks.length<=_;omega))) ?_;refine wk 11 ?_;refine Ap (γ:=Nat) 4 (fun k=>⟨104,(Aa (Aa (Aa (Aa (Aa (Aa (Aa (Aa (Aa (Aa AU 0 (.agg f.cells)) 1 (Ax f.nexts)) 2 (Co reach)) 3 (pZ 0)) 8 (.ref 1 f.blocks.length 0 f.blocks.length)) 6 (.ref 2 f.blocks.length 0 f.blocks.length)) 7 (.ref 3 f.blocks.length 0 f.blocks.length)) 54 (BK f.blocks)) 55 (iN f.blocks.length)) 56 (iN k)),(Af (Af (Af (Af (A0 4) 0 (rf 2 [f.cells])) 1 (rt 1 (BV (Iq f.nexts reach)))) 2 (rt 1 (((f.takes reach).take k).map Wh++List.replicate (f.blocks.length-k) [.int .i64 0]))) 3 (rt 1 ((f.takenAt reach k).map Bn)))⟩) (fun k=>k<=f.blocks.length) (fun k=>f.blocks.length-k) 0 (qJ1 Cq (by repeat(first|exact qJ6 _|exact AO _|exact AG Al|refine qJ5 ?_ (by first|rfl|exact congrArg (fun w=>some (rt 1 (BV w))) (by rw[Iq,AZ])|exact congrArg (fun es=>some (rt 1 es)) (by simp[BFunc.takenAt,Bn]))|refine AN ?_ Al))) (qZ1 _) (fun _=>Ac (Ac (B9) rfl) rfl) ?_
 intro k hk;refine wk 5 ?_;refine asp 57 (fun hb4=>?_) fun hb4=>?_
 .
  refine Ba ?_;have hkl:k<f.blocks.length:=by simpa using hb4
  obtain⟨x,hx⟩:=Ad hkl;obtain⟨rk,hrk⟩:=Ad (l:=reach) (k:=k) Ab;have htk:=NW (reach:=reach) hx;refine wk 6 ?_;refine aq 59 F6 ?_;refine wk 1 ?_;refine ax 14 (DA Ah 4) ?_;refine wk 7 ?_;refine aq 63 (Ae Ah rfl rfl rfl rfl rfl rfl rfl (AL (Bc f reach) (qX0 hkl)) rfl (q46 _) Ab) ?_;refine qK6 rfl rfl (AY Ah rfl rfl rfl rfl rfl rfl (AL (Bc f reach) (qX0 hkl)) (CH (Bc f reach) hkl) rfl Al rfl C1) ?_;refine wk 5 ?_;refine aq 66 F6 ?_;refine wk 2 ?_;refine BM 68 (fun hb5=>?_) fun hb5=>?_
  .
   refine wk 5 ?_;refine BM 73 (fun hb6=>?_) fun hb6=>?_
   .
    refine wk 5 ?_;refine BM 78 (fun hb7=>?_) fun hb7=>?_
    .
     refine wk 6 ?_;refine BM 84 (fun hb8=>?_) fun hb8=>?_
     .
      have hto:=KB hle hx (.inl Kd);refine wk 3 ?_;refine aq 88 (Ae Ah (hm:=(by rw[BF,Iq,C0,AZ])) (h0:=hto.1)) ?_;refine aq 89 (Ao Ah rfl rfl rfl (.ptr _ _ _ _ _ _ _ _ rfl (by rw[BF,Iq,C0,AZ]) (R2 (by rw[Iq,C0,AZ];exact hto))) rfl) ?_;refine wk 3 ?_;refine asp 91 (fun hb9=>?_) fun hb9=>?_
      .
       refine Ba ?_;have hyes:takeOf f.nexts reach k x=x.to:=ZH hrk Kd;refine wk 6 ?_;refine aq 96 (Ae Ah (hm:=xK)) ?_;refine qK6 rfl rfl (AY Ah rfl rfl rfl rfl rfl rfl xK (Tc (CH (Bc f reach) hkl)) rfl Al rfl C1) ?_;refine wk 5 ?_;refine aq 100 (Ae Ah (hm:=(by rw[q76,C3])) (h0:=hto.1)) ?_;refine qK6 rfl rfl (AY Ah (cs:=[.bool (wv (f.takenAt reach k) x.to)]) (hm:=(by rw[q76,C3])) (hk:=(by rw[qQ8];exact ww (by rw[C3];exact hto)))) ?_;exact zt8
      refine Bg ?_;have hno:takeOf f.nexts reach k x= -1:=NY hrk Kd;exact zt8
     refine qK7 85 rfl rfl rfl ?_;refine qK7 86 rfl rfl rfl ?_;refine qK7 87 rfl rfl rfl ?_;refine qK7 88 rfl rfl rfl ?_;refine qK7 89 rfl rfl rfl ?_;refine qK7 90 rfl rfl rfl ?_;refine wk 3 ?_;have hno:takeOf f.nexts reach k x= -1:=NY hrk Kd;exact zt8
    exact xt
   exact sc
  refine qK7 69 rfl rfl rfl ?_;refine qK7 70 rfl rfl rfl ?_;refine qK7 71 rfl rfl rfl ?_;refine wk 2 ?_;exact sc
 refine Bg ?_;have hge:f.blocks.length<=k:=by simpa using hb4
 obtain rfl:k=f.blocks.length:=by omega
 refine wk 2 ?_;refine qJ0 (.freezeA 6 2 rfl rfl (AL (Bc f reach) (qZ0 _))) ?_;refine qJ0 (.freezeA 7 3 rfl rfl (by rw[q76,C3])) ?_;refine wk 7 ?_;refine⟨[_,_],⟨rfl,rfl,trivial⟩,?_,rfl⟩;have e1:=Dg (f:=Wh) (z:=[.int .i64 0]) (Bc f reach) (qZ0 _);rw[q95,q20 (Nat.le_of_eq (AL (Bc f reach) (qZ0 _)).symm)]at e1;show AV.tup [.lst false _,.lst false _]=_;rw[e1];rfl
theorem gF(takes:List Int)(i:Int)(hn:takes.length<=1000)(hi:0<=i/\i<takes.length)(hin:∀v∈takes,v= -1\/(0<=v/\v<takes.length))(he:ends takes takes.length i=true):Ca Tryz.prog 150 [.int .i64 i,.ptr 2 1 0 0] (Af hNew 2 (rf 1 [[AI takes]])) (AI (BC takes i)) (Af hNone 2 (rf 1 [[AI takes]])):=by
 refine qK4 (n:=21) Ah Tryz.func150 rfl rfl ?_;refine wk 7 ?_;refine ax 6 (Ro Ah 3 true rfl rfl rfl rfl rfl rfl Al rfl rfl rfl rfl C1 rfl rfl) ?_;refine wk 4 ?_;refine qJ7 (γ:=FG2) (fun q=>⟨21,(Aa (Aa (Aa AU 0 (.int .i64 q.c)) 1 (pZ 2)) 4 (.ref 3 q.acc.length 0 q.acc.length)),(Af (Af hNone 2 (rf 1 [[AI takes]])) 3 (rt 1 (BV q.acc)))⟩) (fun q=>FInv2 takes (BC takes i) q) (fun q=>q.g) ⟨i,[i],takes.length⟩ (qJ1 B4 Vj) (FInv2.first hi he) ?_;intro q hF;refine wk 5 ?_;refine aq 9 (An Ah rfl rfl rfl rfl rfl rfl hF.c.1 (mS hF.c) rfl) ?_;refine wk 3 ?_;refine asp 11 (fun hb1=>?_) fun hb1=>?_
 .
  refine Ba ?_;have hnx:=hF.next hin hb1;have hlen:=hF.len;have hg0:0<q.g:=by omega
  refine wk 6 ?_;refine aq 14 (An Ah rfl rfl rfl rfl rfl rfl hF.c.1 (mS hF.c) rfl) ?_;refine wk 6 ?_;refine ax 18 DB ?_;refine ax 19 (E4 Ah (n:=q.acc.length) (m:=1) rfl rfl rfl rfl rfl rfl rfl rfl rfl (by rw[BF]) rfl rfl (q68 _) (.lst _ _) O3 O4 rfl (by simp[BF,A6];show _*8<=_;omega) (by simp[BF,A6];simp only[maxLen];omega)) ?_;refine wk 2 ?_;exact⟨⟨iget takes q.c,q.acc++[iget takes q.c],q.g-1⟩,qJ1 (by repeat(first|exact qJ2 _|refine qJ3 ?_ (by first|rfl|exact congrArg (fun n=>some (AV.ref 3 n 0 n)) Aq))) (by repeat(first|exact qJ6 _|exact AO _|exact AG Al|refine qJ5 ?_ (by first|rfl|exact congrArg (fun es=>some (rt 1 es)) (by simp[BV,A6];rfl))|refine AN ?_ Al)),hnx.1,hnx.2⟩
 refine Bg ?_;have hdone:=hF.done hb1;refine wk 2 ?_;refine qJ0 (.freezeA 4 3 rfl rfl (by rw[BF])) ?_;refine wk 5 ?_;refine⟨[_],⟨rfl,trivial⟩,?_,qJ5 (qJ6 _) rfl⟩;rw[<-hdone];rfl
theorem gv(f:BFunc)(p:List Int)(hf:∀x∈f.blocks,x.ins.length<=10000)(hp:oJ f.blocks.length p)(hl:p.length<=100000):Pu Tryz.prog 151 [.agg f.cells,AI p] (CU (f.joined p)):=by
 obtain⟨hne,hin⟩:=hp;obtain⟨i0,rest,rfl⟩:∃i0 rest,p=i0::rest:=⟨p.head hne,p.tail,(List.cons_head_tail hne).symm⟩
 have h0:=hin i0 Aq;have hrl:rest.length<=100000:=by simp at hl;omega
 refine qK5 (n:=40) Ah Tryz.func151 rfl rfl ?_;refine FL ?_;refine ax 2 (CC 2 0) ?_;refine wk 7 ?_;refine dq 12 (An Ah rfl rfl rfl rfl rfl rfl Al (cs:=[.int .i64 i0]) rfl rfl) ?_;refine wk 1 ?_;refine dq 14 (An Ah rfl rfl rfl rfl rfl rfl h0.1 (C4 (Bp h0)) rfl) ?_;refine wk 11 ?_;refine aq 22 (lx Ah rfl rfl rfl rfl rfl rfl rfl) ?_;refine wk 6 ?_;refine aq 24 (vC Ah (c:=[.int .i64 i0]) (es:=BV rest) rfl rfl rfl rfl rfl rfl (by intro cs h;simp[BV]at h;rcases h with rfl|⟨n,_,rfl⟩<;>rfl)) ?_;refine wk 4 ?_;refine qJ7 (γ:=Nat) (fun k=>⟨40,(Aa (Aa (Aa (Aa (Aa AU 2 (pZ 0)) 6 (UJ (Yi f rest k) 1 (J3 f i0 rest k))) 24 (AI rest)) 25 (iN rest.length)) 26 (iN k)),(Af (Af hNone 0 (rf 2 [f.cells])) 1 (Oz (Yi f rest k) 8 (J3 f i0 rest k)))⟩) (fun k=>k<=rest.length) (fun k=>rest.length-k) 0 (qJ1 (by repeat(first|exact qJ2 _|refine qJ3 ?_ (by first|rfl|exact congrArg (fun es=>some (AV.lst true es)) (by simp[J3,BFunc.joined])|exact congrArg (fun(n:Nat)=>some (AV.int .i64 (n:Int))) (by simp[BF])))) Vj) (qZ1 _) ?_
 intro k hk;refine wk 5 ?_;refine asp 27 (fun hb1=>?_) fun hb1=>?_
 .
  refine Ba ?_;have hkl:k<rest.length:=by simpa[BF]using hb1
  obtain⟨y,hy⟩:=Ad hkl;have hyr:=hin y (by simp[q33 hy]);have hb1:(J3 f i0 rest k).length+(List.map Tac.cells (f.blockAt y).ins).length<=2000000000:=by
   have h1:=Mo hf (i0::(rest.take k));have h2:=Mo hf [y];simp only[BFunc.joined,List.flatMap_cons,List.flatMap_nil,q91,q48,q70,q84,q69]at h1 h2;simp only[J3,BFunc.joined,q76,q48];omega
  refine wk 5 ?_;refine aq 28 (En Ah (Au hy)) ?_;refine wk 8 ?_;refine aq 34 (An Ah rfl rfl rfl rfl rfl rfl hyr.1 (C4 (Bp hyr)) rfl) ?_;refine wk 2 ?_;refine ax 37 (Uk Ah 1 rfl rfl rfl rfl rfl rfl rfl rfl rfl rfl rfl (q68 _) (Pz f i0 rest k).1 (Pz f i0 rest k).2 (OB _).1 (OB _).2 (by show _*64<=_;omega) Bq) ?_;refine wk 3 ?_;refine aq 38 (AS rfl rfl hkl Bq) ?_;refine wk 2 ?_;exact⟨k+1,qJ1 (by repeat(first|exact qJ2 _|refine qJ3 ?_ (by first|rfl|exact congrArg (fun p:Bool×List (List AV)=>some (UJ p.1 1 p.2)) (ud hy)))) (by repeat(first|exact qJ6 _|exact AO _|exact AG Al|refine qJ5 ?_ (by first|rfl|exact congrArg (fun p:Bool×List (List AV)=>some (Oz p.1 8 p.2)) (ud hy))|refine AN ?_ Al)),hkl,by omega⟩
 refine Bg ?_;have hge:rest.length<=k:=by simpa[BF]using hb1
 obtain rfl:k=rest.length:=by omega
 refine wk 2 ?_;refine qJ0 (.endJ 6 1 rfl rfl) ?_;refine wk 4 ?_;refine CE ⟨[_],⟨rfl,trivial⟩,?_,rfl⟩;show AV.lst false _=AV.lst false _;rw[J3,q71];rfl
theorem eY(f:BFunc)(hf:f.tame):Pu Tryz.prog 144 [.agg f.cells] (.tup [.agg f.tidy.cells,Ax f.tpaths]):=by
 have hn:=hf.mild;have hle:=hf.leads;have hnn:=AZ f;have hrl:=M4 f;have hn2:∀l∈f.nexts,l.length<=100000:=fun l hl=>by have:=Oq f l hl;omega
 have htl:f.tk.length=f.blocks.length:=Bc f _;have hti:=Kj hle f.reach;refine qK5 (n:=119) Ah Tryz.func144 rfl rfl ?_;refine FL ?_;refine ax 1 (CC 2 0) ?_;refine ax 2 (DA Ah 1) ?_;refine wk 5 ?_;refine ax 17 (Cn Tryz.func80 (PW f Ab)) ?_;refine wk 5 ?_;refine ax 19 (Cn Tryz.func148 (k7 f.nexts Ab hn2)) ?_;refine wk 7 ?_;refine ax 24 (Cn Tryz.func149 (ZF f f.reach hn hrl hle)) ?_;refine wk 3 ?_;refine ax 6 (DA Ah 2) ?_;refine wk 8 ?_;refine qJ0 (.dry 8 4 1 true rfl rfl rfl Al) ?_;refine wk 4 ?_;refine ax 30 (AK Ah (n:=f.blocks.length) (m:=f.blocks.length) 3 true (hby:=cc)) ?_;refine wk 4 ?_;refine aq 31 (HZ rfl rfl rfl) ?_;refine wk 11 ?_;refine Ap (γ:=Nat) 5 (fun k=>⟨119,(Aa (Aa (Aa (Aa (Aa (Aa (Aa (Aa (Aa AU 1 (pZ 0)) 2 (pZ 1)) 9 (.ref 3 f.blocks.length 0 f.blocks.length)) 5 (Co f.reach)) 7 (Co (f.takenAt f.reach f.blocks.length))) 8 (.ref 4 (f.pathsTo k).length 0 (f.pathsTo k).length)) 10 (.fn (.func 150) [] [.ptr 2 1 0 0])) 34 (iN f.blocks.length)) 35 (iN k)),(Af (Af (Af (Af (Af (A0 5) 0 (rf 2 [f.cells])) 1 (rf 2 [[.int .i64 0,.nil]])) 2 (rf 1 [[AI f.tk]])) 3 (rt 1 (BV (f.numsTo k)))) 4 (rt 1 ((f.pathsTo k).map Gj)))⟩) (fun k=>k<=f.blocks.length) (fun k=>f.blocks.length-k) 0 (qJ1 Cq (by repeat(first|exact qJ6 _|exact AO _|exact AG Al|refine qJ5 ?_ (by first|rfl|exact congrArg (fun es=>some (rt 1 es)) (No _))|refine AN ?_ Al|refine Bh ?_ Al))) (qZ1 _) (fun _=>Ac (Ac (Ac (B9) rfl) rfl) rfl) ?_
 intro k hk;refine wk 5 ?_;refine asp 36 (fun hb1=>?_) fun hb1=>?_
 .
  refine Ba ?_;have hkl:k<f.blocks.length:=by simpa using hb1
  obtain⟨rk,hrk⟩:=Ad (l:=f.reach) (k:=k) Ab;obtain⟨tk,htk⟩:=Ad (l:=(f.takenAt f.reach f.blocks.length)) (k:=k) (by rw[C3];omega);have hhd:=US hrk htk;refine wk 12 ?_;refine aq 40 F6 ?_;refine wk 2 ?_;refine BM 42 (fun hb2=>?_) fun hb2=>?_
  .
   refine wk 2 ?_;refine aq 45 F6 ?_;refine wk 4 ?_;refine asp 48 (fun hb3=>?_) fun hb3=>?_
   .
    refine Ba ?_;have hhead:f.headOf k=true:=by rw[hhd];simp_all
    have hpl:=Ed f k;refine wk 6 ?_;refine aq 53 (Ae Ah (hm:=(by rw[BF,CD]))) ?_;refine qK6 rfl rfl (AY Ah rfl rfl rfl rfl rfl rfl (by rw[BF,CD]) (R2 (by rw[CD];omega)) rfl Al rfl C1) ?_;refine wk 5 ?_;refine ax 57 (HB (hc:=(Af hNew 2 (rf 1 [[AI f.tk]]))) (hw:=(Af hNone 2 (rf 1 [[AI f.tk]]))) [2] [(2,(rf 1 [[AI f.tk]]))] rfl rfl Tryz.func150 AF rfl rfl rfl ⟨⟨_,rfl,rfl⟩,trivial⟩ rfl Cf ⟨⟨_,rfl,rfl,rfl⟩,trivial⟩ rfl (gF f.tk k Ab Ab hti (hf.ends k hhead))) ?_;refine ax 58 DB ?_;refine ax 59 (E4 Ah (n:=(f.pathsTo k).length) (m:=1) rfl rfl rfl rfl rfl rfl rfl rfl rfl Aq rfl rfl (q68 _) (.lst _ _) O3 O4 rfl (by simp[A6];show _*24<=_;omega) (by simp[A6];simp only[maxLen];omega)) ?_;refine wk 3 ?_;exact uH
   refine Bg ?_;have hhead:f.headOf k=false:=by rw[hhd];simp_all
   refine wk 2 ?_;exact uH
  refine qK7 43 rfl rfl rfl ?_;refine qK7 44 rfl rfl rfl ?_;refine qK7 45 rfl rfl rfl ?_;refine qK7 46 rfl rfl rfl ?_;refine qK7 47 rfl rfl rfl ?_;refine wk 3 ?_;have hhead:f.headOf k=false:=by rw[hhd];simp_all
  refine wk 2 ?_;exact uH
 refine Bg ?_;have hge:f.blocks.length<=k:=by simpa using hb1
 obtain rfl:k=f.blocks.length:=by omega
 refine wk 2 ?_;refine qJ0 (.freezeA 8 4 rfl rfl Aq) ?_;have hml:f.tpaths.length<=f.blocks.length:=Ed f f.blocks.length;refine wk 5 ?_;refine dx 65 (AK Ah (n:=f.tpaths.length) (m:=f.tpaths.length) 5 true (hni:=(by simp[BFunc.tpaths])) (hnj:=(by simp[BFunc.tpaths])) (hby:=(by show 56*f.tpaths.length<=_;have:=Ed f f.blocks.length;have:f.tpaths.length<=f.blocks.length:=this;omega)) (hm:=(by have:=Ed f f.blocks.length;have:f.tpaths.length<=f.blocks.length:=this;simp only[maxLen];omega))) ?_;refine wk 1 ?_;refine dx 12 (DA Ah 6) ?_;refine wk 10 ?_;refine Ap (γ:=Nat) 7 (fun k=>⟨119,(Aa (Aa (Aa (Aa (Aa (Aa (Aa (Aa AU 1 (pZ 0)) 2 (pZ 1)) 9 (.ref 3 f.blocks.length 0 f.blocks.length)) 8 (Ax f.tpaths)) 12 (pZ 6)) 67 (Ax f.tpaths)) 68 (iN f.tpaths.length)) 69 (iN k)),(Af (Af (Af (Af (Af (A0 7) 0 (rf 2 [f.cells])) 1 (rf 2 [[.int .i64 0,.nil]])) 3 (rt 1 (BV f.nums))) 5 (rt 5 (((f.tpaths.map f.newBlock).take k).map Block.cells++List.replicate (f.tpaths.length-k) [.nil,.int .i64 0,.int .i64 0,.int .i64 0,.int .i64 0]))) 6 (rf 2 [[.int .i64 f.regs,.ref 5 f.tpaths.length 0 f.tpaths.length]]))⟩) (fun k=>k<=f.tpaths.length) (fun k=>f.tpaths.length-k) 0 (qJ1 (by repeat(first|exact qJ2 _|refine qJ3 ?_ (by first|rfl|exact congrArg (fun(n:Nat)=>some (AV.int .i64 (n:Int))) (by simp[BFunc.tpaths])))) ym) (qZ1 _) (fun _=>Ac (Ac (Ac (B9) rfl) rfl) rfl) ?_
 intro k hk;refine wk 5 ?_;refine asp 70 (fun hb4=>?_) fun hb4=>?_
 .
  refine Ba ?_;have hkl:k<f.tpaths.length:=by simpa using hb4
  obtain⟨p,hp⟩:=Ad hkl;have hpm:=q33 hp;have hpin:=Ku hle _ (qZ0 _) p hpm;have hplen:0<p.length:=q43.2 hpin.1;have hlast:=hpin.2 _ (Jg hpin.1);have hbx:=Bp hlast;have hnb:(f.tpaths.map f.newBlock)[k]?=some (f.newBlock p):=by simp[hp]
  refine wk 6 ?_;refine aq 72 F6 ?_;refine wk 11 ?_;refine dq 79 (A9 (r:=.int .i64 ((p.length-1:Nat):Int)) rfl rfl rfl (by rw[q76];exact Jf hplen (by have:=FT _ p hpm;omega))) ?_;refine dq 80 (An Ah rfl rfl rfl rfl rfl rfl (q46 _) (cs:=[.int .i64 (A7 p)]) ye rfl) ?_;refine wk 1 ?_;refine dq 82 (An Ah rfl rfl rfl rfl rfl rfl hlast.1 (C4 (Bp hlast)) rfl) ?_;refine wk 1 ?_;refine dx 15 (DA Ah 7) ?_;refine wk 6 ?_;refine ax 86 (Cn Tryz.func151 (gv f p hf.ins hpin (by have:=FT _ p hpm;omega))) ?_;refine wk 10 ?_;refine BM 91 (fun hb5=>?_) fun hb5=>?_
  .
   refine qK7 92 rfl rfl rfl ?_;refine qK7 93 rfl rfl rfl ?_;refine qK7 94 rfl rfl rfl ?_;refine wk 3 ?_;have hto:=KB hle hbx Kd;refine wk 4 ?_;refine aq 99 (Ae Ah (hm:=Tq) (h0:=hto.1)) ?_;refine aq 100 (Ao Ah rfl rfl rfl (.ptr _ _ _ _ _ _ _ _ rfl Tq (R2 (by rw[show f.nums.length=f.blocks.length from CD f _];exact hto))) rfl) ?_;refine wk 10 ?_;refine asp 104 (fun hb6=>?_) fun hb6=>?_
   .
    exact uD
   refine wk 7 ?_;exact zt0
  refine wk 5 ?_;refine asp 95 (fun hb7=>?_) fun hb7=>?_
  .
   refine Ba ?_;have hto:=KB hle hbx Kd;refine wk 4 ?_;refine aq 99 (Ae Ah (hm:=Tq) (h0:=hto.1)) ?_;refine aq 100 (Ao Ah rfl rfl rfl (.ptr _ _ _ _ _ _ _ _ rfl Tq (R2 (by rw[show f.nums.length=f.blocks.length from CD f _];exact hto))) rfl) ?_;refine wk 10 ?_;refine asp 104 (fun hb8=>?_) fun hb8=>?_
   .
    exact uD
   refine wk 7 ?_;exact zt0
  refine wk 9 ?_;refine asp 104 (fun hb9=>?_) fun hb9=>?_
  .
   exact uD
  refine wk 7 ?_;exact zt0
 refine Bg ?_;have hge:f.tpaths.length<=k:=by simpa using hb4
 refine wk 2 ?_;refine qJ0 (.freezeCell 6 0 1 5 rfl rfl rfl rfl (AL (by simp:(f.tpaths.map f.newBlock).length=f.tpaths.length) hk) Al) ?_;refine wk 7 ?_;refine⟨[_,_],⟨⟨_,_,_,_,rfl,rfl,.ptr _ _ _ _ _ _ _ _ rfl rfl rfl,rfl⟩,rfl,trivial⟩,?_,rfl⟩;have e1:=Dg (f:=Block.cells) (z:=[.nil,.int .i64 0,.int .i64 0,.int .i64 0,.int .i64 0]) (by simp:(f.tpaths.map f.newBlock).length=f.tpaths.length) hge;show AV.tup [.agg [_,.lst false _],_]=_;rw[e1];rfl
theorem U7(op a b:Int)(hb:0<=b):Pu Tryz.prog 103 [.int .i64 op,.int .u32 a,.int .u32 b] (ck (GT op a b)):=by
 refine qK5 (n:=18) Ah Tryz.func103 rfl rfl ?_;refine wk 11 ?_;refine asp 9 (fun hb1=>?_) fun hb1=>?_
 .
  refine wk 7 ?_;exact iY
 refine Bg ?_;have hb0:¬b=0:=by simpa using hb1
 refine wk 7 ?_;refine asp 11 (fun hb2=>?_) fun hb2=>?_
 .
  refine wk 5 ?_;refine aq 14 (A9 (r:=.int .u32 (IntKind.u32.wrap (a.tdiv b))) rfl rfl rfl (by simp[A8,BP,isShift,hb0])) ?_;refine wk 4 ?_;exact iY
 refine wk 6 ?_;refine aq 17 (A9 (r:=.int .u32 (a.tmod b)) rfl rfl rfl (by simp[A8,BP,isShift,hb0])) ?_;refine wk 4 ?_;exact iY
theorem Xj(op a b:Int)(hb:0<=b):Pu Tryz.prog 104 [.int .i64 op,.int .u32 a,.int .u32 b] (.int .u32 (Hf op a b)):=by
 refine qK5 (n:=19) Ah Tryz.func104 rfl rfl ?_;refine wk 12 ?_;refine asp 7 (fun hb1=>?_) fun hb1=>?_
 .
  refine wk 5 ?_;exact jc
 refine wk 7 ?_;refine asp 10 (fun hb2=>?_) fun hb2=>?_
 .
  refine wk 5 ?_;refine aq 15 (A9 (r:=.int .u32 (IntKind.u32.wrap (a*2^(min b.toNat IntKind.u32.bits)))) rfl rfl rfl xM) ?_;refine wk 2 ?_;exact jc
 refine wk 6 ?_;refine aq 18 (A9 (r:=.int .u32 (a.fdiv (2^(min b.toNat IntKind.u32.bits)))) rfl rfl rfl xM) ?_;refine wk 2 ?_;exact jc
theorem Sq(op a b:Int)(hb:0<=b):Pu Tryz.prog 105 [.int .i64 op,.int .u32 a,.int .u32 b] (.int .u32 (IV op a b)):=by
 refine qK5 (n:=23) Ah Tryz.func105 rfl rfl ?_;refine wk 16 ?_;refine BM 10 (fun hb1=>?_) fun hb1=>?_
 .
  refine wk 6 ?_;refine asp 7 (fun hb2=>?_) fun hb2=>?_
  .
   refine wk 7 ?_;exact Zf
  refine wk 7 ?_;refine BM 18 (fun hb3=>?_) fun hb3=>?_
  .
   refine wk 6 ?_;refine asp 15 (fun hb4=>?_) fun hb4=>?_
   .
    refine wk 7 ?_;exact Zf
   refine wk 7 ?_;exact Zf
  refine wk 13 ?_;exact Zf
 refine wk 13 ?_;refine BM 18 (fun hb5=>?_) fun hb5=>?_
 .
  refine wk 6 ?_;refine asp 15 (fun hb6=>?_) fun hb6=>?_
  .
   refine wk 7 ?_;exact Zf
  refine wk 7 ?_;exact Zf
 refine wk 13 ?_;exact Zf
theorem YU(op a b:Int)(hb:0<=b):Pu Tryz.prog 96 [.int .i64 op,.int .u32 a,.int .u32 b] (ck (Cp op a b)):=by
 refine qK5 (n:=62) Ah Tryz.func96 rfl rfl ?_;refine wk 16 ?_;refine asp 9 (fun hb1=>?_) fun hb1=>?_
 .
  refine wk 10 ?_;exact Mw
 refine wk 6 ?_;refine asp 14 (fun hb2=>?_) fun hb2=>?_
 .
  refine wk 10 ?_;exact Mw
 refine wk 6 ?_;refine asp 19 (fun hb3=>?_) fun hb3=>?_
 .
  refine wk 10 ?_;exact Mw
 refine wk 7 ?_;refine asp 24 (fun hb4=>?_) fun hb4=>?_
 .
  refine wk 8 ?_;refine ax 30 (Cn Tryz.func103 (U7 _ _ _ hb)) ?_;refine wk 6 ?_;exact Mw
 refine wk 5 ?_;refine asp 24 (fun hb5=>?_) fun hb5=>?_
 .
  refine wk 6 ?_;refine ax 30 (Cn Tryz.func103 (U7 _ _ _ hb)) ?_;refine wk 6 ?_;exact Mw
 refine wk 6 ?_;refine asp 33 (fun hb6=>?_) fun hb6=>?_
 .
  refine wk 10 ?_;exact Mw
 refine wk 6 ?_;refine asp 38 (fun hb7=>?_) fun hb7=>?_
 .
  refine wk 10 ?_;exact Mw
 refine wk 6 ?_;refine asp 43 (fun hb8=>?_) fun hb8=>?_
 .
  refine wk 10 ?_;exact Mw
 refine wk 7 ?_;refine asp 48 (fun hb9=>?_) fun hb9=>?_
 .
  refine wk 8 ?_;refine ax 54 (Cn Tryz.func104 (Xj _ _ _ hb)) ?_;refine wk 4 ?_;exact Mw
 refine wk 5 ?_;refine asp 48 (fun hb10=>?_) fun hb10=>?_
 .
  refine wk 6 ?_;refine ax 54 (Cn Tryz.func104 (Xj _ _ _ hb)) ?_;refine wk 4 ?_;exact Mw
 refine wk 7 ?_;refine asp 55 (fun hb11=>?_) fun hb11=>?_
 .
  refine wk 8 ?_;refine ax 61 (Cn Tryz.func105 (Sq _ _ _ hb)) ?_;refine wk 4 ?_;exact Mw
 refine wk 5 ?_;refine asp 55 (fun hb12=>?_) fun hb12=>?_
 .
  refine wk 6 ?_;refine ax 61 (Cn Tryz.func105 (Sq _ _ _ hb)) ?_;refine wk 4 ?_;exact Mw
 refine wk 8 ?_;exact Mw
theorem gE(t:Tac)(K:Di)(hK:NJ K):Ca Tryz.prog 76 [.agg t.cells,.map 0] (Af hNew 0 (.map (kvs .i64 (nm K)))) (.tup [.int .u32 (Dw t K).1,.bool (Dw t K).2]) (Af hNone 0 (.map (kvs .i64 (nm K)))):=by
 refine qK4 (n:=60) Ah Tryz.func76 rfl rfl ?_;refine FL ?_;refine ax 2 (CC 8 1) ?_;refine wk 15 ?_;refine asp 16 (fun hb1=>?_) fun hb1=>?_
 .
  refine wk 6 ?_;refine aq 22 (Oc Ah rfl rfl rfl rfl rfl rfl rfl rfl AF) ?_;refine wk 14 ?_;exact iO
 refine wk 6 ?_;refine asp 27 (fun hb2=>?_) fun hb2=>?_
 .
  refine wk 6 ?_;refine aq 33 (Oc Ah rfl rfl rfl rfl rfl rfl rfl rfl AF) ?_;refine wk 11 ?_;refine aq 40 (Oc Ah rfl rfl rfl rfl rfl rfl rfl rfl AF) ?_;refine wk 12 ?_;refine BM 45 (fun hb3=>?_) fun hb3=>?_
  .
   refine qK7 46 rfl rfl rfl ?_;refine qK7 47 rfl rfl rfl ?_;refine wk 9 ?_;exact iO
  refine wk 4 ?_;refine asp 48 (fun hb4=>?_) fun hb4=>?_
  .
   refine wk 7 ?_;exact iO
  refine wk 8 ?_;refine ax 54 (Cn Tryz.func96 (YU _ _ _ (V0 hK _).1)) ?_;refine wk 15 ?_;exact iO
 refine wk 8 ?_;exact iO
theorem gG(l:List Tac)(hl:GL l)(hn:l.length<=100000):Pu Tryz.prog 56 [CU l] (CU (D4 [] l)):=by
 refine qK5 (n:=51) Ah Tryz.func56 rfl rfl ?_;refine wk 6 ?_;refine ax 10 (On .i64 0 rfl rfl) ?_;refine wk 6 ?_;refine ax 13 (AK Ah (n:=l.length) (m:=l.length) 1 true (hby:=(by show 64*l.length<=_;omega))) ?_;refine wk 10 ?_;refine Ap (γ:=Nat) 2 (fun k=>⟨51,(Aa (Aa (Aa (Aa (Aa AU 3 (.map 0)) 4 (.ref 1 l.length 0 l.length)) 14 (CU l)) 15 (iN l.length)) 16 (iN k)),(Af (Af (A0 2) 0 (.map (kvs .i64 (nm (J4 l k))))) 1 (rt 8 (((D4 [] l).take (k)).map Tac.cells++List.replicate (l.length-(k)) [.int .i64 0,.int .i64 0,.int .i64 0,.int .i64 0,.int .i64 0,.int .i64 0,.int .i64 0,.int .u32 0])))⟩) (fun k=>k<=l.length) (fun k=>l.length-k) 0 (qJ1 Cq (by repeat(first|exact qJ6 _|exact AO _|exact AG Al|refine qJ5 ?_ (by first|rfl|(simp;rfl))|refine AN ?_ Al))) (qZ1 _) (fun _=>B9) ?_;intro k hk;refine wk 5 ?_;refine asp 17 (fun hb1=>?_) fun hb1=>?_
 .
  refine Ba ?_;have hkl:k<l.length:=by simpa using hb1
  obtain⟨x,hx⟩:=Ad hkl;refine wk 6 ?_;refine aq 19 F6 ?_;refine wk 1 ?_;refine ax 6 (DA Ah 2) ?_;refine wk 8 ?_;refine ax 24 (GD (gE x (J4 l k) (dI hl k)) [0] [] rfl Tryz.func76 AF rfl rfl rfl ⟨⟨_,rfl,rfl⟩,trivial⟩ rfl Cf ⟨⟨_,rfl,rfl,rfl⟩,trivial⟩ rfl) ?_;refine wk 6 ?_;refine qV2 (γ:=Tac) (fun u=>⟨51,(Aa (Aa (Aa (Aa (Aa (Aa (Aa AU 3 (.map 0)) 4 (.ref 1 l.length 0 l.length)) 14 (CU l)) 15 (iN l.length)) 16 (iN k)) 5 (iN k)) 6 (pZ 2)),(Af (Af (Af (A0 3) 0 (.map (kvs .i64 (nm (J4 l k))))) 1 (rt 8 (((D4 [] l).take (k)).map Tac.cells++List.replicate (l.length-(k)) [.int .i64 0,.int .i64 0,.int .i64 0,.int .i64 0,.int .i64 0,.int .i64 0,.int .i64 0,.int .u32 0]))) 2 (rf 8 [u.cells]))⟩) (fun u=>u=Dm (J4 l k) x) ?_ ?_
  .
   refine wk 4 ?_;refine asp 27 (fun hb2=>?_) fun hb2=>?_
   .
    refine wk 8 ?_;exact⟨(KD x.d (Dw x (J4 l k)).1),qJ1 B4 Vj,(by simp[Dm, *])⟩
   refine wk 2 ?_;exact⟨x,qJ1 B4 Vj,(by simp[Dm, *])⟩
  intro u hu;refine wk 5 ?_;refine aq 35 (Ae Ah rfl rfl rfl rfl rfl rfl rfl (AL (Cs l []) (qX0 hkl)) rfl (q46 _) Ab) ?_;refine qK6 rfl rfl (AY Ah rfl rfl rfl rfl rfl rfl (AL (Cs l []) (qX0 hkl)) (CH (Cs l []) hkl) rfl Al rfl C1) ?_;refine wk 4 ?_;refine ax 37 (Cn Tryz.func77 (NG _)) ?_;refine wk 8 ?_;refine asp 39 (fun hb3=>?_) fun hb3=>?_
  .
   refine wk 3 ?_;exact uF
  refine wk 8 ?_;refine asp 42 (fun hb4=>?_) fun hb4=>?_
  .
   refine wk 6 ?_;refine qK6 rfl rfl (V3 Ah rfl rfl rfl rfl rfl rfl rfl rfl rfl rfl) ?_;refine wk 2 ?_;exact uF
  refine wk 4 ?_;refine qK6 rfl rfl (f0 Ah rfl rfl rfl rfl rfl rfl rfl rfl rfl) ?_;refine wk 2 ?_;exact uF
 refine Bg ?_;have hge:l.length<=k:=by simpa using hb1
 refine wk 6 ?_;refine qJ0 (.freeze 2 1 rfl rfl (AL (Cs l []) hk)) ?_;refine CE ⟨[_],⟨rfl,trivial⟩,?_,rfl⟩;show AV.lst false _=AV.lst false _;rw[Dg (Cs l []) hge]
theorem gI(f:BFunc)(hf:f.mild):Pu Tryz.prog 41 [.agg f.cells] (.tup [.agg f.fold.cells,.agg f.all.cells]):=by
 refine qK5 (n:=59) Ah Tryz.func41 rfl rfl ?_;refine FL ?_;refine ax 1 (CC 2 0) ?_;refine ax 2 (DA Ah 1) ?_;refine ax 3 (DA Ah 2) ?_;refine wk 8 ?_;refine dx 15 (AK Ah (n:=f.blocks.length) (m:=f.blocks.length) 3 true (hby:=(by show 56*f.blocks.length<=_;have:=hf.2.2.1;omega)) (hm:=ju)) ?_;refine wk 1 ?_;refine dx 4 (DA Ah 4) ?_;refine wk 7 ?_;refine ax 20 (AK Ah (n:=f.blocks.length) (m:=f.blocks.length) 5 true (hby:=(by show 24*f.blocks.length<=_;have:=hf.2.2.1;omega)) (hm:=ju)) ?_;refine wk 1 ?_;refine ax 5 (DA Ah 6) ?_;refine wk 11 ?_;refine Ap (γ:=Nat) 7 (fun k=>⟨59,(Aa (Aa (Aa (Aa (Aa (Aa (Aa (Aa AU 1 (pZ 0)) 2 (pZ 1)) 3 (pZ 2)) 4 (pZ 4)) 5 (pZ 6)) 23 (BK f.blocks)) 24 (iN f.blocks.length)) 25 (iN k)),(Af (Af (Af (Af (Af (Af (Af (A0 7) 0 (rf 2 [f.cells])) 1 (rf 2 [[.int .i64 0,.nil]])) 2 (rf 1 [[.nil]])) 4 (rf 2 [[.int .i64 f.regs,.ref 3 f.blocks.length 0 f.blocks.length]])) 6 (rf 1 [[.ref 5 f.blocks.length 0 f.blocks.length]])) 3 (rt 5 ((((f.blocks.map Block.fold).take (k)).map Block.cells)++List.replicate (f.blocks.length-(k)) [.nil,.int .i64 0,.int .i64 0,.int .i64 0,.int .i64 0]))) 5 (rt 1 ((((List.replicate f.blocks.length (List.replicate f.regs.toNat true)).take (k)).map D3)++List.replicate (f.blocks.length-(k)) [.nil])))⟩) (fun k=>k<=f.blocks.length) (fun k=>f.blocks.length-k) 0 (qJ1 Cq Vj) (qZ1 _) (fun _=>Ac (Ac (Ac (Ac (Ac (B9) rfl) rfl) rfl) rfl) rfl) ?_
 intro k hk;refine wk 5 ?_;refine asp 26 (fun hb1=>?_) fun hb1=>?_
 .
  refine Ba ?_;have hkl:k<f.blocks.length:=by simpa using hb1
  obtain⟨x,hx⟩:=Ad hkl;refine wk 6 ?_;refine aq 28 F6 ?_;refine wk 1 ?_;refine ax 7 (DA Ah 7) ?_;refine wk 7 ?_;refine ax 32 (Cn Tryz.func56 (gG _ (hf.2.2.2 x (q33 hx)).2 (hf.2.2.2 x (q33 hx)).1)) ?_;refine wk 9 ?_;refine aq 38 (Ae Ah rfl rfl rfl rfl rfl rfl rfl (AL (by simp:(f.blocks.map Block.fold).length=f.blocks.length) (qX0 hkl)) rfl (q46 _) Ab) ?_;refine qK6 rfl rfl (AY Ah rfl rfl rfl rfl rfl rfl (AL (by simp:(f.blocks.map Block.fold).length=f.blocks.length) (qX0 hkl)) (CH (by simp:(f.blocks.map Block.fold).length=f.blocks.length) hkl) rfl Al rfl C1) ?_;refine wk 5 ?_;refine ax 41 (AK Ah (n:=f.regs.toNat) (m:=f.regs.toNat) 8 true (hni:=(by have:=hf.1;omega)) (hnj:=(by have:=hf.1;omega)) (hby:=(by show 1*f.regs.toNat<=_;have:=hf.2.1;omega)) (hm:=(by simp only[maxLen];have:=hf.2.1;omega))) ?_
  refine wk 10 ?_;refine Ap (γ:=Nat) 9 (fun j=>⟨59,(Aa (Aa (Aa (Aa (Aa (Aa (Aa (Aa (Aa (Aa (Aa (Aa AU 1 (pZ 0)) 2 (pZ 1)) 3 (pZ 2)) 4 (pZ 4)) 5 (pZ 6)) 23 (BK f.blocks)) 24 (iN f.blocks.length)) 25 (iN k)) 6 (iN k)) 8 (.ref 8 f.regs.toNat 0 f.regs.toNat)) 43 (iN f.regs.toNat)) 44 (iN j)),(Af (Af (Af (Af (Af (Af (Af (Af (A0 9) 0 (rf 2 [f.cells])) 1 (rf 2 [[.int .i64 0,.nil]])) 2 (rf 1 [[.nil]])) 4 (rf 2 [[.int .i64 f.regs,.ref 3 f.blocks.length 0 f.blocks.length]])) 6 (rf 1 [[.ref 5 f.blocks.length 0 f.blocks.length]])) 3 (rt 5 (((f.blocks.map Block.fold).take (k+1)).map Block.cells++List.replicate (f.blocks.length-(k+1)) [.nil,.int .i64 0,.int .i64 0,.int .i64 0,.int .i64 0]))) 5 (rt 1 ((((List.replicate f.blocks.length (List.replicate f.regs.toNat true)).take (k)).map D3)++List.replicate (f.blocks.length-(k)) [.nil]))) 8 (rt 1 ((((List.replicate f.regs.toNat true).take (j)).map Bn)++List.replicate (f.regs.toNat-(j)) [.bool false])))⟩) (fun j=>j<=f.regs.toNat) (fun j=>f.regs.toNat-j) 0 (qJ1 B4 (by repeat(first|exact qJ6 _|exact AO _|exact AG Al|refine qJ5 ?_ (by first|rfl|exact congrArg (fun es=>some (rt 5 es)) (Ct (f:=Block.cells) (x:=x.fold) (by simp:(f.blocks.map Block.fold).length=f.blocks.length) IT))|refine AN ?_ Al))) (qZ1 _) (fun _=>Ac (Ac (Ac (Ac (Ac (Ac (B9) rfl) rfl) rfl) rfl) rfl) rfl) ?_
  intro j hj;refine wk 5 ?_;refine asp 45 (fun hb2=>?_) fun hb2=>?_
  .
   refine Ba ?_;have hjl:j<f.regs.toNat:=by have h:=hb2;simp at h;omega
   refine wk 11 ?_;refine aq 49 (Ae Ah rfl rfl rfl rfl rfl rfl rfl (AL (by simp:(List.replicate f.regs.toNat true).length=f.regs.toNat) (qX0 hjl)) rfl (q46 _) Ab) ?_;refine qK6 rfl rfl (AY Ah rfl rfl rfl rfl rfl rfl (AL (by simp:(List.replicate f.regs.toNat true).length=f.regs.toNat) (qX0 hjl)) (CH (by simp:(List.replicate f.regs.toNat true).length=f.regs.toNat) hjl) rfl Al rfl C1) ?_;refine wk 2 ?_;refine aq 50 (AS rfl rfl hjl (by simp only[maxLen];have:=hf.2.1;omega)) ?_;refine wk 2 ?_;exact tA
  refine Bg ?_;have hge2:f.regs.toNat<=j:=by have h:=hb2;simp at h;omega
  refine wk 1 ?_;refine qJ0 (.freeze 8 8 rfl rfl (AL (by simp:(List.replicate f.regs.toNat true).length=f.regs.toNat) hj)) ?_;refine wk 5 ?_;refine aq 55 (Ae Ah rfl rfl rfl rfl rfl rfl rfl (AL (by simp:(List.replicate f.blocks.length (List.replicate f.regs.toNat true)).length=f.blocks.length) (qX0 hkl)) rfl (q46 _) Ab) ?_;refine qK6 rfl rfl (AY Ah rfl rfl rfl rfl rfl rfl (AL (by simp:(List.replicate f.blocks.length (List.replicate f.regs.toNat true)).length=f.blocks.length) (qX0 hkl)) (CH (by simp:(List.replicate f.blocks.length (List.replicate f.regs.toNat true)).length=f.blocks.length) hkl) rfl Al rfl C1) ?_;refine wk 2 ?_;refine aq 56 (AS rfl rfl hkl ju) ?_;refine wk 2 ?_;exact⟨k+1,qV1 Vh (by repeat(first|exact qJ8 _ _|exact qV0 _ _|refine qJ9 ?_ (by first|rfl|exact congrArg (fun es=>some (rt 5 es)) (Ct (f:=Block.cells) (x:=x.fold) (by simp:(f.blocks.map Block.fold).length=f.blocks.length) IT)|exact congrArg (fun es=>some (rt 1 es)) (by rw[<-Ct (f:=D3) (x:=List.replicate f.regs.toNat true) (by simp:(List.replicate f.blocks.length (List.replicate f.regs.toNat true)).length=f.blocks.length) (by simp[hkl])];exact congrArg (fun b=>List.set _ _ [AV.lst false b]) (Dg (f:=Bn) (by simp:(List.replicate f.regs.toNat true).length=f.regs.toNat) hge2))) rfl rfl)),hkl,by omega⟩
 refine Bg ?_;have hge:f.blocks.length<=k:=by simpa using hb1
 refine wk 2 ?_;refine qJ0 (.freezeCell 4 0 1 3 rfl rfl rfl rfl (AL (by simp:(f.blocks.map Block.fold).length=f.blocks.length) hk) Al) ?_;refine qJ0 (.freezeCell 6 0 0 5 rfl rfl rfl rfl (AL (by simp:(List.replicate f.blocks.length (List.replicate f.regs.toNat true)).length=f.blocks.length) hk) Al) ?_;refine wk 7 ?_;refine⟨[_,_],⟨⟨_,_,_,_,rfl,rfl,.ptr _ _ _ _ _ _ _ _ rfl rfl rfl,rfl⟩,⟨_,_,_,_,rfl,rfl,.ptr _ _ _ _ _ _ _ _ rfl rfl rfl,rfl⟩,trivial⟩,?_,rfl⟩;have e1:=Dg (f:=Block.cells) (z:=[.nil,.int .i64 0,.int .i64 0,.int .i64 0,.int .i64 0]) (by simp:(f.blocks.map Block.fold).length=f.blocks.length) hge;exact sY
end Go.Proofs.YtbbfelelocccmaaGreat.Sv
