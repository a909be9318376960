/-
  AN EVALUATOR FOR INPUTS THAT ARE KNOWN (5): code, and calls. Own work, over no program.
-/
import Derived.Test.YtbbfelelocccmaaGreatPOptimizeSplits4
import Derived.Test.YtbbfelelocccmaaGreatPOptimizeSplits3
import Derived.Maps.RangeRun
set_option linter.unusedVariables false
set_option linter.unusedSimpArgs false
set_option maxRecDepth 100000
set_option maxHeartbeats 2000000
namespace Go.Proofs.YtbbfelelocccmaaGreat.Sv
open Go
abbrev Ht:=List (Nat×List AV×AV)
def Fm(P:Program)(lg:Ht):Prop:=∀p∈lg,APure P p.1 p.2.1 (fun r=>r=p.2.2)
abbrev XCall:=Nat->List AV->Ab->Nat->Ht->Option (AV×Ab×Nat×Ht)
def XCall.Ok(P:Program)(cl:XCall):Prop:=∀f xs h k lg r h' k' lg',cl f xs h k lg=some (r,h',k',lg')->(∀p∈lg,p∈lg')/\(Fm P lg'->ACall P f xs h (fun r1 h1=>r1=r/\h1=h'))
def eV(mt:Nat->String->Option Nat)(ct:Nat->Option (List AV->Option AV))(o:Op)(e:As):Option (Nat×List AV×AV):=
  match o with
  | .call ⟨.value (.func f),args,_⟩=>match ct f with
    | some q=>match AR e args.toList with
      | some xs=>match xs.all AV.isPure,q xs with
        | true,some r=>some (f,xs,r)
        | _,_=>none
      | none=>none
    | none=>none
  | _=>none
def Wp(e:As):List Operand->List Nat
  | []=>[]
  | x::l=>(match Ak e x with | some y=>QF y | none=>[])++Wp e l
def ctFz(ct:Nat->Option (List AV->Option AV))(n k:Nat)(o:Op)(e:As)(h:Ab):As×Ab:=
  match o with
  | .call ⟨.value (.func f),args,_⟩=>match ct f with
    | some _=>Tj n k (QH h 3 (Wp e args.toList)) e h
    | none=>(e,h)
  | _=>(e,h)
theorem U3{ct:Nat->Option (List AV->Option AV)}{n k:Nat}{o:Op}{e e':As}{h h':Ab}(hx:ctFz ct n k o e h=(e',h')):Ghost ⟨n,e,h⟩ ⟨n,e',h'⟩:=by
 have h0:Ghost ⟨n,e,h⟩ ⟨n,e,h⟩:=Ghost.of_sub (Sub.mk' (ESub.refl _) (HSub.refl _));unfold ctFz at hx;split at hx
 . split at hx
   . exact EM _ hx
   . cases hx
     exact h0
 . cases hx
   exact h0
theorem TO{P:Program}{ops:Array Oper}{l:List Oper}{s s':Ai}{K:Ai->Prop}(hg:Ghost s s')(h:AOps P ops l s' K):AOps P ops l s K:=fun H ι a w hs=>by
 obtain⟨H',ι',h1,h2⟩:=hg H ι a w hs;have hpost: ∀e a2 w2,Post H' ι' s'.h w (B4 K fun _ _=>False) e a2 w2->Post H ι s.h w (B4 K fun _ _=>False) e a2 w2:=fun e a2 w2 hp=>Post.step hs.heap h1.heap h2 hp
 have key: ∀(l:List Oper) (a1:Act) (w1:World),wpList P ops (Post H' ι' s'.h w (B4 K fun _ _=>False)) l a1 w1->wpList P ops (Post H ι s.h w (B4 K fun _ _=>False)) l a1 w1:=by
  exact n5
 exact key l a w (h H' ι' a w h1)
def LU(P:Program)(T:Nat->Option Ar)(mt:Nat->String->Option Nat)(ct:Nat->Option (List AV->Option AV))(cl:XCall)(ops:Array Oper)(n:Nat):List Oper->As->Ab->Nat->Ht->Option (As×Ab×Nat×Ht)
  | [],e,h,k,lg=>some (e,h,k,lg)
  | o::l,e,h,k,lg=>match AJ ops o e with
    | some false=>match o.dst with
      | some d=>match Nat.blt d n with
        | true=>LU P T mt ct cl ops n l (Aa e d (.tup [])) h k lg
        | false=>none
      | none=>LU P T mt ct cl ops n l e h k lg
    | some true=>match o.dst with
      | some d=>match Nat.blt d n with
        | true=>match dF P T o.op e h with
          | some (_,r)=>LU P T mt ct cl ops n l (Aa e d r) h k lg
          | none=>match WF P T o.dst o.op e h k with
            | some (_,W,some r,k')=>LU P T mt ct cl ops n l (Aa e d r) (hputs h W) k' lg
            | some (_,_,none,_)=>none
            | none=>match ctFz ct n k o.op e h with
             |(e0,h0)=>match AJ ops o e0,eV mt ct o.op e0 with
              | some true,some (f,xs,r)=>match NL P f with
                | some _=>LU P T mt ct cl ops n l (Aa e0 d r) h0 k ((f,xs,r)::lg)
                | none=>none
              | _,_=>match Kq mt o.op e with
                | some (f,xs)=>match NL P f,cl f xs h k lg with
                  | some _,some (r,h',k',lg')=>LU P T mt ct cl ops n l (Aa e d r) h' k' lg'
                  | _,_=>none
                | none=>none
        | false=>none
      | none=>match WF P T o.dst o.op e h k with
        | some (_,W,none,k')=>LU P T mt ct cl ops n l e (hputs h W) k' lg
        | some (_,_,some _,_)=>none
        | none=>match Kq mt o.op e with
          | some (f,xs)=>match NL P f,cl f xs h k lg with
            | some _,some (r,h',k',lg')=>LU P T mt ct cl ops n l e h' k' lg'
            | _,_=>none
          | none=>none
    | none=>none
section
variable {P : Program} {T : Nat -> Option Ar} {mt : Nat -> String -> Option Nat} {ct : Nat -> Option (List AV -> Option AV)} {cl : XCall} {ops : Array Oper} {n : Nat}
theorem OCallR.mono{o:Oper}{e:As}{h:Ab}{R R':AV->Ab->Prop}(hc:OCallR P o e h R)(hr: ∀r h',R r h'->R' r h'):OCallR P o e h R':=fun H ι a w n Q hs=>
 Oper.wp_mono (fun a' w' ⟨v,r,h',H',ι',e1,e2⟩=>⟨v,r,h',H',ι',hr _ _ e1,e2⟩) (hc H ι a w n Q hs)
theorem P6{o:Oper}{e:As}{h:Ab}{f:Nat}{xs:List AV}{r:AV}{fn:Func}(hc:eV mt ct o.op e=some (f,xs,r))(hf:P.funcs[f]?=some fn)(hnm:(fn.name== "runtime.NumGoroutine")=false)(hb:fn.body.isSome=true)(hp:APure P f xs (fun r'=>r'=r)):OLoc P o e h [] [] (some r):=by
 unfold eV at hc;split at hc
 . rename_i f' args tys ho;split at hc
   . rename_i q h1;split at hc
     . rename_i ys h2;split at hc
       . rename_i r' h3 h4;simp only[Option.some.injEq,Prod.mk.injEq]at hc;obtain⟨rfl,rfl,rfl⟩:=hc;exact ae ho hf hnm hb h2 h3 hp
       . cases hc
     . cases hc
   . cases hc
 . cases hc
theorem DN(hT:Cn P T)(hmt:aB P mt)(hcl:cl.Ok P): ∀(l:List Oper) {e e':As} {h h':Ab} {k k':Nat} {lg lg':Ht},LU P T mt ct cl ops n l e h k lg=some (e',h',k',lg')->
 (∀p∈lg,p∈lg')/\(Fm P lg'->∀K:Ai->Prop,K ⟨n,e',h'⟩->AOps P ops l ⟨n,e,h⟩ K)
 | [],e,e',h,h',k,k',lg,lg',hx=>by
  simp only[LU,Option.some.injEq,Prod.mk.injEq]at hx;obtain⟨rfl,rfl,rfl,rfl⟩:=hx;exact⟨fun p hp=>hp,fun _ K hK=>AOps.nil hK⟩
 | o::l,e,e',h,h',k,k',lg,lg',hx=>by
  unfold LU at hx;split at hx
  . rename_i hg;split at hx
    . rename_i d hd;split at hx
      . rename_i hb;obtain⟨a1,a2⟩:=DN hT hmt hcl l hx;exact⟨a1,fun hl K hK=>AOps.k d hd hb hg (a2 hl K hK)⟩
      . cases hx
    . rename_i hd;obtain⟨a1,a2⟩:=DN hT hmt hcl l hx;exact⟨a1,fun hl K hK=>fi hd hg (a2 hl K hK)⟩
  . rename_i hg;split at hx
    . rename_i d hd;split at hx
      . rename_i hb;split at hx
        . rename_i R r hq;obtain⟨a1,a2⟩:=DN hT hmt hcl l hx;exact⟨a1,fun hl K hK=>AOps.s d hd hb hg (Pc hT hq) (a2 hl K hK)⟩
        . split at hx
          . rename_i R W r k1 hv;obtain⟨a1,a2⟩:=DN hT hmt hcl l hx;exact⟨a1,fun hl K hK=>AOps.x d hd hb hg (Iq hT hv) (a2 hl K hK)⟩
          . cases hx
          . generalize hfz:ctFz ct n k o.op e h=eh at hx;obtain⟨e0,h0⟩:=eh;have hgst:=U3 hfz;simp only at hx;split at hx
            . rename_i f xs r hg0 hc;split at hx
              . rename_i fc hfn;obtain⟨fn,c⟩:=fc;obtain⟨f1,f2,f3⟩:=EN hfn;obtain⟨a1,a2⟩:=DN hT hmt hcl l hx;refine⟨fun p hp=>a1 p (by simp[hp]),fun hl K hK=>TO hgst (AOps.x d hd hb hg0 (P6 hc f1 f3 (by rw[f2];rfl) (hl (f,xs,r) (a1 _ (by simp)))) (a2 hl K hK))⟩
              . cases hx
            . split at hx
              . rename_i f xs hc;split at hx
                . rename_i fc r h1 k1 lg1 hfn hcall;obtain⟨fn,c⟩:=fc;obtain⟨f1,f2,f3⟩:=EN hfn;obtain⟨a1,a2⟩:=DN hT hmt hcl l hx;obtain⟨b1,b2⟩:=hcl _ _ _ _ _ _ _ _ _ hcall;refine⟨fun p hp=>a1 p (b1 p hp),fun hl K hK=>AOps.inn d hd hb hg (OCallR.mono (Jd hmt hc f1 f3 (by rw[f2];rfl) (b2 (fun p hp=>hl p (a1 p hp)))) fun r' h'' hh=>?_)⟩;obtain⟨rfl,rfl⟩:=hh;exact a2 hl K hK
                . cases hx
              . cases hx
      . cases hx
    . rename_i hd;split at hx
      . rename_i R W k1 hv;obtain⟨a1,a2⟩:=DN hT hmt hcl l hx;exact⟨a1,fun hl K hK=>AOps.w hd hg (Iq hT hv) (a2 hl K hK)⟩
      . cases hx
      . split at hx
        . rename_i f xs hc;split at hx
          . rename_i fc r h1 k1 lg1 hfn hcall;obtain⟨fn,c⟩:=fc;obtain⟨f1,f2,f3⟩:=EN hfn;obtain⟨a1,a2⟩:=DN hT hmt hcl l hx;obtain⟨b1,b2⟩:=hcl _ _ _ _ _ _ _ _ _ hcall;refine⟨fun p hp=>a1 p (b1 p hp),fun hl K hK=>YC hd hg (OCallR.mono (Jd hmt hc f1 f3 (by rw[f2];rfl) (b2 (fun p hp=>hl p (a1 p hp)))) fun r' h'' hh=>?_)⟩;obtain⟨rfl,rfl⟩:=hh;exact a2 hl K hK
          . cases hx
        . cases hx
  . cases hx
end
def AV.eqS:AV->AV->Bool
  | .bool a,.bool b=>a==b
  | .int k a,.int k' b=>decide (k=k')&&decide (a=b)
  | .nil,.nil=>true
  | .nilp,.nilp=>true
  | .ref b n o l,.ref b' n' o' l'=>Nat.beq b b'&&(Nat.beq n n'&&(Nat.beq o o'&&Nat.beq l l'))
  | .ptr b n o l,.ptr b' n' o' l'=>Nat.beq b b'&&(Nat.beq n n'&&(Nat.beq o o'&&Nat.beq l l'))
  | .map b,.map b'=>Nat.beq b b'
  | _,_=>false
theorem bn{x y:AV}(h:x.eqS y=true):x=y:=by
 unfold AV.eqS at h;split at h
 . rw[beq_iff_eq]at h;rw[h]
 . rw[Bool.and_eq_true,decide_eq_true_eq,decide_eq_true_eq]at h;rw[h.1,h.2]
 . rfl
 . rfl
 . rw[Bool.and_eq_true,Bool.and_eq_true,Bool.and_eq_true]at h;obtain⟨h1,h2,h3,h4⟩:=h;rw[Nat.eq_of_beq_eq_true h1,Nat.eq_of_beq_eq_true h2,Nat.eq_of_beq_eq_true h3,Nat.eq_of_beq_eq_true h4]
 . rw[Bool.and_eq_true,Bool.and_eq_true,Bool.and_eq_true]at h;obtain⟨h1,h2,h3,h4⟩:=h;rw[Nat.eq_of_beq_eq_true h1,Nat.eq_of_beq_eq_true h2,Nat.eq_of_beq_eq_true h3,Nat.eq_of_beq_eq_true h4]
 . rw[Nat.eq_of_beq_eq_true h]
 . cases h
def eM:List AV->List AV->Bool
  | [],[]=>true
  | x::xs,y::ys=>x.eqS y&&eM xs ys
  | _,_=>false
theorem PX: ∀{xs ys:List AV},eM xs ys=true->xs=ys
 | [],[],_=>rfl
 | x::xs,y::ys,h=>by
  simp only[eM,Bool.and_eq_true]at h;rw[bn h.1,PX h.2]
 | [],_::_,h=>by cases h
 | _::_,[],h=>by cases h
def eN:List (List AV)->List (List AV)->Bool
  | [],[]=>true
  | x::xs,y::ys=>eM x y&&eN xs ys
  | _,_=>false
theorem PY: ∀{xs ys:List (List AV)},eN xs ys=true->xs=ys
 | [],[],_=>rfl
 | x::xs,y::ys,h=>by
  simp only[eN,Bool.and_eq_true]at h;rw[PX h.1,PY h.2]
 | [],_::_,h=>by cases h
 | _::_,[],h=>by cases h
def sameAt(h h':Ab)(b:Nat):Bool:=match h b,h' b with
  | some (.row p sz es),some (.row p' sz' es')=>p==p'&&(Nat.beq sz sz'&&eN es es')
  | some .free,some .free=>true
  | _,_=>false
theorem Sb{h h':Ab}{b:Nat}(e:sameAt h h' b=true):h b=h' b:=by
 unfold sameAt at e;split at e
 . rename_i h1 h2;rw[Bool.and_eq_true,Bool.and_eq_true,beq_iff_eq]at e;rw[h1,h2,e.1,Nat.eq_of_beq_eq_true e.2.1,PY e.2.2]
 . rename_i h1 h2;rw[h1,h2]
 . cases e
def cy(h h':Ab):List Nat->List (Nat×AObj)
  | []=>[]
  | b::l=>match sameAt h h' b,h' b with
    | false,some q=>(b,q)::cy h h' l
    | _,_=>cy h h' l
theorem Ql{h h':Ab}{L0:List Nat}: ∀{l:List Nat},(∀b∈l,b∈L0)->(cy h h' l).all (fun p=>mem L0 p.1)=true
 | [],_=>rfl
 | b::l,hh=>by
  unfold cy;split
  . rw[List.all_cons,Bool.and_eq_true];exact⟨mem_iff.2 (hh b (by simp)),Ql fun c hc=>hh c (by simp[hc])⟩
  . exact Ql fun c hc=>hh c (by simp[hc])
theorem wOf_put{h h':Ab}{b:Nat}{q:AObj}(hq:h' b=some q): ∀(l:List Nat) (h0:Ab),h0 b=h b\/h0 b=some q->b∈l\/h0 b=some q->hputs h0 (cy h h' l) b=some q
 | [],h0,_,hh=>by
  rcases hh with hh | hh
  . simp at hh
  . exact hh
 | c::l,h0,ha,hh=>by
  unfold cy;split
  . rename_i q' hs hq';show hputs (hput h0 c q') (cy h h' l) b=some q
    by_cases hb:b=c
    . subst hb;rw[hq]at hq'
      cases hq'
      exact wOf_put hq l _ (.inr (Ap _ _ _)) (.inr (Ap _ _ _))
    . refine wOf_put hq l _ (by rw[AF _ _ hb];exact ha) ?_;rcases hh with hh | hh
      . simp[hb]at hh;exact .inl hh
      . exact .inr (by rw[AF _ _ hb];exact hh)
  . rename_i hn;refine wOf_put hq l _ ha ?_
    by_cases hb:b=c
    . subst hb;refine .inr ?_;rcases ha with ha | ha
      . cases e:sameAt h h' b with
        | true=>rw[ha,Sb e,hq]
        | false=>exact absurd hq (hn _ e)
      . exact ha
    . rcases hh with hh | hh
      . simp[hb]at hh;exact .inl hh
      . exact .inr hh
theorem Ot{p:Nat->Prop}: ∀{L:List Nat},(∀b∈L,p b)->AllL L p
 | [],_=>trivial
 | b::L,h=>⟨h b (by simp),Ot fun c hc=>h c (by simp[hc])⟩
def Il(h:Ab)(L:List Nat):List Nat->Bool
  | []=>true
  | b::l=>match h b with
    | some q=>q.avoid (mem L)&&Il h L l
    | none=>false
theorem GD{h:Ab}{L:List Nat}: ∀{l:List Nat},Il h L l=true->∀b∈l,∃q,h b=some q/\q.avoid (mem L)=true
 | c::l,hh,b,hb=>by
  unfold Il at hh;split at hh
  . rename_i q hq;rw[Bool.and_eq_true]at hh;rcases List.mem_cons.1 hb with rfl | hb
    . exact⟨q,hq,hh.1⟩
    . exact GD hh.2 b hb
  . cases hh
theorem XM{h:Ab}{L0 F:List Nat}(hf: ∀b∈F,h b=some .free):hres h (L0++F)=hres h L0:=by
 funext b;unfold hres
 cases e0:mem L0 b with
 | true=>
  have:mem (L0++F) b=true:=mem_iff.2 (List.mem_append.2 (.inl (mem_iff.1 e0)));rw[this]
 | false=>
  cases e1:mem (L0++F) b with
  | false=>rfl
  | true=>
   rcases List.mem_append.1 (mem_iff.1 e1)with h1 | h1
   . rw[mem_iff.2 h1]at e0;cases e0
   . rw[cond_true,cond_false];exact hf b h1
def Gh(h:Ab)(k:Nat)(xs:List AV):List Nat:=bif xs.all AV.isPure then []else(List.range k).filter fun b=>(h b).isSome
def Fj(k k':Nat)(h':Ab):List Nat:=(List.range' k (k'-k)).filter fun b=>(h' b).isSome
def Ro(h h':Ab)(k k':Nat)(xs:List AV)(r:AV):Bool:=
  (Fj k k' h').all (FU h)&&(xs.all (AV.avoid (mem (Gh h k xs++Fj k k' h')))&&(Il h (Gh h k xs++Fj k k' h') (Gh h k xs++Fj k k' h')&&
    (Il h' (Gh h k xs++Fj k k' h') (Gh h k xs++Fj k k' h')&&r.avoid (mem (Gh h k xs++Fj k k' h')))))
def N3(o:Op)(e:As):Option (Nat×List AV):=
  match o with
  | .call ⟨.value (.func f),args,_⟩=>match AR e args.toList with
    | some xs=>some (f,xs)
    | none=>none
  | _=>none
section
variable {P : Program} {o : Oper} {e : As} {h : Ab}
theorem TA{f:Nat}{xs:List AV}{fn:Func}{k k':Nat}{h':Ab}{r:AV}(hc:N3 o.op e=some (f,xs))(hf:P.funcs[f]?=some fn)(hnm:(fn.name== "runtime.NumGoroutine")=false)(hb:fn.body.isSome=true)
 (hfit:Ro h h' k k' xs r=true) (hcall:ACall P f xs (hres h (Gh h k xs)) (fun r1 h1=>r1=r/\h1=h')):
 OLoc P o e h (Gh h k xs++Fj k k' h') (cy h h' (Gh h k xs++Fj k k' h')) (some r):=by
 unfold Ro at hfit;rw[Bool.and_eq_true,Bool.and_eq_true,Bool.and_eq_true,Bool.and_eq_true]at hfit;obtain⟨c1,c2,c3,c4,c5⟩:=hfit;unfold N3 at hc;split at hc
 . rename_i f' args tys ho;split at hc
   . rename_i ys hx;simp only[Option.some.injEq,Prod.mk.injEq]at hc;obtain⟨rfl,rfl⟩:=hc;refine KW (hc:=hres h (Gh h k ys)) (hw:=h') _ _ ho hf hnm hb hx c2 (Ot (GD c3)) (Ql fun b hb=>hb) (XM fun b hb=>CH (List.all_eq_true.1 c1 b hb)) (Ot fun b hb=>?_) c5 (hcall.mono fun r1 h1 hh=>?_)
     . obtain⟨q,q1,q2⟩:=GD c4 b hb;exact⟨q,q1,wOf_put q1 _ _ (.inl rfl) (.inl hb),q2⟩
     . obtain⟨rfl,rfl⟩:=hh;exact⟨rfl,HSub.refl _⟩
   . cases hc
 . cases hc
end
def HI(P:Program)(T:Nat->Option Ar)(mt:Nat->String->Option Nat)(ct:Nat->Option (List AV->Option AV))(cl:XCall)(ops:Array Oper)(n:Nat):List Oper->As->Ab->Nat->Ht->List (List Nat×List Nat)->Option (As×Ab×Nat×Ht)
  | [],e,h,k,lg,acc=>match cA ops acc with
    | true=>some (e,h,k,lg)
    | false=>none
  | o::l,e,h,k,lg,acc=>match AJ ops o e with
    | some false=>match o.dst with
      | some d=>match Nat.blt d n with
        | true=>HI P T mt ct cl ops n l (Aa e d (.tup [])) h k lg (acc++[([],[])])
        | false=>none
      | none=>HI P T mt ct cl ops n l e h k lg (acc++[([],[])])
    | some true=>match o.dst with
      | some d=>match Nat.blt d n with
        | true=>match dF P T o.op e h with
          | some (R,r)=>HI P T mt ct cl ops n l (Aa e d r) h k lg (acc++[(R,[])])
          | none=>match WF P T o.dst o.op e h k with
            | some (R,W,some r,k')=>HI P T mt ct cl ops n l (Aa e d r) (hputs h W) k' lg (acc++[(R,W.map (·.1))])
            | some (_,_,none,_)=>none
            | none=>match eV mt ct o.op e with
              | some (f,xs,r)=>match NL P f with
                | some _=>HI P T mt ct cl ops n l (Aa e d r) h k ((f,xs,r)::lg) (acc++[([],[])])
                | none=>none
              | none=>match N3 o.op e with
                | some (f,xs)=>match NL P f,cl f xs (hres h (Gh h k xs)) k lg with
                  | some _,some (r,h',k',lg')=>match Ro h h' k k' xs r with
                    | true=>HI P T mt ct cl ops n l (Aa e d r) (hputs h (cy h h' (Gh h k xs++Fj k k' h'))) k' lg' (acc++[(Gh h k xs++Fj k k' h',(cy h h' (Gh h k xs++Fj k k' h')).map (·.1))])
                    | false=>none
                  | _,_=>none
                | none=>none
        | false=>none
      | none=>match WF P T o.dst o.op e h k with
        | some (R,W,none,k')=>HI P T mt ct cl ops n l e (hputs h W) k' lg (acc++[(R,W.map (·.1))])
        | _=>none
    | none=>none
section
variable {P : Program} {T : Nat -> Option Ar} {mt : Nat -> String -> Option Nat} {ct : Nat -> Option (List AV -> Option AV)} {cl : XCall} {ops : Array Oper} {n : Nat}
theorem fg{o:Oper}{rest:List Oper}{e:As}{h:Ab}{acc:List (List Nat×List Nat)}{K:Ai->Prop}(hd:o.dst=none)(hg:AJ ops o e=some false)(hr:DOps P ops n rest e h (acc++[([],[])]) K):DOps P ops n (o::rest) e h acc K:=by
 have:=On (P:=P) (ops:=ops) (n:=n) (e:=e) (h:=h) (acc:=acc) (K:=K) (o:=o) (rest:=rest) hg (fun t e=>by rw[hd]at e;cases e);rw[hd]at this;exact this hr
theorem xDops_spec(hT:Cn P T)(hcl:cl.Ok P): ∀(l:List Oper) {e e':As} {h h':Ab} {k k':Nat} {lg lg':Ht} {acc:List (List Nat×List Nat)},HI P T mt ct cl ops n l e h k lg acc=some (e',h',k',lg')->
 (∀p∈lg,p∈lg')/\(Fm P lg'->∀K:Ai->Prop,K ⟨n,e',h'⟩->DOps P ops n l e h acc K)
 | [],e,e',h,h',k,k',lg,lg',acc,hx=>by
  unfold HI at hx;split at hx
  . rename_i hc;simp only[Option.some.injEq,Prod.mk.injEq]at hx;obtain⟨rfl,rfl,rfl,rfl⟩:=hx;exact⟨fun p hp=>hp,fun _ K hK=>DOps.nil hc hK⟩
  . cases hx
 | o::l,e,e',h,h',k,k',lg,lg',acc,hx=>by
  unfold HI at hx;split at hx
  . rename_i hg;split at hx
    . rename_i d hd;split at hx
      . rename_i hb;obtain⟨a1,a2⟩:=xDops_spec hT hcl l hx;exact⟨a1,fun hl K hK=>Ve d hd hb hg (a2 hl K hK)⟩
      . cases hx
    . rename_i hd;obtain⟨a1,a2⟩:=xDops_spec hT hcl l hx;exact⟨a1,fun hl K hK=>fg hd hg (a2 hl K hK)⟩
  . rename_i hg;split at hx
    . rename_i d hd;split at hx
      . rename_i hb;split at hx
        . rename_i R r hq;obtain⟨a1,a2⟩:=xDops_spec hT hcl l hx;exact⟨a1,fun hl K hK=>DOps.s d hd hb hg (Pc hT hq) (a2 hl K hK)⟩
        . split at hx
          . rename_i R W r k1 hv;obtain⟨a1,a2⟩:=xDops_spec hT hcl l hx;exact⟨a1,fun hl K hK=>DOps.x d hd hb hg (Iq hT hv) (a2 hl K hK)⟩
          . cases hx
          . split at hx
            . rename_i f xs r hc;split at hx
              . rename_i fc hfn;obtain⟨fn,c⟩:=fc;obtain⟨f1,f2,f3⟩:=EN hfn;obtain⟨a1,a2⟩:=xDops_spec hT hcl l hx;refine⟨fun p hp=>a1 p (by simp[hp]),fun hl K hK=>DOps.x d hd hb hg (P6 hc f1 f3 (by rw[f2];rfl) (hl (f,xs,r) (a1 _ (by simp)))) (a2 hl K hK)⟩
              . cases hx
            . split at hx
              . rename_i f xs hc;split at hx
                . rename_i fc r h1 k1 lg1 hfn hcall;obtain⟨fn,c⟩:=fc;obtain⟨f1,f2,f3⟩:=EN hfn;split at hx
                  . rename_i hfit;obtain⟨a1,a2⟩:=xDops_spec hT hcl l hx;obtain⟨b1,b2⟩:=hcl _ _ _ _ _ _ _ _ _ hcall;exact⟨fun p hp=>a1 p (b1 p hp),fun hl K hK=>DOps.x d hd hb hg (TA hc f1 f3 (by rw[f2];rfl) hfit (b2 (fun p hp=>hl p (a1 p hp)))) (a2 hl K hK)⟩
                  . cases hx
                . cases hx
              . cases hx
      . cases hx
    . rename_i hd;split at hx
      . rename_i R W k1 hv;obtain⟨a1,a2⟩:=xDops_spec hT hcl l hx;exact⟨a1,fun hl K hK=>DOps.w hd hg (Iq hT hv) (a2 hl K hK)⟩
      . cases hx
  . cases hx
end
def I7(T:Nat->Option Ar)(e:As)(h:Ab):List ResultVar->Option (List AV)
  | []=>some []
  | .tmp t::rs=>match e t,I7 T e h rs with
    | some x,some xs=>some (x::xs)
    | _,_=>none
  | .cell a t::rs=>match e a,T t with
    | some p,some i=>match VU h p with
      | some (_,cs)=>match H4 i cs,I7 T e h rs with
        | some x,some xs=>some (x::xs)
        | _,_=>none
      | none=>none
    | _,_=>none
theorem EF{T:Nat->Option Ar}{n:Nat}{e:As}{h:Ab}: ∀{rs:List ResultVar} {xs:List AV},I7 T e h rs=some xs->Gy T ⟨n,e,h⟩ rs xs
 | [],xs,hx=>by simp[I7]at hx;subst hx;trivial
 | .tmp t::rs,xs,hx=>by
  unfold I7 at hx;split at hx
  . rename_i x ys h1 h2;simp only[Option.some.injEq]at hx;subst hx;exact⟨h1,EF h2⟩
  . cases hx
 | .cell a t::rs,xs,hx=>by
  unfold I7 at hx;split at hx
  . rename_i p i h1 h2;split at hx
    . rename_i R cs h3;split at hx
      . rename_i x ys h4 h5;simp only[Option.some.injEq]at hx;subst hx;exact⟨⟨p,i,R,cs,h1,h2,Nb h3,h4⟩,EF h5⟩
      . cases hx
    . cases hx
  . cases hx
def Lb:Exit->Bool
  | .normal | .ret=>true
  | _=>false
abbrev ql:=Option (Exit×As×Ab×Nat×Ht)
def Kx(P:Program)(T:Nat->Option Ar)(mt:Nat->String->Option Nat)(ct:Nat->Option (List AV->Option AV))(fz:Nat->Nat->Option Nat):Nat->Nat->Code->As->Ab->Nat->Ht->ql
  | 0,_,_,_,_,_,_=>none
  | g+1,n,c,e,h,k,lg=>match c with
    | .skip=>some (.normal,e,h,k,lg)
    | .label _=>some (.normal,e,h,k,lg)
    | .exit id=>some (.exit id,e,h,k,lg)
    | .ret=>some (.ret,e,h,k,lg)
    | .seq a b=>match Kx P T mt ct fz g n a e h k lg with
      | some (x,e1,h1,k1,lg1)=>match x with
        | .normal=>Kx P T mt ct fz g n b e1 h1 k1 lg1
        | x=>some (x,e1,h1,k1,lg1)
      | none=>none
    | .cond (.tmp t) a b=>match e t with
      | some (.bool true)=>Kx P T mt ct fz g n a e h k lg
      | some (.bool false)=>Kx P T mt ct fz g n b e h k lg
      | _=>none
    | .block id b=>match Kx P T mt ct fz g n b e h k lg with
      | some (x,e1,h1,k1,lg1)=>match x with
        | .exit id'=>match Nat.beq id' id with
          | true=>some (.normal,e1,h1,k1,lg1)
          | false=>some (.exit id',e1,h1,k1,lg1)
        | x=>some (x,e1,h1,k1,lg1)
      | none=>none
    | .loop b=>match Kx P T mt ct fz g n b e h k lg with
      | some (x,e1,h1,k1,lg1)=>match x with
        | .normal=>Kx P T mt ct fz g n (.loop b) e1 h1 k1 lg1
        | x=>some (x,e1,h1,k1,lg1)
      | none=>none
    | .scope b=>match Kx P T mt ct fz g n b e h k lg with
      | some (x,e1,h1,k1,lg1)=>match x with
        | .goto _=>none
        | x=>some (x,e1,h1,k1,lg1)
      | none=>none
    | .region id ops dr=>(match Tk fz n id k e h with
      |(e0,h0)=>match dr with
      | false=>match LU P T mt ct (fun f xs h k lg=>match NL P f with
          | some (fn,c)=>match Kx P T mt ct fz g (xs.length+(fn.ntmps-xs.length)) c (GE xs) h k lg with
            | some (x,e1,h1,k1,lg1)=>match Lb x,I7 T e1 h1 fn.results.toList with
              | true,some ys=>some (Fh ys,h1,k1,lg1)
              | _,_=>none
            | none=>none
          | none=>none) ops n ops.toList e0 h0 k lg with
        | some (e1,h1,k1,lg1)=>some (.normal,e1,h1,k1,lg1)
        | none=>none
      | true=>match HI P T mt ct (fun f xs h k lg=>match NL P f with
          | some (fn,c)=>match Kx P T mt ct fz g (xs.length+(fn.ntmps-xs.length)) c (GE xs) h k lg with
            | some (x,e1,h1,k1,lg1)=>match Lb x,I7 T e1 h1 fn.results.toList with
              | true,some ys=>some (Fh ys,h1,k1,lg1)
              | _,_=>none
            | none=>none
          | none=>none) ops n ops.toList e0 h0 k lg []with
        | some (e1,h1,k1,lg1)=>some (.normal,e1,h1,k1,lg1)
        | none=>none)
    | _=>none
def xCl(P:Program)(T:Nat->Option Ar)(mt:Nat->String->Option Nat)(ct:Nat->Option (List AV->Option AV))(fz:Nat->Nat->Option Nat)(g:Nat):XCall:=fun f xs h k lg=>match NL P f with
  | some (fn,c)=>match Kx P T mt ct fz g (xs.length+(fn.ntmps-xs.length)) c (GE xs) h k lg with
    | some (x,e1,h1,k1,lg1)=>match Lb x,I7 T e1 h1 fn.results.toList with
      | true,some ys=>some (Fh ys,h1,k1,lg1)
      | _,_=>none
    | none=>none
  | none=>none
def Hu(x:Exit)(s:Ai):Exit->Ai->Prop:=fun x1 s1=>x1=x/\s1=s
section
variable {P : Program} {T : Nat -> Option Ar} {mt : Nat -> String -> Option Nat} {ct : Nat -> Option (List AV -> Option AV)} {fz : Nat -> Nat -> Option Nat}
theorem LZ{x:Exit}{s s1:Ai}{x1:Exit}{K:Ai->Prop}{Q:Exit->Ai->Prop}(h:Hu x s x1 s1)(hn:x= .normal->K s)(ho:x≠ .normal->Q x s):B4 K Q x1 s1:=by
 obtain⟨rfl,rfl⟩:=h
 cases x1 with
 | normal=>exact hn rfl
 | _=>exact ho (fun h=>by cases h)
theorem gA(hT:Cn P T){g:Nat}(ih: ∀n c e h k lg x e' h' k' lg',Kx P T mt ct fz g n c e h k lg=some (x,e',h',k',lg')->(∀p∈lg,p∈lg')/\(Fm P lg'->AGo P c ⟨n,e,h⟩ (Hu x ⟨n,e',h'⟩))):(xCl P T mt ct fz g).Ok P:=by
 intro f xs h k lg r h' k' lg' hx;unfold xCl at hx;split at hx
 . rename_i fn c hfn;obtain⟨f1,f2,f3⟩:=EN hfn;split at hx
   . rename_i x e1 h1 k1 lg1 hg;split at hx
     . rename_i ys hend hres;simp only[Option.some.injEq,Prod.mk.injEq]at hx;obtain⟨rfl,rfl,rfl,rfl⟩:=hx;obtain⟨a1,a2⟩:=ih _ _ _ _ _ _ _ _ _ _ _ hg;refine⟨a1,fun hl=>ACall.of_body hT f1 f2 rfl (AGo.mono (a2 hl) fun x1 s1 hh=>?_)⟩;obtain⟨rfl,rfl⟩:=hh
       cases x1<;>simp[Lb]at hend
       . exact⟨ys,EF hres,rfl,rfl⟩
       . exact⟨ys,EF hres,rfl,rfl⟩
     . cases hx
   . cases hx
 . cases hx
theorem RJ(hT:Cn P T)(hmt:aB P mt)(hmx:P.follows .mixedOrders=true): ∀(g n:Nat) (c:Code) (e:As) (h:Ab) (k:Nat) (lg:Ht) (x:Exit) (e':As) (h':Ab) (k':Nat) (lg':Ht),Kx P T mt ct fz g n c e h k lg=some (x,e',h',k',lg')->
 (∀p∈lg,p∈lg')/\(Fm P lg'->AGo P c ⟨n,e,h⟩ (Hu x ⟨n,e',h'⟩)/\∀b,c= .loop b->∃m,Un P b (Hu x ⟨n,e',h'⟩) m ⟨n,e,h⟩)
 | 0,_,_,_,_,_,_,_,_,_,_,_,hx=>by cases hx
 | g+1,n,c,e,h,k,lg,x,e',h',k',lg',hx=>by
  have ih:=RJ hT hmt hmx g;have ih1: ∀n c e h k lg x e' h' k' lg',Kx P T mt ct fz g n c e h k lg=some (x,e',h',k',lg')->(∀p∈lg,p∈lg')/\(Fm P lg'->AGo P c ⟨n,e,h⟩ (Hu x ⟨n,e',h'⟩)):=
   fun n c e h k lg x e' h' k' lg' hg=>⟨(ih n c e h k lg x e' h' k' lg' hg).1,fun hl=>((ih n c e h k lg x e' h' k' lg' hg).2 hl).1⟩
  have hcl:=gA (P:=P) (mt:=mt) (ct:=ct) (fz:=fz) hT ih1
  cases c with
  | skip=>
   simp only[Kx,Option.some.injEq,Prod.mk.injEq]at hx;obtain⟨rfl,rfl,rfl,rfl,rfl⟩:=hx;exact⟨fun p hp=>hp,fun _=>⟨AGo.skip ⟨rfl,rfl⟩,fun b hb=>by cases hb⟩⟩
  | label l=>
   simp only[Kx,Option.some.injEq,Prod.mk.injEq]at hx;obtain⟨rfl,rfl,rfl,rfl,rfl⟩:=hx;exact⟨fun p hp=>hp,fun _=>⟨AGo.label ⟨rfl,rfl⟩,fun b hb=>by cases hb⟩⟩
  | exit id=>
   simp only[Kx,Option.some.injEq,Prod.mk.injEq]at hx;obtain⟨rfl,rfl,rfl,rfl,rfl⟩:=hx;exact⟨fun p hp=>hp,fun _=>⟨AGo.exit ⟨rfl,rfl⟩,fun b hb=>by cases hb⟩⟩
  | ret=>
   simp only[Kx,Option.some.injEq,Prod.mk.injEq]at hx;obtain⟨rfl,rfl,rfl,rfl,rfl⟩:=hx;exact⟨fun p hp=>hp,fun _=>⟨AGo.ret ⟨rfl,rfl⟩,fun b hb=>by cases hb⟩⟩
  | seq a b=>
   simp only[Kx]at hx;split at hx
   . rename_i x1 e1 h1 k1 lg1 hg;obtain⟨a1,a2⟩:=ih1 _ _ _ _ _ _ _ _ _ _ _ hg;split at hx
     . obtain⟨b1,b2⟩:=ih1 _ _ _ _ _ _ _ _ _ _ _ hx;exact⟨fun p hp=>b1 p (a1 p hp),fun hl=>⟨AGo.seq (AGo.mono (a2 fun p hp=>hl p (b1 p hp)) fun x2 s2 hh=>LZ hh (fun _=>b2 hl) (fun hn=>absurd rfl hn)),fun b hb=>by cases hb⟩⟩
     . rename_i hne;simp only[Option.some.injEq,Prod.mk.injEq]at hx;obtain⟨rfl,rfl,rfl,rfl,rfl⟩:=hx;exact⟨a1,fun hl=>⟨AGo.seq (AGo.mono (a2 hl) fun x2 s2 hh=>LZ hh (fun hn=>absurd hn hne) (fun _=>⟨rfl,rfl⟩)),fun b hb=>by cases hb⟩⟩
   . cases hx
  | cond o a b=>
   cases o with
   | tmp t=>
    simp only[Kx]at hx;split at hx
    . rename_i ht;obtain⟨a1,a2⟩:=ih1 _ _ _ _ _ _ _ _ _ _ _ hx;exact⟨a1,fun hl=>⟨AGo.cond_true true ht rfl (a2 hl),fun b hb=>by cases hb⟩⟩
    . rename_i ht;obtain⟨a1,a2⟩:=ih1 _ _ _ _ _ _ _ _ _ _ _ hx;exact⟨a1,fun hl=>⟨AGo.cond_false false ht rfl (a2 hl),fun b hb=>by cases hb⟩⟩
    . cases hx
   | _=>simp only[Kx]at hx;cases hx
  | block id b=>
   simp only[Kx]at hx;split at hx
   . rename_i x1 e1 h1 k1 lg1 hg;obtain⟨a1,a2⟩:=ih1 _ _ _ _ _ _ _ _ _ _ _ hg;split at hx
     . rename_i id';split at hx
       . rename_i hid;exact zt62
       . rename_i hid;exact zt62
     . rename_i hne;simp only[Option.some.injEq,Prod.mk.injEq]at hx;obtain⟨rfl,rfl,rfl,rfl,rfl⟩:=hx;refine⟨a1,fun hl=>⟨AGo.block (AGo.mono (a2 hl) fun x2 s2 hh=>?_),fun b hb=>by cases hb⟩⟩;obtain⟨rfl,rfl⟩:=hh
       cases x2 with
       | exit i=>exact absurd rfl (hne i)
       | _=>exact⟨rfl,rfl⟩
   . cases hx
  | loop b=>
   simp only[Kx]at hx;split at hx
   . rename_i x1 e1 h1 k1 lg1 hg;obtain⟨a1,a2⟩:=ih1 _ _ _ _ _ _ _ _ _ _ _ hg;split at hx
     . obtain⟨b1,b2⟩:=ih _ _ _ _ _ _ _ _ _ _ _ hx;refine⟨fun p hp=>b1 p (a1 p hp),fun hl=>?_⟩;obtain⟨m,hm⟩:=(b2 hl).2 b rfl;have hu:Un P b (Hu x ⟨n,e',h'⟩) (m+1) ⟨n,e,h⟩:=TQ (AGo.mono (a2 fun p hp=>hl p (b1 p hp)) fun x2 s2 hh=>LZ hh (fun _=>hm) (fun hn=>absurd rfl hn));exact⟨Ou _ hu,fun b' hb=>by cases hb;exact⟨_,hu⟩⟩
     . rename_i hne;simp only[Option.some.injEq,Prod.mk.injEq]at hx;obtain⟨rfl,rfl,rfl,rfl,rfl⟩:=hx;refine⟨a1,fun hl=>?_⟩;have hu:Un P b (Hu x1 ⟨n,e1,h1⟩) 0 ⟨n,e,h⟩:=TP (AGo.mono (a2 hl) fun x2 s2 hh=>LZ hh (fun hn=>absurd hn hne) (fun _=>⟨rfl,rfl⟩));exact⟨Ou _ hu,fun b' hb=>by cases hb;exact⟨_,hu⟩⟩
   . cases hx
  | scope b=>
   simp only[Kx]at hx;split at hx
   . rename_i x1 e1 h1 k1 lg1 hg;obtain⟨a1,a2⟩:=ih1 _ _ _ _ _ _ _ _ _ _ _ hg;split at hx
     . cases hx
     . rename_i hne;simp only[Option.some.injEq,Prod.mk.injEq]at hx;obtain⟨rfl,rfl,rfl,rfl,rfl⟩:=hx;refine⟨a1,fun hl=>⟨AGo.scope (AGo.mono (a2 hl) fun x2 s2 hh=>?_),fun b hb=>by cases hb⟩⟩;obtain⟨rfl,rfl⟩:=hh
       cases x2 with
       | goto i=>exact absurd rfl (hne i)
       | _=>exact⟨rfl,rfl⟩
   . cases hx
  | region id ops dr=>
   cases dr with
   | false=>
    simp only[Kx]at hx;generalize hfz:Tk fz n id k e h=eh at hx;obtain⟨e0,h0⟩:=eh;have hgst:=LJ hfz;simp only at hx;split at hx
    . rename_i e1 h1 k1 lg1 hg;simp only[Option.some.injEq,Prod.mk.injEq]at hx;obtain⟨rfl,rfl,rfl,rfl,rfl⟩:=hx;obtain⟨a1,a2⟩:=DN hT hmt hcl _ hg;exact⟨a1,fun hl=>⟨AGo.ghost hgst (AGo.region (a2 hl _ ⟨rfl,rfl⟩)),fun b hb=>by cases hb⟩⟩
    . cases hx
   | true=>
    simp only[Kx]at hx;generalize hfz:Tk fz n id k e h=eh at hx;obtain⟨e0,h0⟩:=eh;have hgst:=LJ hfz;simp only at hx;split at hx
    . rename_i e1 h1 k1 lg1 hg;simp only[Option.some.injEq,Prod.mk.injEq]at hx;obtain⟨rfl,rfl,rfl,rfl,rfl⟩:=hx;obtain⟨a1,a2⟩:=xDops_spec hT hcl _ hg;exact⟨a1,fun hl=>⟨AGo.ghost hgst (TR hmx (a2 hl _ ⟨rfl,rfl⟩)),fun b hb=>by cases hb⟩⟩
    . cases hx
  | _=>simp only[Kx]at hx;cases hx
end
theorem OU{P:Program}{c:Code}{x:Exit}{s s1 s2:Ai}(h:AGo P c s (Hu x s1))(hg:Ghost s1 s2):AGo P c s (Hu x s2):=fun H ι a w hs=>
 wp_mono (h H ι a w hs) fun e a' w' hp=>by
  obtain⟨s',H',ι',⟨rfl,rfl⟩,h1,h2⟩:=hp;obtain⟨H2,ι2,h3,h4⟩:=hg H' ι' a' w' h1;exact⟨s2,H2,ι2,⟨rfl,rfl⟩,h3,h2.trans hs.heap h1.heap h4⟩
def QE(e:As):List ResultVar->List Nat
  | []=>[]
  | .tmp t::rs=>(match e t with | some x=>QF x | none=>[])++QE e rs
  | .cell t _::rs=>(match e t with | some x=>QF x | none=>[])++QE e rs
def np(P:Program)(T:Nat->Option Ar)(mt:Nat->String->Option Nat)(ct:Nat->Option (List AV->Option AV))(fz:Nat->Nat->Option Nat)(g f:Nat)(xs:List AV):Option (AV×Ht):=match NL P f with
  | some (fn,c)=>match Kx P T mt ct fz g (xs.length+(fn.ntmps-xs.length)) c (GE xs) hNew 0 []with
    | some (x,e1,h1,k1,lg1)=>match Tj (xs.length+(fn.ntmps-xs.length)) k1 (QH h1 4 (QE e1 fn.results.toList)) e1 h1 with
      |(e2,h2)=>match Lb x,I7 T e2 h2 fn.results.toList with
        | true,some ys=>match(Fh ys).isPure with
          | true=>some (Fh ys,lg1)
          | false=>none
        | _,_=>none
    | none=>none
  | none=>none
theorem Dm{P:Program}{T:Nat->Option Ar}{mt:Nat->String->Option Nat}{ct:Nat->Option (List AV->Option AV)}{fz:Nat->Nat->Option Nat}(hT:Cn P T)(hmt:aB P mt)(hmx:P.follows .mixedOrders=true)(g:Nat){f:Nat}{xs:List AV}{r:AV}{lg:Ht}
 (hx:np P T mt ct fz g f xs=some (r,lg)) (hl:Fm P lg):APure P f xs (fun r'=>r'=r):=by
 unfold np at hx;split at hx
 . rename_i fn c hfn;obtain⟨f1,f2,f3⟩:=EN hfn;split at hx
   . rename_i x e1 h1 k1 lg1 hg;split at hx;rename_i e2 h2 hfz;split at hx
     . rename_i ys hend hres;split at hx
       . rename_i hp;simp only[Option.some.injEq,Prod.mk.injEq]at hx;obtain⟨rfl,rfl⟩:=hx;have ha:=((RJ hT hmt hmx g _ _ _ _ _ _ _ _ _ _ _ hg).2 hl).1;refine APure.of_body hT f1 f2 rfl (AGo.mono (OU ha (EM _ hfz)) fun x1 s1 hh=>?_);obtain⟨rfl,rfl⟩:=hh
         cases x1<;>simp[Lb]at hend
         . exact⟨ys,EF hres,rfl,hp⟩
         . exact⟨ys,EF hres,rfl,hp⟩
       . cases hx
     . cases hx
   . cases hx
 . cases hx
theorem EJ(P:Program):Fm P []:=fun p hp=>by cases hp
theorem EK{P:Program}{f:Nat}{xs:List AV}{r:AV}{lg:Ht}(h:APure P f xs (fun r'=>r'=r))(hl:Fm P lg):Fm P ((f,xs,r)::lg):=fun p hp=>by
 cases hp with
 | head=>exact h
 | tail _ hp=>exact hl p hp
theorem IL{P:Program}{a b:Ht}(h1:Fm P a)(h2:Fm P b):Fm P (a++b):=fun p hp=>(List.mem_append.1 hp).elim (h1 p) (h2 p)
def tinyA:BFunc:=⟨3,[⟨[⟨1,0,0,0,0,0,0,60⟩,⟨1,1,0,0,0,0,0,5⟩,⟨3,2,0,1,4,0,0,0⟩,⟨9,0,2,0,0,0,0,0⟩],3,0,0,0⟩]⟩
def tinyB:BFunc:=⟨3,[⟨[⟨1,0,0,0,0,0,0,60⟩,⟨1,1,0,0,0,0,0,5⟩,⟨1,2,0,0,0,0,0,65⟩,⟨9,0,2,0,0,0,0,0⟩],3,0,0,0⟩]⟩
def tinyC:BFunc:=⟨3,[⟨[⟨1,2,0,0,0,0,0,65⟩,⟨9,0,2,0,0,0,0,0⟩],3,0,0,0⟩]⟩
def Vs(f:BFunc):Blocks:=⟨0,[f]⟩
theorem OT{P:Program}{f:Nat}{args:List AV}{r:AV}{h0:Ab}(hp:r.isPure=true)(hc:ACall P f args hNew (fun r' h'=>r'=r/\HSub h0 h')):APure P f args (fun r'=>r'=r):=by
 intro H w vs ha hk;refine(hc H AQ w vs ha (LI hk)).mono fun e w' hx=>?_
 obtain⟨v,r',h',H',ι',rfl,⟨rfl,_⟩,h3,h4,h5⟩:=hx;have hno: ∀rb,¬Dg hNew AQ rb:=fun rb ho=>by obtain⟨b,o,r,e1,e2,e3,_⟩:=ho;cases e3
 exact⟨v,r',H',rfl,rfl,FR hp h3,⟨h5.size,h5.os,h5.out,fun rb hlt=>h5.keep rb hlt (hno rb),h5.kle,fun b hb=>(h5.knew b hb).imp id fun h=>h.resolve_right (hno b),h4.know⟩⟩
def nH:Nat->String->Option Nat:=fun t s=>bif Nat.beq t 97 then(bif s== "seedcorn/optimize.run" then some 128 else bif s== "seedcorn/optimize.holds" then some 127 else none)else bif Nat.beq t 99 then(bif s== "seedcorn/optimize.run" then some 142 else bif s== "seedcorn/optimize.holds" then some 141 else none)else none
theorem mt_cr(v:Value)(w:World):(method (Tryz.prog.types.size+Made.depth) 97 v "seedcorn/optimize.run").run Tryz.prog w= .ok (128,v) w:=by kernel_rfl
theorem mt_ch(v:Value)(w:World):(method (Tryz.prog.types.size+Made.depth) 97 v "seedcorn/optimize.holds").run Tryz.prog w= .ok (127,v) w:=by kernel_rfl
theorem mt_jr(v:Value)(w:World):(method (Tryz.prog.types.size+Made.depth) 99 v "seedcorn/optimize.run").run Tryz.prog w= .ok (142,v) w:=by kernel_rfl
theorem mt_jh(v:Value)(w:World):(method (Tryz.prog.types.size+Made.depth) 99 v "seedcorn/optimize.holds").run Tryz.prog w= .ok (141,v) w:=by kernel_rfl
theorem Pr:aB Tryz.prog nH:=fun t name f v w h=>by
 unfold nH at h
 cases ht:Nat.beq t 97 with
 | true=>
  obtain rfl:=Nat.eq_of_beq_eq_true ht;rw[ht]at h;simp only[cond_true]at h
  cases h1:name== "seedcorn/optimize.run" with
  | true=>
   rw[h1]at h;obtain rfl:=eq_of_beq h1;simp only[cond_true,Option.some.injEq]at h;subst h;exact mt_cr v w
  | false=>
   rw[h1]at h
   cases h2:name== "seedcorn/optimize.holds" with
   | true=>
    rw[h2]at h;obtain rfl:=eq_of_beq h2;simp only[cond_true,cond_false,Option.some.injEq]at h;subst h;exact mt_ch v w
   | false=>rw[h2]at h;cases h
 | false=>
  rw[ht]at h
  cases ht2:Nat.beq t 99 with
  | true=>
   obtain rfl:=Nat.eq_of_beq_eq_true ht2;rw[ht2]at h;simp only[cond_true,cond_false]at h
   cases h1:name== "seedcorn/optimize.run" with
   | true=>
    rw[h1]at h;obtain rfl:=eq_of_beq h1;simp only[cond_true,Option.some.injEq]at h;subst h;exact mt_jr v w
   | false=>
    rw[h1]at h
    cases h2:name== "seedcorn/optimize.holds" with
    | true=>
     rw[h2]at h;obtain rfl:=eq_of_beq h2;simp only[cond_true,cond_false,Option.some.injEq]at h;subst h;exact mt_jh v w
    | false=>rw[h2]at h;cases h
  | false=>rw[ht2]at h;cases h
def XP:Nat->Nat->Option Nat:=fun n i=>bif Nat.beq n 83&&Nat.beq i 14 then some 6 else bif Nat.beq n 90&&Nat.beq i 19 then some 14 else none
def tinyBl:Block:=⟨[⟨1,2,0,0,0,0,0,65⟩,⟨9,0,2,0,0,0,0,0⟩],3,0,0,0⟩
def Qn:AV:=.tup [.lst false [[.int .u64 0]],.lst false [[.int .u64 4]]]
def qj:Nat->Option (List AV->Option AV):=fun f=>bif Nat.beq f 97 then some (fun _=>some Qn)else none
def Rn:AV:=.lst false [[.lst false [[.bool true],[.bool true],[.bool true]]]]
def bR:AV:=.lst false [[.lst false [[.bool false],[.bool false],[.bool false]]]]
def Y5:List AV:=[.int .i64 3,.lst false [[.lst true (tinyBl.ins.map Tac.cells),.int .i64 3,.int .i64 0,.int .i64 0,.int .i64 0]]]
def gS:AV:=.lst false [
  [.int .i64 1,Rn,.nil]++tinyB.cells,
  [.int .i64 2,Rn,.nil]++tinyB.cells,
  [.int .i64 3,bR,.nil]++tinyC.cells,
  [.int .i64 4,.nil,.lst false [[.lst false [[.int .i64 0]]]]]++Y5]
def Vr:AV:=.tup [.agg [.int .i64 0,.lst false [Y5]],.lst false [[gS]],.int .i64 0]
def T7:List AV:=[.agg (Vs tinyA).cells,.lst false [[.int .i64 1],[.int .i64 2],[.int .i64 3],[.int .i64 4]]]
def qN:Nat->Option (List AV->Option AV):=fun f=>bif Nat.beq f 129 then some (fun _=>some (.bool true))else bif Nat.beq f 30 then some (fun _=>some (.agg (Vs tinyA).cells))else bif Nat.beq f 15 then some (fun xs=>match xs with | [_,.lst _ (_::_::_)]=>some Vr | _=>none)else none
def dT:Nat->Option (List AV->Option AV):=fun _=>none
def HL:Ht:=[(30,[],.agg (Vs tinyA).cells)]
def gO:Ht:=[(129,[.agg tinyB.cells,.agg tinyC.cells,.agg [bR]],.bool true),(129,[.agg tinyB.cells,.agg tinyB.cells,.agg [Rn]],.bool true),(129,[.agg tinyA.cells,.agg tinyB.cells,.agg [Rn]],.bool true)]
section
variable {o : Oper} {e : As} {h : Ab}
end
theorem Fv{α:Type}{F:List α}{f:α->List AV}{z y:List AV}{k n i:Nat}(hF:F.length=n)(hk:k<=n):n=(((F.take k).map f++List.replicate (n-k) z).set i y).length:=by
 rw[List.length_set];exact Av hF hk
theorem Fw{α:Type}{F:List α}{f:α->List AV}{z y:List AV}{k n:Nat}(hF:F.length=n)(hk:k<n):(((F.take k).map f++List.replicate (n-k) z).set (0+((k:Nat):Int).toNat) y)[0+((k:Nat):Int).toNat]?=some y:=by
 have:=Av (f:=f) (z:=z) hF (Nat.le_of_lt hk);rw[List.getElem?_set_self (by omega)]
theorem Ui{α:Type}{l:List α}{i:Nat}{x y:α}:(l.set i x).set i y=l.set i y:=by
 apply List.ext_getElem?;intro j;simp only[List.getElem?_set];split<;>simp_all
theorem J0(l:List (List OPass)): ∀cs∈l.map (fun x=>[BG x]),cs.all AV.isPure1=true:=fun cs h=>by
 obtain⟨x,_,rfl⟩:=List.mem_map.1 h;rfl
theorem Jl{q:Nat->Bool}{l:List (List OPass)}{m:Nat}:(AObj.row false 1 (l.map (fun x=>[BG x])++List.replicate m [AV.nil])).avoid q=true:=by
 show List.all _ _=true;rw[List.all_append,Bool.and_eq_true];refine⟨List.all_eq_true.2 fun cs h=>?_,List.all_eq_true.2 fun cs h=>?_⟩
 . obtain⟨x,_,rfl⟩:=List.mem_map.1 h;rfl
 . rw[(List.mem_replicate.1 h).2];rfl
theorem Lv{q:Nat->Bool}{l:List (List OPass)}{m i b n:Nat}(hb:q b=true):(AObj.row false 1 ((l.map (fun x=>[BG x])++List.replicate m [AV.nil]).set i [.ref b n 0 n])).avoid q=true:=by
 show List.all _ _=true;refine List.all_eq_true.2 fun cs h=>?_
 rcases List.mem_or_eq_of_mem_set h with h | rfl
 . exact List.all_eq_true.1 (Jl (q:=q) (l:=l) (m:=m)) cs h
 . simp[AV.avoid,AV.flat,hb]
structure Ask35 where
  old:Blocks
  new:Blocks
  l:List (List OPass)
  s:ByteArray
def Ask35.cells(z:Ask35):List AV:=[.int .i64 z.old.words,Gl z.old.funcs,.int .i64 z.new.words,Gl z.new.funcs,NA z.l,.str z.s]
structure fb(p:OPass):Prop where
  c:p.f.count<=1048576
  w:p.f.words
  n:p.paths.length<=1048576
  q: ∀r∈p.paths,r.length<=1048576
structure ListLim(l:List (List OPass)):Prop where
  n:l.length<=1048576
  m: ∀ps∈l,ps.length<=1048576
  p: ∀ps∈l,∀p∈ps,fb p
structure I35(f:BFunc):Prop where
  c:f.count<=300
  w:f.words
theorem I35.n{f:BFunc}(h:I35 f):f.blocks.length<=10000:=by have:=DJ f;have:=h.c;omega
theorem I35.i{f:BFunc}(h:I35 f): ∀x∈f.blocks,x.ins.length<=10000/\I2 x.ins:=fun x hx=>by
 have h1:x.count<=f.count:=H6 hx;have:=h.c;simp only[Block.count]at h1;exact⟨by omega,h.w x hx⟩
theorem Small35.i{b:Blocks}(h:Small35 b)(hw: ∀f∈b.funcs,f.words): ∀f∈b.funcs,I35 f:=fun f hf=>⟨by have h1:f.count<=b.count:=H6 hf;have:=h.c;omega,hw f hf⟩
theorem ListLim.w{l:List (List OPass)}(h:ListLim l):nA l:=fun ps hp p hpp=>(h.p ps hp p hpp).w
end Go.Proofs.YtbbfelelocccmaaGreat.Sv
namespace Go.Proofs.YtbbfelelocccmaaGreat
open Go Go.ChangeShapes Go.WideShapes Go.ChangeAt Go.RowKit Sv
section
variable {H : Type} {enc : TypeId × Value -> H} {W : World}
theorem decIntsR:DecR enc Tryz.prog W 25 (fun l:List Int=>[AM l]) (fun l n=>(∀x∈l,RC x)/\l.length+1<=n):=fun fuel cs x h hw=>by
 obtain⟨l,h1,_,h2⟩:=DecR.slice' (j:=qz) Ah rfl rfl rfl (Nat.zero_lt_succ _) (DecR.of (BT Ah rfl rfl)) fuel cs x h hw;refine⟨l,h1,fun y hy=>?_,h2.len (fun a m h=>h.2)⟩;obtain⟨m,hm,_⟩:=h2.all y hy;exact Dn hm.1
def PassN(p:OPass)(n:Nat):Prop:=p.f.Ok/\RC p.kind/\p.f.count+1<=n/\p.paths.length<=n/\(∀r∈p.paths,r.length<=n)/\p.cert.same.length<=n
theorem PassN.mono{p:OPass}{m n:Nat}(h:PassN p m)(hm:m<=n):PassN p n:=⟨h.1,h.2.1,Nat.le_trans h.2.2.1 hm,Nat.le_trans h.2.2.2.1 hm,fun r hr=>Nat.le_trans (h.2.2.2.2.1 r hr) hm,Nat.le_trans h.2.2.2.2.2 hm⟩
theorem words_row{b:Blocks}(h:b.Ok): ∀f∈b.funcs,f.words:=fun f hf x hx=>BFunc.Ok.insW (h.funcs f hf) hx
end
end Go.Proofs.YtbbfelelocccmaaGreat
namespace Go.Proofs.YtbbfelelocccmaaGreat
open Go Go.ChangeShapes Go.WideShapes Go.ChangeAt Go.RowKit Sv
section
variable {H : Type} {enc : TypeId × Value -> H} {W : World}
theorem blocksI_row{b:Blocks}{n:Nat}(h:b.Ok/\b.count+b.funcs.length<=n)(hn:n<=1048576):b.Lim/\b.insW:=⟨lim_row h hn,words_row h.1⟩
theorem ints23_row{l:List Int}{n:Nat}(h:(∀x∈l,RC x)/\l.length+1<=n)(hn:n<=1048576):l.length<=1048576:=by omega
end
end Go.Proofs.YtbbfelelocccmaaGreat
namespace Go.Proofs.YtbbfelelocccmaaGreat.Sv
open Go
def Cb(d:Int)(fr:List Int):List Int:=fr.mapIdx fun v s=>bif ((v:Int)==d||s==d)then(v:Int)else s
def subT(fr:List Int)(t:Tac):Tac:=bif use1 t.op then {t with a:=rget fr t.a}else bif use2 t.op then {t with a:=rget fr t.a,b:=rget fr t.b}else t
def DE(fr:List Int)(t:Tac):List Int:=
  bif decide (t.sets>=0)then(bif (t.op==2&&t.a !=t.sets)then AZ (Cb t.sets fr) t.sets t.a else Cb t.sets fr)else fr
def Dq:List Int->List Tac->List Tac×List Int
  | fr,[]=>([],fr)
  | fr,t::l=>(subT fr t::(Dq (DE fr (subT fr t)) l).1,(Dq (DE fr (subT fr t)) l).2)
def Ke(R:Nat):List Int:=(List.range R).map fun(v:Nat)=>(v:Int)
def Block.forward(R:Nat)(x:Block):Block:=
  {x with ins:=(Dq (Ke R) x.ins).1,v:=bif x.fin==2 then rget (Dq (Ke R) x.ins).2 x.v else x.v}
def BFunc.forward(f:BFunc):BFunc:=⟨f.regs,f.blocks.map (Block.forward f.regs.toNat)⟩
def BFunc.fcert(f:BFunc):Cert:=⟨List.replicate f.blocks.length (List.replicate f.regs.toNat true)⟩
theorem C5(d:Int)(fr:List Int):(Cb d fr).length=fr.length:=by simp[Cb]
theorem Se{l:List Int}{v:Nat}(h:v<l.length):l[v]?=some (rget l v):=by
 unfold rget;rw[show(v:Int).toNat=v from rfl,List.getElem?_eq_getElem h];rfl
theorem JR{l l':List Int}(h:l.length=l'.length)(hv: ∀v:Nat,v<l.length->rget l v=rget l' v):l=l':=by
 apply List.ext_getElem?;intro v
 by_cases hl:v<l.length
 . rw[Se hl,Se (by omega),hv v hl]
 . rw[List.getElem?_eq_none (by omega),List.getElem?_eq_none (by omega)]
theorem C6{d:Int}{fr:List Int}{v:Nat}(h:v<fr.length):rget (Cb d fr) v=bif ((v:Int)==d||rget fr v==d)then(v:Int)else rget fr v:=by
 unfold rget Cb;rw[show(v:Int).toNat=v from rfl,List.getElem?_mapIdx,List.getElem?_eq_getElem h];rfl
theorem Wc(R:Nat):(Ke R).length=R:=by simp[Ke]
theorem IR{R v:Nat}(h:v<R):rget (Ke R) v=v:=by simp[rget,Ke,h]
theorem CT(l:List Int)(i v:Int):(AZ l i v).length=l.length:=by unfold AZ;simp
theorem EE{l:List Int}{d v:Nat}{x:Int}(hd:d<l.length):rget (AZ l (d:Int) x) (v:Int)=if v=d then x else rget l v:=by
 unfold rget AZ;rw[show(v:Int).toNat=v from rfl,show(d:Int).toNat=d from rfl,List.getElem?_set]
 by_cases h:d=v
 . subst h;simp[hd]
 . rw[if_neg h,if_neg (Ne.symm h)]
def RB(ks:List Int):Ez:=ks.map fun z=>(z,.bool true)
theorem NE{z:Int}: ∀{ks:List Int},z∉ks->I1 z (.bool true) (RB ks)=RB (ks++[z])
 | [],_=>rfl
 | k::ks,h=>by
  show(bif z==k then _ else(k,_)::I1 z _ (RB ks))=_;rw[show(z==k)=false by simpa using fun e=>h (by rw[e];exact List.mem_cons.2 (.inl rfl)),NE (fun e=>h (List.mem_cons.2 (.inr e)))];rfl
theorem S1{z:Int}: ∀{ks:List Int},kdel z (RB ks)=RB (ks.erase z)
 | []=>rfl
 | k::ks=>by
  show(bif z==k then _ else(k,_)::kdel z (RB ks))=_;rw[List.erase_cons]
  by_cases h:z=k
  . subst h;simp[RB]
  . rw[show(z==k)=false by simpa using h,show(k==z)=false by simpa using Ne.symm h,S1];rfl
theorem ZR(ks:List Int):(RB ks).map (·.1)=ks:=by simp[RB,Function.comp_def]
structure FwI(R:Nat)(fr:List Int)(to:List (Option Nat))(maps:List (List Int)):Prop where
  lenF:fr.length=R
  lenT:to.length=R
  ran: ∀v:Nat,v<R->0<=rget fr v/\rget fr v<R
  root: ∀v:Nat,v<R->rget fr (rget fr v)=rget fr v
  sm: ∀a j:Nat,to[a]?=some (some j)->∃ks,maps[j]?=some ks/\ks.Nodup/\∀v:Int,v∈ks↔(0<=v/\v<R/\v≠a/\rget fr v=a)
  nn: ∀a:Nat,to[a]?=some none->∀v:Nat,v<R->rget fr v=a->v=a
  inj: ∀a b j:Nat,to[a]?=some (some j)->to[b]?=some (some j)->a=b
theorem iL(R:Nat):FwI R (Ke R) (List.replicate R none) [] where
 lenF:=Wc R
 lenT:=by simp
 ran:=fun v hv=>by rw[IR hv];omega
 root:=fun v hv=>by rw[IR hv,IR hv]
 sm:=fun a j h=>by rw[List.getElem?_replicate]at h;split at h<;>simp at h
 nn:=fun a h v hv e=>by rw[IR hv]at e;omega
 inj:=fun a b j h=>by rw[List.getElem?_replicate]at h;split at h<;>simp at h
section
variable {R : Nat} {fr : List Int} {to : List (Option Nat)} {maps : List (List Int)}
theorem FwI.to_of(h:FwI R fr to maps){a:Nat}(ha:a<R): ∃o,to[a]?=some o:=⟨_,List.getElem?_eq_getElem (by rw[h.lenT];exact ha)⟩
theorem FwI.off(h:FwI R fr to maps){d s:Nat}(hd:d<R)(hs:rget fr d=s)(hne:s≠d): ∃j ks,to[s]?=some (some j)/\maps[j]?=some ks/\FwI R (AZ fr (d:Int) d) to (maps.set j (ks.erase (d:Int))):=by
 have hsR:s<R:=by have:=(h.ran d hd).2;omega
 obtain⟨o,ho⟩:=h.to_of hsR
 cases o with
 | none=>exact absurd (h.nn s ho d hd hs) (Ne.symm hne)
 | some j=>
  obtain⟨ks,k1,k2,k3⟩:=h.sm s j ho;have hg: ∀v:Nat,rget (AZ fr (d:Int) d) v=if v=d then(d:Int)else rget fr v:=fun v=>EE (by rw[h.lenF];exact hd)
  refine⟨j,ks,ho,k1,⟨by rw[CT,h.lenF],h.lenT,fun v hv=>?_,fun v hv=>?_,fun a j' ha=>?_,fun a ha v hv e=>?_,h.inj⟩⟩
  . rw[hg];split
    . omega
    . exact h.ran v hv
  . rw[hg v];split
    . rw[hg d,if_pos rfl]
    . obtain⟨r0,r1⟩:=h.ran v hv;obtain⟨u,hu⟩: ∃u:Nat,rget fr v=u:=⟨(rget fr v).toNat,by omega⟩
      rw[hu,hg u];split
      . rename_i e;rw[e]
      . have:=h.root v hv;rw[hu]at this;exact this
  . have hlt:j<maps.length:=(List.getElem?_eq_some_iff.1 k1).1
    by_cases hj:j'=j
    . subst hj;have:=h.inj a s j' ha ho;subst this;refine⟨ks.erase d,by rw[List.getElem?_set_self hlt],k2.erase _,fun v=>?_⟩;rw[k2.mem_erase_iff,k3];constructor
      . rintro⟨e1,e2,e3,e4,e5⟩
        obtain⟨u,rfl⟩: ∃u:Nat,v=u:=⟨v.toNat,by omega⟩
        refine⟨e2,e3,e4,?_⟩;rw[hg,if_neg (by intro e;exact e1 (by rw[e]))];exact e5
      . rintro⟨e2,e3,e4,e5⟩
        obtain⟨u,rfl⟩: ∃u:Nat,v=u:=⟨v.toNat,by omega⟩
        rw[hg]at e5
        by_cases hu:u=d
        . rw[if_pos hu]at e5;omega
        . rw[if_neg hu]at e5;exact⟨by omega,e2,e3,e4,e5⟩
    . obtain⟨ks',q1,q2,q3⟩:=h.sm a j' ha;refine⟨ks',by rw[List.getElem?_set_ne (Ne.symm hj)];exact q1,q2,fun v=>?_⟩;rw[q3];have has:a≠s:=fun e=>hj (by subst e;rw[ho]at ha;cases ha;rfl)
      constructor
      . rintro⟨e2,e3,e4,e5⟩
        obtain⟨u,rfl⟩: ∃u:Nat,v=u:=⟨v.toNat,by omega⟩
        exact fW
      . rintro⟨e2,e3,e4,e5⟩
        obtain⟨u,rfl⟩: ∃u:Nat,v=u:=⟨v.toNat,by omega⟩
        rw[hg]at e5
        by_cases hu:u=d
        . rw[if_pos hu]at e5;omega
        . rw[if_neg hu]at e5;exact⟨e2,e3,e4,e5⟩
  . rw[hg]at e
    by_cases hv':v=d
    . rw[if_pos hv']at e;omega
    . rw[if_neg hv']at e;exact h.nn a ha v hv e
theorem FwI.off0(h:FwI R fr to maps){d:Nat}(hd:d<R)(hs:rget fr d=d):AZ fr (d:Int) d=fr:=
 JR (CT _ _ _) fun v hv=>by
  rw[CT]at hv;rw[EE (by rw[h.lenF];exact hd)]
  by_cases e:v=d
  . rw[if_pos e,e,hs]
  . rw[if_neg e]
theorem FwI.clear(h:FwI R fr to maps){d:Nat}(hd:d<R)(hs:rget fr d=d):FwI R (Cb d fr) (to.set d none) maps:=by
 have hg: ∀v:Nat,v<R->rget (Cb d fr) v=if rget fr v=d then(v:Int)else rget fr v:=fun v hv=>by
  rw[C6 (by rw[h.lenF];exact hv)]
  by_cases e:rget fr v=d
  . rw[if_pos e];simp[e]
  . rw[if_neg e]
    by_cases e2:v=d
    . subst e2;exact absurd hs e
    . rw[show((v:Int)==d)=false from beq_eq_false_iff_ne.2 (by omega),show(rget fr v==(d:Int))=false from beq_eq_false_iff_ne.2 e];rfl
 refine⟨by rw[C5,h.lenF],by simp[h.lenT],fun v hv=>?_,fun v hv=>?_,fun a j ha=>?_,fun a ha v hv e=>?_,fun a b j ha hb=>?_⟩
 . rw[hg v hv];split
   . omega
   . exact h.ran v hv
 . rw[hg v hv];split
   . rename_i e;rw[hg v hv,if_pos e]
   . rename_i e;obtain⟨r0,r1⟩:=h.ran v hv;obtain⟨u,hu⟩: ∃u:Nat,rget fr v=u:=⟨(rget fr v).toNat,by omega⟩
     have hr:=h.root v hv;rw[hu]at hr e |-;rw[hg u (by omega),if_neg (by rw[hr];exact e)];exact hr
 . rw[List.getElem?_set]at ha;split at ha
   . split at ha<;>simp at ha
   . rename_i hda;obtain⟨ks,q1,q2,q3⟩:=h.sm a j ha;refine⟨ks,q1,q2,fun v=>?_⟩;rw[q3];constructor
     . rintro⟨e2,e3,e4,e5⟩
       obtain⟨u,rfl⟩: ∃u:Nat,v=u:=⟨v.toNat,by omega⟩
       refine⟨e2,e3,e4,?_⟩;rw[hg u (by omega),if_neg (by rw[e5];omega)];exact e5
     . rintro⟨e2,e3,e4,e5⟩
       obtain⟨u,rfl⟩: ∃u:Nat,v=u:=⟨v.toNat,by omega⟩
       rw[hg u (by omega)]at e5
       by_cases e:rget fr u=d
       . rw[if_pos e]at e5;exact absurd e5 e4
       . rw[if_neg e]at e5;exact⟨e2,e3,e4,e5⟩
 . rw[hg v hv]at e;rw[List.getElem?_set]at ha
   by_cases e1:rget fr v=d
   . rw[if_pos e1]at e;omega
   . rw[if_neg e1]at e
     by_cases hda:d=a
     . subst hda;exact absurd e e1
     . rw[if_neg hda]at ha;exact h.nn a ha v hv e
 . rw[List.getElem?_set]at ha hb
   by_cases e1:d=a
   . rw[if_pos e1]at ha;split at ha<;>simp at ha
   . by_cases e2:d=b
     . rw[if_pos e2]at hb;split at hb<;>simp at hb
     . rw[if_neg e1]at ha;rw[if_neg e2]at hb;exact h.inj a b j ha hb
theorem KM(h:FwI R fr to maps){d:Nat}(hd:d<R):Cb d (AZ fr (d:Int) d)=Cb d fr:=
 JR (by rw[C5,C5,CT]) fun v hv=>by
  rw[C5,CT,h.lenF]at hv;rw[C6 (by rw[CT,h.lenF];exact hv),C6 (by rw[h.lenF];exact hv),EE (by rw[h.lenF];exact hd)]
  by_cases e:v=d
  . subst e;simp
  . rw[if_neg e]
theorem FwI.copied(h:FwI R fr to maps){d a:Nat}(hd:d<R)(ha:a<R)(hne:a≠d)(hs:rget fr d=d)(hn:to[d]?=some none)(hra:rget fr a=a):
 (∃j ks,to[a]?=some (some j)/\maps[j]?=some ks/\(d:Int)∉ks/\FwI R (AZ fr (d:Int) a) to (maps.set j (ks++[(d:Int)])))\/(to[a]?=some none/\FwI R (AZ fr (d:Int) a) (to.set a (some maps.length)) (maps++[[(d:Int)]])):=by
 have hg: ∀v:Nat,rget (AZ fr (d:Int) a) v=if v=d then(a:Int)else rget fr v:=fun v=>EE (by rw[h.lenF];exact hd)
 have hno: ∀v:Nat,v<R->rget fr v=d->v=d:=h.nn d hn
 have ran: ∀v:Nat,v<R->0<=rget (AZ fr (d:Int) a) v/\rget (AZ fr (d:Int) a) v<R:=fun v hv=>by
  rw[hg];split
  . omega
  . exact h.ran v hv
 have root: ∀v:Nat,v<R->rget (AZ fr (d:Int) a) (rget (AZ fr (d:Int) a) v)=rget (AZ fr (d:Int) a) v:=fun v hv=>by
  rw[hg v];split
  . rw[hg a,if_neg hne];exact hra
  . rename_i e;obtain⟨r0,r1⟩:=h.ran v hv;obtain⟨u,hu⟩: ∃u:Nat,rget fr v=u:=⟨(rget fr v).toNat,by omega⟩
    have hr:=h.root v hv;rw[hu]at hr |-;rw[hg u,if_neg (fun e2=>by subst e2;exact e (hno v hv hu))];exact hr
 have keys: ∀(b:Nat) (ks:List Int),b≠a->(∀v:Int,v∈ks↔(0<=v/\v<R/\v≠b/\rget fr v=b))->b≠d->∀v:Int,v∈ks↔(0<=v/\v<R/\v≠b/\rget (AZ fr (d:Int) a) v=b):=fun b ks hba hk hbd v=>by
  rw[hk];constructor
  . rintro⟨e2,e3,e4,e5⟩
    obtain⟨u,rfl⟩: ∃u:Nat,v=u:=⟨v.toNat,by omega⟩
    exact fW
  . rintro⟨e2,e3,e4,e5⟩
    obtain⟨u,rfl⟩: ∃u:Nat,v=u:=⟨v.toNat,by omega⟩
    rw[hg]at e5
    by_cases e:u=d
    . rw[if_pos e]at e5;omega
    . rw[if_neg e]at e5;exact⟨e2,e3,e4,e5⟩
 have nones: ∀b:Nat,b≠a->to[b]?=some none->∀v:Nat,v<R->rget (AZ fr (d:Int) a) v=b->v=b:=fun b hba hb v hv e=>by
  rw[hg]at e
  by_cases e2:v=d
  . rw[if_pos e2]at e;omega
  . rw[if_neg e2]at e;exact h.nn b hb v hv e
 obtain⟨o,ho⟩:=h.to_of ha
 cases o with
 | some j=>
  left;obtain⟨ks,k1,k2,k3⟩:=h.sm a j ho;have hlt:j<maps.length:=(List.getElem?_eq_some_iff.1 k1).1;have hdk:(d:Int)∉ks:=fun e=>by have:=((k3 d).1 e).2.2.2;rw[hs]at this;omega
  refine⟨j,ks,ho,k1,hdk,⟨by rw[CT,h.lenF],h.lenT,ran,root,fun b j' hb=>?_,fun b hb=>nones b (fun e=>by subst e;rw[ho]at hb;cases hb) hb,h.inj⟩⟩
  by_cases hj:j'=j
  . subst hj;have:=h.inj b a j' hb ho;subst this;refine⟨ks++[(d:Int)],by rw[List.getElem?_set_self hlt],List.nodup_append.2 ⟨k2,by simp,fun x hx y hy e=>by rw[List.mem_singleton.1 hy]at e;subst e;exact hdk hx⟩,fun v=>?_⟩;rw[List.mem_append,List.mem_singleton,k3];constructor
    . rintro(⟨e2,e3,e4,e5⟩ | rfl)
      . obtain⟨u,rfl⟩: ∃u:Nat,v=u:=⟨v.toNat,by omega⟩
        exact fW
      . exact⟨by omega,by omega,by omega,by rw[hg,if_pos rfl]⟩
    . rintro⟨e2,e3,e4,e5⟩
      obtain⟨u,rfl⟩: ∃u:Nat,v=u:=⟨v.toNat,by omega⟩
      rw[hg]at e5
      by_cases e:u=d
      . right;rw[e]
      . rw[if_neg e]at e5;exact .inl ⟨e2,e3,e4,e5⟩
  . obtain⟨ks',q1,q2,q3⟩:=h.sm b j' hb;have hba:b≠a:=fun e=>hj (by subst e;rw[ho]at hb;cases hb;rfl)
    have hbd:b≠d:=fun e=>by subst e;rw[hn]at hb;cases hb
    exact⟨ks',by rw[List.getElem?_set_ne (Ne.symm hj)];exact q1,q2,keys b ks' hba q3 hbd⟩
 | none=>
  right;have hlen:a<to.length:=by rw[h.lenT];exact ha
  have hmj: ∀b j',to[b]?=some (some j')->j'<maps.length:=fun b j' hb=>by
   obtain⟨ks',q1,_⟩:=h.sm b j' hb;exact(List.getElem?_eq_some_iff.1 q1).1
  refine⟨ho,⟨by rw[CT,h.lenF],by simp[h.lenT],ran,root,fun b j' hb=>?_,fun b hb=>?_,fun b c j' hb hc=>?_⟩⟩
  . rw[List.getElem?_set]at hb
    by_cases hab:a=b
    . subst hab;rw[if_pos rfl,if_pos hlen]at hb
      cases hb
      refine⟨[(d:Int)],by rw[List.getElem?_append_right (Nat.le_refl _)];simp,by simp,fun v=>?_⟩;rw[List.mem_singleton];constructor
      . rintro rfl
        exact⟨by omega,by omega,by omega,by rw[hg,if_pos rfl]⟩
      . rintro⟨e2,e3,e4,e5⟩
        obtain⟨u,rfl⟩: ∃u:Nat,v=u:=⟨v.toNat,by omega⟩
        rw[hg]at e5
        by_cases e:u=d
        . rw[e]
        . rw[if_neg e]at e5;exact absurd (h.nn a ho u (by omega) e5) (by omega)
    . rw[if_neg hab]at hb;obtain⟨ks',q1,q2,q3⟩:=h.sm b j' hb;have hbd:b≠d:=fun e=>by subst e;rw[hn]at hb;cases hb
      exact⟨ks',by rw[List.getElem?_append_left (hmj b j' hb)];exact q1,q2,keys b ks' (Ne.symm hab) q3 hbd⟩
  . rw[List.getElem?_set]at hb
    by_cases hab:a=b
    . rw[if_pos hab,if_pos hlen]at hb;cases hb
    . rw[if_neg hab]at hb;exact nones b (Ne.symm hab) hb
  . rw[List.getElem?_set]at hb hc
    by_cases h1:a=b
    . rw[if_pos h1,if_pos hlen]at hb
      cases hb
      by_cases h2:a=c
      . omega
      . rw[if_neg h2]at hc;have:=hmj c _ hc;omega
    . rw[if_neg h1]at hb
      by_cases h2:a=c
      . rw[if_pos h2,if_pos hlen]at hc;cases hc;have:=hmj b _ hb;omega
      . rw[if_neg h2]at hc;exact h.inj b c j' hb hc
end
theorem Step.unowned{H H':Ax}{ι ι':Ba}{h h':Ab}{w w':World}(hr:HeapRel H ι h w)(hr':HeapRel H' ι' h' w')(st:Step H ι h w H' ι' h' w'){rb:Nat}(hlt:rb<w.heap.size)(hu: ¬Dg h ι rb): ¬Dg h' ι' rb:=by
 rintro⟨b,o,r',h1,h2,h3,h4,rfl⟩
 rcases st.newrb b r' h3 h4 with e | e |⟨r,e1,e2,e3⟩
 . cases hb:h b with
   | none=>have:=st.dom b hb;rw[h1]at this;cases this
   | some o'=>
    cases ho:o'.alive with
    | true=>exact hu ⟨b,o',r',hb,ho,e,h4,rfl⟩
    | false=>
     have:o'= .free:=by cases o'<;>first | rfl | cases ho
     subst this;rw[hr.free b hb]at e;cases e
 . omega
 . cases hb:h b with
   | none=>have:=st.dom b hb;rw[h1]at this;cases this
   | some o'=>
    cases ho:o'.alive with
    | true=>exact hu ⟨b,o',r,hb,ho,e1,e2,e3⟩
    | false=>
     have:o'= .free:=by cases o'<;>first | rfl | cases ho
     subst this;rw[hr.free b hb]at e1;cases e1
theorem HeapRel.away{H:Ax}{ι:Ba}{h:Ab}{w w':World}(hr:HeapRel H ι h w){rb:Nat}(hk: ∀b,b<w.heap.size->b≠rb->w'.heap[b]?=w.heap[b]?)(hu: ¬Dg h ι rb)(hn:H rb=none):HeapRel H ι h w' where
 know:=fun b c hc=>by
  obtain⟨T,fr,e⟩:=hr.know b c hc;exact⟨T,fr,by rw[hk b (hr.knowlt hc) (fun e=>by subst e;rw[hn]at hc;cases hc)];exact e⟩
 free:=hr.free
 obj:=fun b o h1 h2=>by
  obtain⟨r,e1,e2,e3⟩:=hr.obj b o h1 h2;exact⟨r,e1,e2.mono (KLe.refl _) (LLe.refl _) fun hs=>hk r.rb (hr.lt ⟨b,o,r,h1,h2,e1,hs,rfl⟩) fun e=>hu ⟨b,o,r,h1,h2,e1,hs,e⟩,e3⟩
 inj:=hr.inj
 glob:=hr.glob
theorem Step.away{H0 H:Ax}{ι0 ι:Ba}{h0 h:Ab}{w0 w w':World}(st:Step H0 ι0 h0 w0 H ι h w){rb:Nat}(hrb:w0.heap.size<=rb)(hk: ∀b,b<w.heap.size->b≠rb->w'.heap[b]?=w.heap[b]?)(hs:w.heap.size<=w'.heap.size)(ho:w'.os=w.os)(hu:w'.output=w.output):Step H0 ι0 h0 w0 H ι h w' where
 size:=Nat.le_trans st.size hs
 os:=ho.trans st.os
 out:=hu.trans st.out
 keep:=fun b hlt hno=>(hk b (Nat.lt_of_lt_of_le hlt st.size) (by omega)).trans (st.keep b hlt hno)
 kle:=st.kle
 knew:=st.knew
 lle:=st.lle
 lframe:=st.lframe
 newrb:=st.newrb
 dom:=st.dom
theorem HeapRel.back{H:Ax}{ι:Ba}{h:Ab}{w:World}(hr:HeapRel H ι h w){b:Nat}{o:AObj}{r:Ent}(ha:o.alive=true)(hl:ι b=some r)(ho:ObjOk H ι w r o)(hk:r.solid->H r.rb=none)(hu:r.solid->¬Dg h ι r.rb):HeapRel H ι (hput h b o) w where
 know:=hr.know
 free:=fun x e=>by
  by_cases hx:x=b
  . subst hx;rw[Ap]at e;cases e;cases ha
  . rw[AF _ _ hx]at e;exact hr.free x e
 obj:=fun x o' e h2=>by
  by_cases hx:x=b
  . subst hx;rw[Ap]at e;cases e;exact⟨r,hl,ho,hk⟩
  . rw[AF _ _ hx]at e;exact hr.obj x o' e h2
 inj:=fun x x' o1 o2 r1 r2 e1 a1 e2 a2 l1 l2 s1 s2 hne heq=>by
  by_cases hx:x=b
  . subst hx;rw[hl]at l1;cases l1;rw[AF _ _ (Ne.symm hne)]at e2;exact hu s1 ⟨x',o2,r2,e2,a2,l2,s2,heq.symm⟩
  . rw[AF _ _ hx]at e1
    by_cases hx':x'=b
    . subst hx';rw[hl]at l2;cases l2;exact hu s2 ⟨x,o1,r1,e1,a1,l1,s1,heq⟩
    . rw[AF _ _ hx']at e2;exact hr.inj x x' o1 o2 r1 r2 e1 a1 e2 a2 l1 l2 s1 s2 hne heq
 glob:=hr.glob
theorem Step.back{H0 H:Ax}{ι0 ι:Ba}{h0 h:Ab}{w0 w:World}(st:Step H0 ι0 h0 w0 H ι h w){b:Nat}{o:AObj}(hb:h0 b≠none):Step H0 ι0 h0 w0 H ι (hput h b o) w:=
 ⟨st.size,st.os,st.out,st.keep,st.kle,st.knew,st.lle,st.lframe,st.newrb,fun x hx=>by
  by_cases hxb:x=b
  . subst hxb;exact absurd hx hb
  . rw[AF _ _ hxb];exact st.dom x hx⟩
theorem d6{ι ι':Ba}(h:LLe ι ι'){b:Nat}{r:Ent}(hr:ι b=some r)(h0:r.sz=0):ι' b=some r:=by
 obtain⟨r',e1,e2⟩:=h b r hr;rcases e2 with rfl |⟨_,e2,_⟩
 . exact e1
 . omega
theorem XF{es:Array MapEntry}{seen:Array Nat}{e:MapEntry}:(leftOf es (seen.push e.born)).toList=(leftOf es seen).toList.filter (fun x=> !(x.born==e.born)):=by
 unfold leftOf;rw[Array.toList_filter,Array.toList_filter,List.filter_filter];congr 1;funext x;rw[Array.contains_push,Bool.not_or,Bool.and_comm,Bool.and_comm]
theorem NT{e:MapEntry}: ∀{l:List MapEntry},(l.map (·.born)).Nodup->e∈l->∃l1 l2,l=l1++e::l2/\l.filter (fun x=> !(x.born==e.born))=l1++l2
 | [],_,h=>by cases h
 | x::l,hn,h=>by
  have hn':=List.nodup_cons.1 hn;rcases List.mem_cons.1 h with rfl | h
  . refine⟨[],l,rfl,?_⟩;rw[List.filter_cons_of_neg (by simp)];exact List.filter_eq_self.2 fun y hy=>by
     have:y.born≠e.born:=fun e2=>hn'.1 (by show e.born∈_;rw[<-e2];exact List.mem_map.2 ⟨y,hy,rfl⟩)
     simpa using this
  . obtain⟨l1,l2,e1,e2⟩:=NT hn'.2 h;have:x.born≠e.born:=fun e3=>hn'.1 (by show x.born∈_;rw[e3];exact List.mem_map.2 ⟨e,h,rfl⟩)
    refine⟨x::l1,l2,by rw[e1];rfl,?_⟩;rw[List.filter_cons_of_pos (by simpa using this),e2];rfl
def LD(e:MapEntry):Int:=match e.key with | .int _ z=>z | _=>0
theorem EntRel.keys{H:Ax}{K:IntKind}{m:Ez}{es:List MapEntry}(h:EntRel H K m es):es.map LD=m.map (·.1)/\∀e∈es,e.key= .int K (LD e):=by
 induction h with
 | nil=>exact⟨rfl,fun e h=>by cases h⟩
 | cons z v m e es hk hv h ih=>
  refine⟨by simp[LD,hk,ih.1],fun x hx=>?_⟩;rcases List.mem_cons.1 hx with rfl | hx
  . simp[LD,hk]
  . exact ih.2 x hx
structure fd(w:World)(rb mrb since:Nat)(seen:Array Nat)(es:Array MapEntry):Prop where
  it:w.heap[rb]?=some (.mapIter (some mrb) since seen since)
  mp:w.heap[mrb]?=some (.map es since)
theorem Ep{a:Act}{d:Nat}{v:Value}(h:d<a.tmps.size):(a.put (some d) v).eval (.tmp d)=v:=by
 simp[Act.put,Act.eval,h]
theorem IV{e:As}{d:Nat}(h:e d=none):NZ e d=e:=by
 funext x
 by_cases hx:x=d
 . subst hx;rw[Ld,h]
 . rw[Rg _ hx]
section
variable {P : Program} {K : IntKind}
theorem Qi{n:Nat}{γ:Type}{S:γ->Ai}{J:List Int->γ->Prop}{rb mrb since:Nat}{es:Array MapEntry}{tI dN dX dE dY d bid bid2 id5 id6:Nat}{oN oX oE oY oA:Oper}{body:Code}{Q:Exit->Ai->Prop}{tN:TypeId}
 (hN:oN.op= .next (.tmp tI) false/\oN.dst=some dN/\oN.guard=none) (hX:oX.op= .extract (.tmp dN) 0/\oX.dst=some dX/\oX.guard=none) (hE:oE.op= .entry (.tmp tI)/\oE.dst=some dE/\oE.guard=none)
 (hY:oY.op= .extract (.tmp dE) 0/\oY.dst=some dY/\oY.guard=none) (hA:oA.op= .assign (.tmp dY)/\oA.dst=some d/\oA.guard=none) (hlt:dN<n/\dX<n/\dE<n/\dY<n/\d<n) (hne:tI≠dN/\tI≠dX/\tI≠dE/\tI≠dY)
 (hS: ∀g,(S g).n=n/\(S g).env tI=some (.val (.pointer (some ⟨rb,0,none⟩)))/\(S g).env dN=none/\(S g).env dX=none/\(S g).env dE=none/\(S g).env dY=none/\(S g).env d=none)
 (hbo:BornOk since (es.toList.map (·.born))) (hk: ∀e∈es.toList,e.key= .int K (LD e))
 (hround: ∀l1 z l2 g,J (l1++z::l2) g->AGo P body ⟨n,Aa (S g).env d (.int K z),(S g).h⟩ (fun e s'=>e= .normal/\∃g',J (l1++l2) g'/\Sub (S g') s'))
 {b:Nat} {m:Ez} {r:Ent} (hend: ∀g,J [] g->Q .normal ⟨(S g).n,(S g).env,hput (S g).h b (.map (kvs K m))⟩) (hr1:r.sz=0) (hr2:r.solid) (hr3:r.rb=mrb)
 {H0:Ax} {ι0:Ba} {h0:Ab} {w0:World} (hr0:HeapRel H0 ι0 h0 w0) (hb0:h0 b≠none) (hrb0:w0.heap.size<=rb) (hrm:rb≠mrb) {H:Ax} {ι:Ba} {a:Act} {w:World} {seen:Array Nat} {g:γ} (hs:Sim H ι (S g) a w) (hst:Step H0 ι0 h0 w0 H ι (S g).h w) (hit:fd w rb mrb since seen es)
 (hu1: ¬Dg (S g).h ι rb) (hu2: ¬Dg (S g).h ι mrb) (hJ:J ((leftOf es seen).toList.map LD) g) (hl:ι b=some r) (hob:ObjOk H ι w r (.map (kvs K m))):
 (Code.block bid (.loop (.seq (.region id5 #[oN,oX] false) (.seq (.cond (.tmp dX) .skip (.exit bid)) (.block bid2 (.seq (.region id6 #[oE,oY,oA] false) body)))))).wp P (Post H0 ι0 h0 w0 Q) a w:=by
 have hnd:(es.toList.map (·.born)).Nodup:=hbo.1.imp (fun h=>Nat.ne_of_lt h);have hsub: ∀seen,(leftOf es seen).toList.Sublist es.toList:=fun seen=>by unfold leftOf;rw[Array.toList_filter];exact List.filter_sublist
 refine wp_block (wp_loop (fun a w=>∃H ι seen g,Sim H ι (S g) a w/\Step H0 ι0 h0 w0 H ι (S g).h w/\fd w rb mrb since seen es/\¬Dg (S g).h ι rb/\¬Dg (S g).h ι mrb/\J ((leftOf es seen).toList.map LD) g/\ι b=some r/\ObjOk H ι w r (.map (kvs K m)))
  (fun a w=>match w.heap[rb]? with | some (.mapIter _ _ seen _)=>(leftOf es seen).size | _=>0) ⟨H,ι,seen,g,hs,hst,hit,hu1,hu2,hJ,hl,hob⟩ ?_)
 clear hs hst hit hu1 hu2 hJ hl hob H ι seen g a w
 rintro a w ⟨H,ι,seen,g,hs,hst,hit,hu1,hu2,hJ,hl,hob⟩
 obtain⟨s1,s2,s3,s4,s5,s6,s7⟩:=hS g;have hsz:a.tmps.size=n:=by rw[hs.n,s1]
 have hI:a.eval (.tmp tI)= .pointer (some ⟨rb,0,none⟩):=by
  have:=Am hs (o:=.tmp tI) s2;generalize a.eval (.tmp tI)=v at this
  cases this;rfl
 have wN: ∀(ops:Array Oper) (o:Oper) (t:Array Value),o.guard=none->Region.wanted o (yielded ops t)=true:=fun ops o t ho=>by unfold Region.wanted;rw[ho]
 have hrblt:rb<w.heap.size:=(Array.getElem?_eq_some_iff.1 hit.it).1;have hmlt:mrb<w.heap.size:=(Array.getElem?_eq_some_iff.1 hit.mp).1;have hHn:H rb=none:=by
  cases e:H rb with
  | none=>rfl
  | some c=>obtain⟨T,fr,e2⟩:=hs.heap.know rb c e;rw[hit.it]at e2;cases e2
 have hold: ∀x∈es.toList,x.born<since:=fun x hx=>hbo.2 _ (List.mem_map.2 ⟨x,hx,rfl⟩)
 have hHm:H mrb=none:=by
  cases e:H mrb with
  | none=>rfl
  | some c=>obtain⟨T,fr,e2⟩:=hs.heap.know mrb c e;rw[hit.mp]at e2;cases e2
 have hexit: ∀(v:Value),((leftOf es seen).toList=[])->Post H0 ι0 h0 w0 Q .normal ((a.put (some dN) v).put (some dX) (.bool false)) w:=fun v hz=>by
  rw[hz]at hJ;have k3:=hs.put (d:=some dN) (r:=none) (v:=v) hs.heap (Step.refl _ _ _ _) (fun x e=>by cases e) (fun t e=>by cases e;rw[s1];exact hlt.1);have e1:(⟨(S g).n,GC (S g).env (some dN) none,(S g).h⟩:Ai)=S g:=by
   show(⟨(S g).n,NZ (S g).env dN,(S g).h⟩:Ai)=S g;rw[IV s3]
  rw[e1]at k3;have k4:=k3.put (d:=some dX) (r:=none) (v:=.bool false) k3.heap (Step.refl _ _ _ _) (fun x e=>by cases e) (fun t e=>by cases e;rw[s1];exact hlt.2.1);have e2:(⟨(S g).n,GC (S g).env (some dX) none,(S g).h⟩:Ai)=S g:=by
   show(⟨(S g).n,NZ (S g).env dX,(S g).h⟩:Ai)=S g;rw[IV s4]
  rw[e2]at k4;exact⟨_,H,ι,hend g hJ,⟨k4.n,k4.d,k4.env,k4.heap.back rfl hl hob (fun _=>by rw[hr3];exact hHm) (fun _=>by rw[hr3];exact hu2)⟩,hst.back hb0⟩
 rcases run_next_at (P:=P) w oN.type rb mrb since since seen es since hit.it hit.mp hold (Nat.le_refl _)with⟨hz,hrun⟩ |⟨en,hen,w1,hw1,hrun⟩
 . -- none is left
   have hlz:(leftOf es seen).toList=[]:=List.eq_nil_of_length_eq_zero (by simpa using hz);refine wp_seq (wp_region_list ?_);unfold wpList;rw[wN _ _ _ hN.2.2,if_pos rfl];refine .inl ?_;unfold Oper.wp;rw[show(execOp a.eval oN).run P w= .ok (.value (.tuple #[.bool false])) w by simp[execOp,hN.1,hI,hrun]];show wpList P _ _ [oX] (a.put oN.dst _) w;rw[hN.2.1];unfold wpList;rw[wN _ _ _ hX.2.2,if_pos rfl];refine .inl ?_;unfold Oper.wp;rw[show(execOp (a.put (some dN) (.tuple #[.bool false])).eval oX).run P w= .ok (.value (.bool false)) w by simp[execOp,hX.1,Ep (by rw[hsz];exact hlt.1),Instr.extract]];rw[Oper.upon_value,hX.2.1];unfold wpList;show(Code.seq _ _).wp P _ _ w;refine wp_seq (wp_cond_false (Ep (by simp[Act.put,hsz];exact hlt.2.1)) (wp_exit ?_));show Exit.inBlock bid (Post H0 ι0 h0 w0 Q) (.exit bid) _ w;simp only[Exit.inBlock,if_true];exact hexit _ hlz
 . have hmem:=(hsub seen).subset hen;have hkey:=hk en hmem;have hns:((leftOf es seen).toList.map (·.born)).Nodup:=hnd.sublist ((hsub seen).map _);obtain⟨l1,l2,q1,q2⟩:=NT hns hen;have hlp:(leftOf es (seen.push en.born)).toList=l1++l2:=by rw[XF,q2]
   refine wp_seq (wp_region_list ?_);unfold wpList;rw[wN _ _ _ hN.2.2,if_pos rfl];refine .inl ?_;unfold Oper.wp
   let w2:=ChangeMaps.setBlock w1 rb (.mapIter (some mrb) since (seen.push en.born) since)
   rw[show(execOp a.eval oN).run P w= .ok (.value (.tuple #[.bool true,en.key,en.val])) w2 by simp[execOp,hN.1,hI,hrun];rfl];have hw1h:w1.heap=w.heap/\w1.os=w.os/\w1.output=w.output:=by rcases hw1 with rfl | rfl<;>exact⟨rfl,rfl,rfl⟩
   have hw2h: ∀b,b≠rb->w2.heap[b]?=w.heap[b]?:=fun b hb=>by
    show(w1.heap.setIfInBounds rb _)[b]?=_;rw[hw1h.1,Array.getElem?_setIfInBounds_ne (Ne.symm hb)]
   have hit2:fd w2 rb mrb since (seen.push en.born) es:=by
    refine⟨?_,by rw[hw2h _ (Ne.symm hrm)];exact hit.mp⟩;show(w1.heap.setIfInBounds rb _)[rb]?=_;rw[hw1h.1];simp[hrblt]
   have hs2:HeapRel H ι (S g).h w2:=hs.heap.away (fun b _ hb=>hw2h b hb) hu1 hHn;have hst2:Step H0 ι0 h0 w0 H ι (S g).h w2:=hst.away hrb0 (fun b _ hb=>hw2h b hb) (by show _<=(w1.heap.setIfInBounds rb _).size;rw[hw1h.1];simp) (by show w1.os=_;exact hw1h.2.1) (by show w1.output=_;exact hw1h.2.2);show wpList P _ _ [oX] (a.put oN.dst _) w2;rw[hN.2.1];unfold wpList;rw[wN _ _ _ hX.2.2,if_pos rfl];refine .inl ?_;unfold Oper.wp;rw[show(execOp (a.put (some dN) (.tuple #[.bool true,en.key,en.val])).eval oX).run P w2= .ok (.value (.bool true)) w2 by simp[execOp,hX.1,Ep (by rw[hsz];exact hlt.1),Instr.extract]];rw[Oper.upon_value,hX.2.1];unfold wpList;show(Code.seq _ _).wp P _ _ w2;refine wp_seq (wp_cond_true (Ep (by simp[Act.put,hsz];exact hlt.2.1)) (wp_skip ?_));show(Code.block _ _).wp P _ _ w2
   let a2:=(a.put (some dN) (.tuple #[.bool true,en.key,en.val])).put (some dX) (.bool true)
   have hI2:a2.eval (.tmp tI)= .pointer (some ⟨rb,0,none⟩):=by
    rw[<-hI];simp only[a2,Act.put,Act.eval];rw[Array.getD_eq_getD_getElem?,Array.getD_eq_getD_getElem?,Array.getElem?_setIfInBounds_ne (Ne.symm hne.2.1),Array.getElem?_setIfInBounds_ne (Ne.symm hne.1)]
   have hsz2:a2.tmps.size=n:=by simp[a2,Act.put,hsz]
   have hsz3:(a2.put (some dE) (.tuple #[en.key,en.val])).tmps.size=n:=by rw[<-hsz2];simp[Act.put]
   refine wp_block (wp_seq (wp_region_list ?_));unfold wpList;rw[wN _ _ _ hE.2.2,if_pos rfl];refine .inl ?_;unfold Oper.wp;rw[show(execOp a2.eval oE).run P w2= .ok (.value (.tuple #[en.key,en.val])) w2 by simp[execOp,hE.1,hI2,run_entry_at w2 rb mrb since seen es since en hit2.it hit2.mp hmem hnd]];show wpList P _ _ [oY,oA] (a2.put oE.dst _) w2;rw[hE.2.1];unfold wpList;rw[wN _ _ _ hY.2.2,if_pos rfl];refine .inl ?_;unfold Oper.wp;rw[show(execOp (a2.put (some dE) (.tuple #[en.key,en.val])).eval oY).run P w2= .ok (.value en.key) w2 by simp[execOp,hY.1,Ep (by rw[hsz2];exact hlt.2.2.1),Instr.extract]];show wpList P _ _ [oA] ((a2.put (some dE) _).put oY.dst _) w2;rw[hY.2.1];unfold wpList;rw[wN _ _ _ hA.2.2,if_pos rfl];refine .inl ?_;unfold Oper.wp;rw[show(execOp ((a2.put (some dE) (.tuple #[en.key,en.val])).put (some dY) en.key).eval oA).run P w2= .ok (.value en.key) w2 by simp[execOp,hA.1,Ep (a:=a2.put (some dE) (.tuple #[en.key,en.val])) (d:=dY) (v:=en.key) (by rw[hsz3];exact hlt.2.2.2.1)]]
   rw[Oper.upon_value,hA.2.1];unfold wpList;show body.wp P _ _ w2;have drop: ∀{a':Act} {dd:Nat} {v:Value},Sim H ι (S g) a' w2->(S g).env dd=none->dd<n->Sim H ι (S g) (a'.put (some dd) v) w2:=fun {a' dd v} k1 k2 k3=>by
    have k4:=k1.put (d:=some dd) (r:=none) (v:=v) k1.heap (Step.refl _ _ _ _) (fun x e=>by cases e) (fun t e=>by cases e;rw[s1];exact k3);have e1:(⟨(S g).n,GC (S g).env (some dd) none,(S g).h⟩:Ai)=S g:=by
     show(⟨(S g).n,NZ (S g).env dd,(S g).h⟩:Ai)=S g;rw[IV k2]
    rwa[e1]at k4
   have k0:Sim H ι (S g) a w2:=⟨hs.n,hs.d,hs.env,hs2⟩;have k5:=drop (v:=en.key) (drop (v:=.tuple #[en.key,en.val]) (drop (v:=.bool true) (drop (v:=.tuple #[.bool true,en.key,en.val]) k0 s3 hlt.1) s4 hlt.2.1) s5 hlt.2.2.1) s6 hlt.2.2.2.1;have k6:=k5.put (d:=some d) (r:=some (.int K (LD en))) (v:=en.key) k5.heap (Step.refl _ _ _ _) (fun x e=>by cases e;rw[hkey];exact .int _ _ _) (fun t e=>by cases e;rw[s1];exact hlt.2.2.2.2);rw[s1]at k6;rw[q1,List.map_append,List.map_cons]at hJ;refine wp_mono (hround _ _ _ g hJ H ι _ w2 k6) fun e' a3 w3 hp=>?_
   obtain⟨s',H',ι',⟨rfl,g',hJ',hsb⟩,r,t⟩:=hp;have r2:=r.sub hsb;have u1:=t.unowned hs2 r.heap (by rw[show w2.heap.size=w.heap.size by show(w1.heap.setIfInBounds rb _).size=_;rw[hw1h.1];simp];exact hrblt) hu1;have u2:=t.unowned hs2 r.heap gm hu2;have ow: ∀{x:Nat},¬Dg s'.h ι' x->¬Dg (S g').h ι' x:=fun hn ⟨b,o,r',h1,h2⟩=>hn ⟨b,o,r',hsb.2.2 b o h1,h2⟩
   have st3:Step H0 ι0 h0 w0 H' ι' (S g').h w3:=by
    have hg:Ghost s' (S g'):=Ghost.of_sub hsb;have h1:=hst2.trans hr0 hs2 t;refine⟨h1.size,h1.os,h1.out,h1.keep,h1.kle,h1.knew,h1.lle,h1.lframe,h1.newrb,fun b hb=>?_⟩
    cases e:(S g').h b with
    | none=>rfl
    | some o=>have h3:=hsb.2.2 b o e;rw[h1.dom b hb]at h3;cases h3
   have it3:fd w3 rb mrb since (seen.push en.born) es:=by
    refine⟨?_,?_⟩
    . rw[t.keep rb (by rw[show w2.heap.size=w.heap.size by show(w1.heap.setIfInBounds rb _).size=_;rw[hw1h.1];simp];exact hrblt) hu1];exact hit2.it
    . rw[t.keep mrb gm hu2];exact hit2.mp
   refine⟨⟨H',ι',seen.push en.born,g',r2,st3,it3,ow u1,ow u2,by rw[hlp,List.map_append];exact hJ',d6 t.lle hl hr1,hob.mono t.kle t.lle fun hs'=>by rw[hr3,t.keep mrb gm hu2];exact hw2h _ (Ne.symm hrm)⟩,?_⟩;have hlen:(leftOf es (seen.push en.born)).size<(leftOf es seen).size:=by
    rw[<-Array.length_toList,<-Array.length_toList,hlp,q1];simp
   rw[it3.it,hit.it];exact hlen
theorem G4{ops:Array Oper}{Q:Exit->Act->World->Prop}{l2:List Oper}: ∀(l1:List Oper) (a:Act) (w:World),wpList P ops (Exit.then (wpList P ops Q l2) Q) l1 a w->wpList P ops Q (l1++l2) a w
 | [],a,w,h=>h
 | o::l1,a,w,h=>by
  rw[List.cons_append];unfold wpList at h |-
  by_cases hw:Region.wanted o (yielded ops a.tmps)=true
  . rw[if_pos hw]at h |-;rcases h with h |⟨h1,a2,w2,h2⟩
    . refine .inl ?_;have h':=Oper.wp_mono (fun a2 w2=>G4 l1 a2 w2) h;clear h;unfold Oper.wp at h' |-;generalize(execOp a.eval o).run P w=res at h' |-
      cases res with
      | ok n w3=>
       cases n<;>simp only[Oper.upon]at h' |- <;>first
        | exact h'
        | exact Calls.mono h' (fun e w4 he=>by cases e<;>first | exact he |(obtain⟨a3,w5,hp3⟩:=he;exact⟨a3,w5,hp3⟩))
      | halt x w3=>cases x<;>simp only[Oper.upon]at h' |- <;>exact h'
    . exact .inr ⟨h1,a2,w2,h2⟩
  . rw[if_neg hw]at h |-;exact G4 l1 _ _ h
theorem Gf{ops:Array Oper}{Q Q':Exit->Act->World->Prop}(hpost: ∀e a w,Q e a w->Q' e a w): ∀(l:List Oper) (a:Act) (w:World),wpList P ops Q l a w->wpList P ops Q' l a w
 | [],a,w,h=>hpost _ _ _ h
 | o::l1,a,w,h=>by
  unfold wpList at h |-
  by_cases hw:Region.wanted o (yielded ops a.tmps)=true
  . rw[if_pos hw]at h |-;rcases h with h |⟨h1,a2,w2,h2⟩
    . refine .inl ?_;have h':=Oper.wp_mono (fun a2 w2=>Gf hpost l1 a2 w2) h;clear h;unfold Oper.wp at h' |-;generalize(execOp a.eval o).run P w=res at h' |-
      cases res with
      | ok n w3=>
       cases n<;>simp only[Oper.upon]at h' |- <;>first
        | exact h'
        | exact Calls.mono h' gn
      | halt x w3=>cases x<;>simp only[Oper.upon]at h' |- <;>first | exact hpost _ _ _ h' | exact h'
    . exact .inr ⟨h1,a2,w2,hpost _ _ _ h2⟩
  . rw[if_neg hw]at h |-;exact Gf hpost l1 _ _ h
theorem Vi{T:Nat->Option Ar}(hT:Cn P T){n:Nat}{γ:Type}{S:Nat->γ->Ai}{J:List Int->γ->Prop}{m:Ez}{tI dN dX dE dY d bid bid2 id4 id5 id6 b:Nat}{ops:Array Oper}{oR oN oX oE oY oA:Oper}{body:Code}{Q:Exit->Ai->Prop}
 {s:Ai} {e:As} {h:Ab} {t kt et:TypeId} {x:Operand} {i:Ar} (g0:γ) (kp:Nat) (hops:ops.toList=ops.toList.take kp++[oR]) (hpre:AOps P ops (ops.toList.take kp) s (fun s'=>Sub ⟨n,e,h⟩ s'))
 (hR:oR.op= .range t x/\oR.dst=some tI/\oR.guard=none) (hx:Ak e x=some (.map b)) (hi:T t=some i) (hik:i.k= .map kt et) (hb:h b=some (.map (kvs K m)))
 (hN:oN.op= .next (.tmp tI) false/\oN.dst=some dN/\oN.guard=none) (hX:oX.op= .extract (.tmp dN) 0/\oX.dst=some dX/\oX.guard=none) (hE:oE.op= .entry (.tmp tI)/\oE.dst=some dE/\oE.guard=none)
 (hY:oY.op= .extract (.tmp dE) 0/\oY.dst=some dY/\oY.guard=none) (hA:oA.op= .assign (.tmp dY)/\oA.dst=some d/\oA.guard=none) (hlt:dN<n/\dX<n/\dE<n/\dY<n/\d<n) (hlt2:tI<n) (hne:tI≠dN/\tI≠dX/\tI≠dE/\tI≠dY)
 (hS: ∀rb g,(S rb g).n=n/\(S rb g).env tI=some (.val (.pointer (some ⟨rb,0,none⟩)))/\(S rb g).env dN=none/\(S rb g).env dX=none/\(S rb g).env dE=none/\(S rb g).env dY=none/\(S rb g).env d=none)
 (hJ:J (m.map (·.1)) g0) (hsub: ∀rb,Sub (S rb g0) ⟨n,Aa e tI (.val (.pointer (some ⟨rb,0,none⟩))),hrm h b⟩)
 (hround: ∀rb l1 z l2 g,J (l1++z::l2) g->AGo P body ⟨n,Aa (S rb g).env d (.int K z),(S rb g).h⟩ (fun e s'=>e= .normal/\∃g',J (l1++l2) g'/\Sub (S rb g') s'))
 (hend: ∀rb g,J [] g->Q .normal ⟨n,(S rb g).env,hput (S rb g).h b (.map (kvs K m))⟩):
 AGo P (.seq (.region id4 ops false) (.block bid (.loop (.seq (.region id5 #[oN,oX] false) (.seq (.cond (.tmp dX) .skip (.exit bid)) (.block bid2 (.seq (.region id6 #[oE,oY,oA] false) body))))))) s Q:=by
 intro H0 ι0 a0 w0 hs0;refine wp_seq (wp_region_list ?_);rw[hops];refine G4 _ _ _ (Gf (fun e' a w hp=>?_) _ _ _ (hpre H0 ι0 a0 w0 hs0));obtain⟨s',H,ι,q,hs',hst'⟩:=hp
 cases e' with
 | normal=>
  replace q:Sub ⟨n,e,h⟩ s':=q
  have hs:=hs'.sub q;have hst:Step H0 ι0 s.h w0 H ι h w:=⟨hst'.size,hst'.os,hst'.out,hst'.keep,hst'.kle,hst'.knew,hst'.lle,hst'.lframe,hst'.newrb,fun b hb=>by
   cases e9:h b with
   | none=>rfl
   | some o=>have h3:=q.2.2 b o e9;rw[hst'.dom b hb]at h3;cases h3⟩
  show wpList P ops _ [oR] a w;obtain⟨r,hr,hr0,hvx⟩:=(Am hs hx).map_inv;obtain⟨r',hl,hob,r5⟩:=hs.heap.obj b _ hb rfl;rw[hr]at hl;cases hl;obtain⟨r1,r2,es,clk,r3,r4,r6⟩:=id hob;obtain⟨info,dd,e1,e2,e3,e4,e5,e6⟩:=Aj (hT _ _ hi);have hd1:=G5 (P:=P) (d:=dd) (e3▸hik);subst hd1;unfold wpList;rw[show Region.wanted oR (yielded ops a.tmps)=true by unfold Region.wanted;rw[hR.2.2],if_pos rfl];refine .inl ?_;unfold Oper.wp;rw[show(execOp a.eval oR).run P w= .ok (.value (.pointer (some ⟨w.heap.size,0,none⟩))) (w.alloc (.mapIter (some r.rb) clk #[] clk)) by simp[execOp,hR.1,Instr.range,hvx,Al e2,MapKept.run_getObj_map r3]];rw[Oper.upon_value,hR.2.1];unfold wpList
  let w1:=w.alloc (.mapIter (some r.rb) clk #[] clk)
  have hg: ∀b,b<w.heap.size->w1.heap[b]?=w.heap[b]?:=fun b hlt=>heap_alloc_old w _ hlt
  have hs1:HeapRel H ι h w1:=hs.heap.grow hg;have hst1:Step H ι h w H ι h w1:=Step.grow hg (by simp[w1]) rfl rfl;have k1:=hs.put (d:=some tI) (r:=some (.val (.pointer (some ⟨w.heap.size,0,none⟩)))) (v:=.pointer (some ⟨w.heap.size,0,none⟩)) hs1 hst1 (fun x e=>by cases e;exact .val _ _ rfl) (fun t e=>by cases e;exact hlt2);have hrm':HSub (hrm h b) h:=fun x o hx=>by
   exact fV
  have k2:Sim H ι ⟨n,Aa e tI (.val (.pointer (some ⟨w.heap.size,0,none⟩))),hrm h b⟩ (a.put (some tI) (.pointer (some ⟨w.heap.size,0,none⟩))) w1:=k1.sub ⟨rfl,fun _ _ h=>h,hrm'⟩;have k3:=k2.sub (hsub w.heap.size);have hS0:=hS w.heap.size g0;have hsb:HSub (S w.heap.size g0).h h:=fun x o hx=>hrm' x o ((hsub w.heap.size).2.2 x o hx)
  have hu1: ¬Dg (S w.heap.size g0).h ι w.heap.size:=fun⟨b',o,r',h1,h2,h3,h4,h5⟩=>Nat.lt_irrefl _ (h5▸hs.heap.lt ⟨b',o,r',hsb _ _ h1,h2,h3,h4,rfl⟩)
  have hu2: ¬Dg (S w.heap.size g0).h ι r.rb:=fun⟨b',o,r',h1,h2,h3,h4,h5⟩=>by
   have h6:=(hsub w.heap.size).2.2 b' o h1
   by_cases hbb:b'=b
   . subst hbb;have h6':hrm h b' b'=some o:=h6;rw[FY]at h6';cases h6'
   . exact hs.heap.inj b' b o _ r' r (hsb _ _ h1) h2 hb rfl h3 hr h4 r2 hbb h5
  have hkeys:=(mapCells_iff.1 r4).keys;have st0:Step H0 ι0 s.h w0 H ι (S w.heap.size g0).h w1:=by
   have h1:=hst.trans hs0.heap hs.heap hst1;refine⟨h1.size,h1.os,h1.out,h1.keep,h1.kle,h1.knew,h1.lle,h1.lframe,h1.newrb,fun b hb=>?_⟩
   cases e:(S w.heap.size g0).h b with
   | none=>rfl
   | some o=>have h3:=hsb b o e;have h4:=h1.dom b hb;rw[show h b=_ from h3]at h4;cases h4
  have hleft:(leftOf es #[]).toList=es.toList:=by unfold leftOf;rw[Array.toList_filter];exact List.filter_eq_self.2 fun _ _=>by simp
  show(Code.block bid _).wp P _ _ w1;exact Qi (S:=S w.heap.size) (J:=J) (K:=K) (tN:=0) hN hX hE hY hA hlt hne (hS _) r6 hkeys.2 (hround _) (b:=b) (m:=m) (r:=r) (fun g hg=>by rw[(hS w.heap.size g).1];exact hend _ g hg) r1 r2 rfl hs0.heap (fun e=>by have h9:h b=none:=hst.dom b e;rw[hb]at h9;cases h9) hst.size (by have:=hs.heap.lt ⟨b,_,r,hb,rfl,hr,r2,rfl⟩;omega) k3 st0 ⟨heap_alloc_new w _,by rw[hg _ (hs.heap.lt ⟨b,_,r,hb,rfl,hr,r2,rfl⟩)];exact r3⟩ hu1 hu2 (by rw[hleft,hkeys.1];exact hJ) hr (hob.mono (KLe.refl _) (LLe.refl _) fun _=>hg _ (hs.heap.lt ⟨b,_,r,hb,rfl,hr,r2,rfl⟩))
 | _=>exact q.elim
end
section
variable {P : Program}
theorem Vh{T:Nat->Option Ar}(hT:Cn P T){n:Nat}{tI dN dX bid id4 id5:Nat}{ops:Array Oper}{oR oN oX:Oper}{body:Code}{Q:Exit->Ai->Prop}{s:Ai}{e:As}{h:Ab}{t kt et:TypeId}{x:Operand}{i:Ar}
 (kp:Nat) (hops:ops.toList=ops.toList.take kp++[oR]) (hpre:AOps P ops (ops.toList.take kp) s (fun s'=>Sub ⟨n,e,h⟩ s')) (hR:oR.op= .range t x/\oR.dst=some tI/\oR.guard=none) (hx:Ak e x=some (.val (.map none))) (hi:T t=some i) (hik:i.k= .map kt et)
 (hN:oN.op= .next (.tmp tI) false/\oN.dst=some dN/\oN.guard=none) (hX:oX.op= .extract (.tmp dN) 0/\oX.dst=some dX/\oX.guard=none) (hlt:tI<n/\dN<n/\dX<n) (hne:e tI=none/\e dN=none/\e dX=none) (hend:Q .normal ⟨n,e,h⟩):
 AGo P (.seq (.region id4 ops false) (.block bid (.loop (.seq (.region id5 #[oN,oX] false) (.seq (.cond (.tmp dX) .skip (.exit bid)) body))))) s Q:=by
 intro H0 ι0 a0 w0 hs0;refine wp_seq (wp_region_list ?_);rw[hops];refine G4 _ _ _ (Gf (fun e' a w hp=>?_) _ _ _ (hpre H0 ι0 a0 w0 hs0));obtain⟨s',H,ι,q,hs',hst'⟩:=hp
 cases e' with
 | normal=>
  replace q:Sub ⟨n,e,h⟩ s':=q
  have hs:=hs'.sub q;have hst:Step H0 ι0 s.h w0 H ι h w:=⟨hst'.size,hst'.os,hst'.out,hst'.keep,hst'.kle,hst'.knew,hst'.lle,hst'.lframe,hst'.newrb,fun b hb=>by
   cases e9:h b with
   | none=>rfl
   | some o=>have h3:=q.2.2 b o e9;rw[hst'.dom b hb]at h3;cases h3⟩
  show wpList P ops _ [oR] a w;have hvx:=((Am hs hx).val_inv).1;obtain⟨info,dd,e1,e2,e3,e4,e5,e6⟩:=Aj (hT _ _ hi);have hd1:=G5 (P:=P) (d:=dd) (e3▸hik);subst hd1;have wN: ∀(ops:Array Oper) (o:Oper) (t:Array Value),o.guard=none->Region.wanted o (yielded ops t)=true:=fun ops o t ho=>by unfold Region.wanted;rw[ho]
  unfold wpList;rw[wN _ _ _ hR.2.2,if_pos rfl];refine .inl ?_;unfold Oper.wp;rw[show(execOp a.eval oR).run P w= .ok (.value (.pointer (some ⟨w.heap.size,0,none⟩))) (w.alloc (.mapIter none 0 #[] 0)) by simp[execOp,hR.1,Instr.range,hvx,Al e2]];rw[Oper.upon_value,hR.2.1];unfold wpList
  let w1:=w.alloc (.mapIter none 0 #[] 0)
  have hg: ∀b,b<w.heap.size->w1.heap[b]?=w.heap[b]?:=fun b hlt=>heap_alloc_old w _ hlt
  have hs1:HeapRel H ι h w1:=hs.heap.grow hg;have hst1:Step H ι h w H ι h w1:=Step.grow hg (by simp[w1]) rfl rfl;have drop: ∀{a':Act} {dd:Nat} {v:Value},Sim H ι ⟨n,e,h⟩ a' w1->e dd=none->dd<n->Sim H ι ⟨n,e,h⟩ (a'.put (some dd) v) w1:=fun {a' dd v} k1 k2 k3=>by
   have k4:=k1.put (d:=some dd) (r:=none) (v:=v) k1.heap (Step.refl _ _ _ _) (fun x e=>by cases e) (fun t e=>by cases e;exact k3);have e1:(⟨n,GC e (some dd) none,h⟩:Ai)=⟨n,e,h⟩:=by
    show(⟨n,NZ e dd,h⟩:Ai)=_;rw[IV k2]
   rwa[e1]at k4
  have k1:Sim H ι ⟨n,e,h⟩ a w1:=⟨hs.n,hs.d,hs.env,hs1⟩;have k2:=drop (v:=.pointer (some ⟨w.heap.size,0,none⟩)) k1 hne.1 hlt.1;show(Code.block bid _).wp P _ _ w1;refine wp_block (wp_loop_once ?_);have hsz:a.tmps.size=n:=hs.n
  let a1:=a.put (some tI) (.pointer (some ⟨w.heap.size,0,none⟩))
  have hsz1:a1.tmps.size=n:=by rw[<-hsz];simp[a1,Act.put]
  have hI:a1.eval (.tmp tI)= .pointer (some ⟨w.heap.size,0,none⟩):=Ep (by rw[hsz];exact hlt.1);have hit:w1.heap[w.heap.size]?=some (.mapIter none 0 #[] 0):=heap_alloc_new w _;have hgo:(getObj w.heap.size).run P w1= .ok (.mapIter none 0 #[] 0) w1:=by simp[getObj,Sem.run,hit]
  refine wp_seq (wp_region_list ?_);unfold wpList;rw[wN _ _ _ hN.2.2,if_pos rfl];refine .inl ?_;unfold Oper.wp;rw[show(execOp a1.eval oN).run P w1= .ok (.value (.tuple #[.bool false])) w1 by simp[execOp,hN.1,hI,Instr.next,hgo]];show wpList P _ _ [oX] (a1.put oN.dst _) w1;rw[hN.2.1];unfold wpList;rw[wN _ _ _ hX.2.2,if_pos rfl];refine .inl ?_;unfold Oper.wp;rw[show(execOp (a1.put (some dN) (.tuple #[.bool false])).eval oX).run P w1= .ok (.value (.bool false)) w1 by simp[execOp,hX.1,Ep (a:=a1) (d:=dN) (v:=.tuple #[.bool false]) (by rw[hsz1];exact hlt.2.1),Instr.extract]];rw[Oper.upon_value,hX.2.1];unfold wpList;show(Code.seq _ _).wp P _ _ w1;refine wp_seq (wp_cond_false (Ep (by simp[Act.put,hsz1];exact hlt.2.2)) (wp_exit ?_));show Exit.inBlock bid _ (.exit bid) _ w1;simp only[Exit.inBlock,if_true];exact⟨_,H,ι,hend,drop (v:=.bool false) (drop (v:=.tuple #[.bool false]) k2 hne.2.1 hlt.2.1) hne.2.2 hlt.2.2,hst.trans hs0.heap hs.heap hst1⟩
 | _=>exact q.elim
end
section
variable {P : Program} {T : Nat -> Option Ar} {o : Oper} {e : As} {h : Ab}
theorem Sl(hT:Cn P T){t t' kt et:TypeId}{x:Operand}{p:AV}{i:Ar}{r:Bool}(hr:p= .val (.map none)/\r=true\/(∃b,p= .map b)/\r=false)(hi:T t=some i)(hik:i.k= .map kt et)(ho:o.op= .binOp .eql t x (.const (.map none)) t':=by exact rfl)(hx:Ak e x=some p:=by exact rfl):QLoc P o e h [] (.bool r):=by
 intro H ι a w s hs g1 g2;have hx':Ak s.env x=some p:=by rw[g1 x (by rw[ho];simp[Op.operands]),hx]
 obtain⟨info,dd,e1,e2,e3,e4,e5,e6⟩:=Aj (hT _ _ hi);have hd1:=G5 (P:=P) (d:=dd) (e3▸hik);subst hd1;have hn:a.eval (.const (.map none))= .map none:=rfl;refine⟨.bool r,.bool _ _,?_⟩;rcases hr with⟨rfl,rfl⟩ |⟨⟨b,rfl⟩,rfl⟩
 . have hv:a.eval x= .map none:=((Am hs hx').val_inv).1;have he:(Op.equalIn 10000 t (.map none) (.map none)).run P w= .ok true w:=by
    rw[Op.equalIn];simp[Al e2]
   simp only[execOp,ho,hv,hn,eqGuard,binOp,Op.equal,Op.maxDepth,Sem.run_bind,Result.andThen_ok,Sem.run_pure,he,Bool.not_true,Bool.false_eq_true,if_false]
 . obtain⟨q,hq,hq0,hv⟩:=(Am hs hx').map_inv;have he:(Op.equalIn 10000 t (.map (some q.rb)) (.map none)).run P w= .ok false w:=by
    rw[Op.equalIn];simp[Al e2]
   simp only[execOp,ho,hv,hn,eqGuard,binOp,Op.equal,Op.maxDepth,Sem.run_bind,Result.andThen_ok,Sem.run_pure,he,Bool.not_true,Bool.false_eq_true,if_false]
end
def FV(l:List Int):List (List AV):=l.map fun n=>[AV.int .i64 n]
theorem BX(l:List Int):(FV l).length=l.length:=by simp[FV]
theorem Kj{l:List Int}{z:Int}(h:0<=z/\z<l.length):(FV l)[0+z.toNat]?=some [AV.int .i64 (rget l z)]:=by
 grind[Ae,FV,rget]
theorem IU(l:List Int)(z v:Int):(FV l).set (0+z.toNat) [AV.int .i64 v]=FV (AZ l z v):=by
 rw[Nat.zero_add,FV,FV,AZ,List.map_set]
def LY:Option Nat->List AV
  | none=>[.val (.map none)]
  | some j=>[.map (j+16)]
theorem H9{to:List (Option Nat)}{a:Nat}{o:Option Nat}(h:to[a]?=some o):(to.map LY)[0+((a:Nat):Int).toNat]?=some (LY o):=by
 grind
theorem NM(to:List (Option Nat))(a:Nat)(o:Option Nat):(to.map LY).set (0+((a:Nat):Int).toNat) (LY o)=(to.set a o).map LY:=by
 (simp_all;done)
def famM(maps:List (List Int))(i:Nat):AObj:=match maps[i]? with
  | some ks=>.map (kvs .i64 (RB ks))
  | none=>.free
theorem Hn{maps:List (List Int)}{j:Nat}{ks:List Int}(h:maps[j]?=some ks):famM maps j= .map (kvs .i64 (RB ks)):=by unfold famM;rw[h]
theorem X4{maps:List (List Int)}:famM maps maps.length= .free:=by unfold famM;rw[List.getElem?_eq_none (Nat.le_refl _)]
def FH(h:Ab)(R:Nat)(fr:List Int)(to:List (Option Nat))(maps:List (List Int)):Ab:=fun x=>
  bif Nat.ble 16 x then some (famM maps (x-16))else bif Nat.beq x 2 then some (.row false 2 [[.ref 3 R 0 R,.ref 4 R 0 R]])else bif Nat.beq x 3 then some (.row true 1 (FV fr))else bif Nat.beq x 4 then some (.row false 1 (to.map LY))else h x
section
variable {h : Ab} {R : Nat} {fr : List Int} {to : List (Option Nat)} {maps : List (List Int)}
theorem Ip(j:Nat):FH h R fr to maps (j+16)=some (famM maps j):=by
 unfold FH;rw[show Nat.ble 16 (j+16)=true by rw[Nat.ble_eq];omega,show j+16-16=j by omega];rfl
theorem iX{x:Nat}(hx:x<16):Nat.ble 16 x=false:=by
 cases e:Nat.ble 16 x with
 | false=>rfl
 | true=>rw[Nat.ble_eq]at e;omega
theorem TJ{x:Nat}(hx:x<16):FH h R fr to maps x=bif Nat.beq x 2 then some (.row false 2 [[.ref 3 R 0 R,.ref 4 R 0 R]])else bif Nat.beq x 3 then some (.row true 1 (FV fr))else bif Nat.beq x 4 then some (.row false 1 (to.map LY))else h x:=by
 grind[FH,iX,FV,LY]
theorem Mn(fr':List Int):hput (FH h R fr to maps) 3 (.row true 1 (FV fr'))=FH h R fr' to maps:=by
 funext x
 by_cases hx:x=3
 . subst hx;rw[Ap];rfl
 grind[AF,TJ,Ip,hput,FH,FV]
theorem fL(to':List (Option Nat)):hput (FH h R fr to maps) 4 (.row false 1 (to'.map LY))=FH h R fr to' maps:=by
 funext x
 by_cases hx:x=4
 . subst hx;rw[Ap];rfl
 grind[AF,TJ,Ip,hput,FH,LY]
theorem cu{j:Nat}{o:AObj}{maps':List (List Int)}(hj:famM maps' j=o)(ho: ∀i,i≠j->famM maps' i=famM maps i):hput (FH h R fr to maps) (j+16) o=FH h R fr to maps':=by
 grind[Ap,Ip,AF,TJ,famM,hput,FH]
theorem Vd{j:Nat}(ks:List Int)(hj:j<maps.length):hput (FH h R fr to maps) (j+16) (.map (kvs .i64 (RB ks)))=FH h R fr to (maps.set j ks):=
 cu (Hn (by rw[List.getElem?_set_self hj])) fun i hi=>by unfold famM;rw[List.getElem?_set_ne (Ne.symm hi)]
theorem i9(ks:List Int):hput (FH h R fr to maps) (maps.length+16) (.map (kvs .i64 (RB ks)))=FH h R fr to (maps++[ks]):=
 cu (Hn (by rw[List.getElem?_append_right (Nat.le_refl _)];simp)) fun i hi=>by
  grind[famM,List.getElem?_append_left,List.getElem?_eq_none,hput,FH,kvs,RB]
end
theorem K8: ∀(l:List Tac) (fr:List Int) (t:Tac),Dq fr (l++[t])=((Dq fr l).1++[subT (Dq fr l).2 t],DE (Dq fr l).2 (subT (Dq fr l).2 t))
 | [],fr,t=>rfl
 | u::l,fr,t=>by
  show(subT fr u::(Dq (DE fr (subT fr u)) (l++[t])).1,(Dq (DE fr (subT fr u)) (l++[t])).2)=_;rw[K8 l];rfl
theorem FZ: ∀(l:List Tac) (fr:List Int),(Dq fr l).1.length=l.length
 | [],fr=>rfl
 | u::l,fr=>by
  show(Dq (DE fr (subT fr u)) l).1.length+1=l.length+1;rw[FZ l]
structure cj(R:Nat)(t:Tac):Prop where
  u1:use1 t.op=true->0<=t.a/\t.a<R
  u2:use2 t.op=true->(0<=t.a/\t.a<R)/\0<=t.b/\t.b<R
  d:setsOp t.op=true->0<=t.d/\t.d<R
theorem Qs(fr:List Int)(t:Tac):(subT fr t).op=t.op/\(subT fr t).d=t.d/\(subT fr t).sets=t.sets:=by
 grind[subT,Tac.sets,use1,use2]
structure qO(R:Nat)(l:List Tac)(i:Nat)(fr:List Int)(to:List (Option Nat))(maps:List (List Int)):Prop where
  le:i<=l.length
  pre:(Dq (Ke R) (l.take i)).2=fr
  inv:FwI R fr to maps
def De(R:Nat)(l:List Tac)(i:Nat):List (List AV):=(Dq (Ke R) (l.take i)).1.map Tac.cells++List.replicate (l.length-i) [.int .i64 0,.int .i64 0,.int .i64 0,.int .i64 0,.int .i64 0,.int .i64 0,.int .i64 0,.int .u32 0]
theorem IW{R:Nat}{l:List Tac}{i:Nat}(hi:i<=l.length):(De R l i).length=l.length:=by
 grind[De,List.length_append,List.length_map,FZ,List.length_replicate]
theorem UZ(R:Nat)(l:List Tac):De R l 0=List.replicate l.length [.int .i64 0,.int .i64 0,.int .i64 0,.int .i64 0,.int .i64 0,.int .i64 0,.int .i64 0,.int .u32 0]:=by
 grind[De,Dq]
theorem X9(R:Nat)(l:List Tac):De R l l.length=(Dq (Ke R) l).1.map Tac.cells:=by
 unfold De;simp
theorem U0{R:Nat}{l:List Tac}{i:Nat}{t:Tac}(hx:l[i]?=some t):(De R l i).set (0+((i:Nat):Int).toNat) (subT (Dq (Ke R) (l.take i)).2 t).cells=De R l (i+1):=by
 have hi:i<l.length:=(List.getElem?_eq_some_iff.1 hx).1;rw[Nat.zero_add,show((i:Nat):Int).toNat=i from rfl];unfold De;rw[List.take_add_one,hx,Option.toList_some,K8];dsimp only;rw[List.map_append,List.set_append_right _ _ (by rw[List.length_map,FZ,List.length_take];omega),List.length_map,FZ,List.length_take,show i-min i l.length=0 by omega,show l.length-i=(l.length-(i+1))+1 by omega,List.replicate_succ,List.set_cons_zero]
 simp
theorem KE{R:Nat}{l:List Tac}{i:Nat}{t:Tac}(hx:l[i]?=some t):(Dq (Ke R) (l.take (i+1))).2=DE (Dq (Ke R) (l.take i)).2 (subT (Dq (Ke R) (l.take i)).2 t):=by
 rw[List.take_add_one,hx,Option.toList_some,K8]
def k6:Nat->Bool:=fun b=> !Nat.beq b 6
def WB(b:Block)(o5 o6:AObj):Ab:=hput (hput (hput (hput hNone 0 (.row false 5 [b.cells])) 1 (.row false 5 [[.nil,.int .i64 0,.int .i64 0,.int .i64 0,.int .i64 0]])) 5 o5) 6 o6
theorem nK(x:Nat):k6 (x+16)=true:=by
 unfold k6
 cases e:Nat.beq (x+16) 6 with
 | false=>rfl
 | true=>have:=Nat.eq_of_beq_eq_true e;omega
theorem Wt{b:Block}{o5 o6:AObj}{x:Nat}(h0:x≠0)(h1:x≠1)(h5:x≠5)(h6:x≠6):WB b o5 o6 x=none:=by
 unfold WB;rw[AF _ _ h6,AF _ _ h5,AF _ _ h1,AF _ _ h0];rfl
theorem Ll{h:Ab}{b:Block}{o5 o6:AObj}{R:Nat}{fr:List Int}{to:List (Option Nat)}{maps:List (List Int)}(h0:h 0=some (.row false 5 [b.cells]))(h1:h 1=some (.row false 5 [[.nil,.int .i64 0,.int .i64 0,.int .i64 0,.int .i64 0]]))(h2:h 2=some (.row false 2 [[.ref 3 R 0 R,.ref 4 R 0 R]]))
 (h3:h 3=some (.row true 1 (FV fr))) (h4:h 4=some (.row false 1 (to.map LY))) (h5:h 5=some o5) (h6:h 6=some o6) (hf: ∀j,h (j+16)=some (famM maps j)):HSub (FH (WB b o5 o6) R fr to maps) h:=fun x o hx=>by
 by_cases h16:x<16
 . rw[TJ h16]at hx
   by_cases e2:x=2
   . (simp_all;done)
   by_cases e3:x=3
   . subst e3;rw[h3];exact hx
   by_cases e4:x=4
   . subst e4;rw[h4];exact hx
   have n2: ∀{y:Nat},x≠y->Nat.beq x y=false:=fun {y} hy=>by
    cases e:Nat.beq x y with
    | false=>rfl
    | true=>exact absurd (Nat.eq_of_beq_eq_true e) hy
   rw[n2 e2,n2 e3,n2 e4]at hx
   replace hx:WB b o5 o6 x=some o:=hx
   by_cases e0:x=0
   . subst e0;rw[h0];exact hx
   by_cases e1:x=1
   . subst e1;rw[h1];exact hx
   by_cases e5:x=5
   . subst e5;rw[h5];exact hx
   by_cases e6:x=6
   . subst e6;rw[h6];exact hx
   rw[Wt e0 e1 e5 e6]at hx;cases hx
 . obtain⟨j,rfl⟩: ∃j,x=j+16:=⟨x-16,by omega⟩
   rw[Ip]at hx;rw[hf,<-hx]
theorem WY(to:List (Option Nat)):(AObj.row false 1 (to.map LY)).avoid k6=true:=by
 show((to.map LY).all fun cs=>cs.all (AV.avoid k6))=true;rw[List.all_map,List.all_eq_true];intro o _
 cases o with
 | none=>rfl
 | some j=>show([AV.map (j+16)].all (AV.avoid k6))=true;simp[AV.avoid,AV.flat,nK]
theorem Rx{h:Ab}{b:Block}{o5 o6:AObj}{R:Nat}{fr:List Int}{to:List (Option Nat)}{maps:List (List Int)}(hb:(AObj.row false 5 [b.cells]).avoid k6=true)(h0:h 0=some (.row false 5 [b.cells]))(h1:h 1=some (.row false 5 [[.nil,.int .i64 0,.int .i64 0,.int .i64 0,.int .i64 0]]))(h2:h 2=some (.row false 2 [[.ref 3 R 0 R,.ref 4 R 0 R]]))
 (h3:h 3=some (.row true 1 (FV fr))) (h4:h 4=some (.row false 1 (to.map LY))) (h5:h 5=some o5) (ha5:o5.avoid k6=true) (hf: ∀j,h (j+16)=some (famM maps j)):HDropK k6 (FH (WB b o5 .free) R fr to maps) h:=fun x o hx=>by
 by_cases e6:x=6
 . subst e6;right;have:some AObj.free=some o:=hx;cases this;exact⟨rfl,rfl⟩
 left;have hx2:h x=some o:=Ll (h:=hput h 6 .free) (b:=b) (o5:=o5) (o6:=.free) (R:=R) (fr:=fr) (to:=to) (maps:=maps) h0 h1 h2 h3 h4 h5 (Ap _ _ _) (fun j=>(AF _ _ (by omega)).trans (hf j)) x o hx|>.symm.trans (AF _ _ e6)|>.symm;refine⟨hx2,fun _=>⟨by unfold k6;cases e:Nat.beq x 6 with | false=>rfl | true=>exact absurd (Nat.eq_of_beq_eq_true e) e6,?_⟩⟩
 by_cases h16:x<16
 . rw[TJ h16]at hx
   by_cases e2:x=2
   . subst e2;have:some (AObj.row false 2 [[.ref 3 R 0 R,.ref 4 R 0 R]])=some o:=hx;cases this;rfl
   by_cases e3:x=3
   . subst e3;have:some (AObj.row true 1 (FV fr))=some o:=hx;cases this;rfl
   by_cases e4:x=4
   . subst e4;have:some (AObj.row false 1 (to.map LY))=some o:=hx;cases this;exact WY to
   have n2: ∀{y:Nat},x≠y->Nat.beq x y=false:=fun {y} hy=>by
    cases e:Nat.beq x y with
    | false=>rfl
    | true=>exact absurd (Nat.eq_of_beq_eq_true e) hy
   rw[n2 e2,n2 e3,n2 e4]at hx
   replace hx:WB b o5 .free x=some o:=hx
   by_cases e0:x=0
   . subst e0;have:some (AObj.row false 5 [b.cells])=some o:=hx;cases this;exact hb
   by_cases e1:x=1
   . subst e1;have:some (AObj.row false 5 [[.nil,.int .i64 0,.int .i64 0,.int .i64 0,.int .i64 0]])=some o:=hx;cases this;rfl
   by_cases e5:x=5
   . subst e5;have:some o5=some o:=hx;cases this;exact ha5
   rw[Wt e0 e1 e5 e6]at hx;cases hx
 . obtain⟨j,rfl⟩: ∃j,x=j+16:=⟨x-16,by omega⟩
   rw[Ip]at hx
   cases hx
   unfold famM
   cases maps[j]?<;>rfl
section
variable {call : Int -> Mach -> Mach} {s : ByteArray} {fuel : Int}
def V5(K:Cv)(regs:List Int):Prop:=∀z v,pget z K=some v->0<=z/\rget regs z=v
theorem DR{l:List Int}{z y v:Int}(hz:0<=z)(hy:0<=y)(h:y≠z):rget (AZ l z v) y=rget l y:=by
 grind[rget,AZ]
theorem G8{l:List Int}{z v:Int}(hz:0<=z/\z<l.length):rget (AZ l z v) z=v:=by
 grind[rget,AZ]
theorem UH(d n:Int)(regs:List Int)(m:Mach):mone call s (J9 d n) regs m=(AZ regs d n,m):=fD rfl
theorem UI{K:Cv}{regs:List Int}(hk:V5 K regs)(t:Tac)(m:Mach):mone call s (C3 K t) regs m=mone call s t regs m:=by
 cases hv:(Dr t K).2 with
 | false=>simp only[C3,hv,cond_false]
 | true=>
  have e:C3 K t=J9 t.d (Dr t K).1:=by simp only[C3,hv,cond_true]
  rw[e,UH];unfold Dr at hv |-
  cases e2:t.op==2 with
  | true=>
   rw[e2]at hv;simp only[cond_true]at hv |-;obtain⟨v,hv⟩:=Option.isSome_iff_exists.1 hv;rw[nJ (by simpa using e2),(hk _ _ hv).2,hv];rfl
  | false=>
   cases e3:t.op==3 with
   | false=>rw[e2,e3]at hv;simp at hv
   | true=>
    rw[e2,e3]at hv;simp only[cond_true,cond_false]at hv |-
    cases ea:pget t.a K with
    | none=>rw[ea]at hv;simp at hv
    | some va=>
     cases eb:pget t.b K with
     | none=>rw[eb]at hv;simp at hv
     | some vb=>
      rw[ea,eb]at hv;simp only[Option.isSome_some,Bool.and_true,cond_true,Option.getD_some]at hv |-;have h1:=(hk _ _ ea).2;have h2:=(hk _ _ eb).2;rw[nI (by simpa using e3) (by rw[h1,h2];simpa using hv),h1,h2]
theorem K0(u:Tac)(regs:List Int)(m:Mach):(mone call s u regs m).1=regs\/setsOp u.op=true/\∃v,(mone call s u regs m).1=AZ regs u.d v:=by
 unfold mone setsOp
 cases u.op==1 with
 | true=>exact .inr ⟨rfl,_,rfl⟩
 | false=>
 cases u.op==2 with
 | true=>exact .inr ⟨rfl,_,rfl⟩
 | false=>
 cases u.op==3 with
 | true=>
  simp only[cond_true,cond_false]
  cases (DP u.k (rget regs u.a) (rget regs u.b)).2==0 with
  | true=>exact .inr ⟨rfl,_,rfl⟩
  | false=>exact .inl rfl
 | false=>
 cases u.op==4 with
 | true=>exact .inr ⟨rfl,_,rfl⟩
 | false=>
 cases u.op==5 with
 | true=>exact .inl rfl
 | false=>
 cases h6:u.op==6 with
 | true=>
  simp only[cond_true,cond_false]
  cases decide (rget regs u.a>=u.size)with
  | true=>exact .inl rfl
  | false=>exact .inr ⟨rfl,_,rfl⟩
 | false=>
 cases u.op==7 with
 | true=>
  simp only[cond_true,cond_false]
  cases decide (rget regs u.a>=u.size)<;>exact .inl rfl
 | false=>
 cases u.op==8 with
 | true=>
  simp only[cond_true,cond_false]
  cases decide (m.read<s.size)<;>exact .inr ⟨rfl,_,rfl⟩
 | false=>
 cases u.op==9 with
 | true=>
  simp only[cond_true,cond_false]
  cases decide (m.out.length>=65536)<;>exact .inl rfl
 | false=>
 cases u.op==10<;>exact .inl rfl
theorem UK{K:Cv}{regs:List Int}(hk:V5 K regs)(hu:FK K){u:Tac}(hd:setsOp u.op=true->0<=u.d/\u.d<regs.length)(m:Mach):V5 (GU K u) (mone call s u regs m).1:=by
 unfold GU
 cases hs:decide (u.sets<0)with
 | true=>
  have hso:setsOp u.op=false:=by
   cases e:setsOp u.op with
   | false=>rfl
   | true=>
    have:=hd e;simp[Tac.sets,e]at hs;omega
  rcases K0 (call:=call) (s:=s) u regs m with h |⟨h,_⟩
  . rw[h];exact hk
  . rw[hso]at h;cases h
 | false=>
  have hso:setsOp u.op=true:=by
   cases e:setsOp u.op with
   | true=>rfl
   | false=>simp[Tac.sets,e]at hs
  have hsd:u.sets=u.d:=by simp[Tac.sets,hso]
  obtain⟨d1,d2⟩:=hd hso;simp only[cond_false];rw[hsd]
  cases h1:u.op==1 with
  | true=>
   rw[fD (by simpa using h1)];intro z v hz;simp only[cond_true]at hz;rw[Pg]at hz
   cases e:z==u.d with
   | true=>
    rw[e]at hz;have hzd:z=u.d:=by simpa using e
    subst hzd;simp only[cond_true,Option.some.injEq]at hz;subst hz;exact⟨d1,G8 ⟨d1,d2⟩⟩
   | false=>
    rw[e]at hz;obtain⟨g1,g2⟩:=hk z v hz;exact⟨g1,by rw[DR d1 g1 (by simpa using e)];exact g2⟩
  | false=>
   intro z v hz;simp only[cond_false]at hz;rw[Ph _ _ hu]at hz
   cases e:z==u.d with
   | true=>rw[e]at hz;simp at hz
   | false=>
    rw[e]at hz;obtain⟨g1,g2⟩:=hk z v hz;refine⟨g1,?_⟩;rcases K0 (call:=call) (s:=s) u regs m with h |⟨_,w,h⟩
    . rw[h];exact g2
    . rw[h,DR d1 g1 (by simpa using e)];exact g2
theorem eH(K:Cv)(t:Tac):(C3 K t).d=t.d:=by
 unfold C3;cases (Dr t K).2<;>rfl
theorem Kg{K:Cv}{t:Tac}(h:setsOp (C3 K t).op=true):setsOp t.op=true:=by
 unfold C3 at h
 cases hv:(Dr t K).2 with
 | false=>rw[hv]at h;exact h
 | true=>
  unfold Dr at hv
  cases e2:t.op==2 with
  | true=>simp[setsOp,e2]
  | false=>
   cases e3:t.op==3 with
   | true=>simp[setsOp,e3]
   | false=>rw[e2,e3]at hv;simp at hv
theorem mone_len(u:Tac)(regs:List Int)(m:Mach):(mone call s u regs m).1.length=regs.length:=by
 rcases K0 (call:=call) (s:=s) u regs m with h |⟨_,v,h⟩
 . rw[h]
 . rw[h,BF]
end
theorem UT{t:Tac}{f regs words:Int}(h:t.fits f regs words=true):setsOp t.op=true->AP t.d regs=true:=by
 grind[Tac.fits,setsOp,AP]
theorem UJ{d n f regs words:Int}(h:AP d regs=true):(J9 d n).fits f regs words=true:=by
 have e:(J9 d n).want=J9 d n:=rfl
 grind[J9,Tac.same_iff,Tac.fits,Tac.uses,use1,use2,Tac.rest,baseOp,G2,AP]
theorem UP{K:Cv}{t:Tac}{f regs words:Int}(h:t.fits f regs words=true):(C3 K t).fits f regs words=true:=by
 cases hv:(Dr t K).2 with
 | false=>simp only[C3,hv,cond_false];exact h
 | true=>
  have e:C3 K t=J9 t.d (Dr t K).1:=by simp only[C3,hv,cond_true]
  have hs:setsOp t.op=true:=Kg (K:=K) (by rw[e];rfl);rw[e];exact UJ (UT h hs)
theorem Ki{f regs words:Int}: ∀(l:List Tac) (K:Cv),(∀t∈l,t.fits f regs words=true)->∀t∈Du K l,t.fits f regs words=true
 | [],_,_,t,ht=>by cases ht
 | u::r,K,h,t,ht=>by
  simp only[Du,List.mem_cons]at ht;rcases ht with rfl | ht
  . exact UP (h u (by simp))
  . exact Ki r _ (fun v hv=>h v (by simp[hv])) t ht
theorem Z4{f:BFunc}{n w:Int}(h:f.one n w=true):f.fold.one n w=true:=by
 obtain⟨h1,h2,h3,h4⟩:=Dd h;have hb:f.fold.blocks.length≠0:=by
  grind[BFunc.fold,List.length_map]
 rw[J1 (f:=f.fold) h1 h2 hb];rw[List.all_eq_true];intro x hx;simp only[BFunc.fold,List.mem_map]at hx;obtain⟨y,hy,rfl⟩:=hx;have hl:f.fold.blocks.length=f.blocks.length:=by simp[BFunc.fold]
 simp only[Block.ok,Bool.and_eq_true,List.all_eq_true];refine⟨?_,Ki y.ins [] (h4 y hy).2⟩;rw[hl];exact(h4 y hy).1
theorem dK{f:BFunc}{i w:Int}(h1:0<=f.regs)(h2:f.regs<=4000)(h3:f.blocks≠[])(h4: ∀x∈f.blocks,x.ends f.blocks.length f.regs=true/\∀t∈x.ins,t.fits i f.regs w=true):f.one i w=true:=by
 grind[BFunc.one,List.all_eq_true,Block.ok]
theorem want_same3{t:Tac}:t.same t.want=true↔t.want=t:=by
 grind[Tac.same_iff]
structure LX(R:Nat)(fr:List Int):Prop where
  len:fr.length=R
  ran: ∀v:Int,0<=v->v<R->0<=rget fr v/\rget fr v<R
theorem VI(R:Nat):LX R (Ke R):=⟨Wc R,fun v h0 h1=>by
 obtain⟨u,rfl⟩: ∃u:Nat,v=u:=⟨v.toNat,by omega⟩
 rw[IR (by omega)];omega⟩
theorem M2{R:Nat}{fr:List Int}(h:LX R fr)(d:Int):LX R (Cb d fr):=⟨by rw[C5,h.len],fun v h0 h1=>by
 obtain⟨u,rfl⟩: ∃u:Nat,v=u:=⟨v.toNat,by omega⟩
 rw[C6 (by rw[h.len];omega)]
 cases ((u:Int)==d||rget fr u==d)with
 | true=>exact⟨h0,h1⟩
 | false=>exact h.ran u h0 h1⟩
theorem ranF_set{R:Nat}{fr:List Int}(h:LX R fr){d a:Int}(hd:0<=d/\d<R)(ha:0<=a/\a<R):LX R (AZ fr d a):=⟨by rw[CT,h.len],fun v h0 h1=>by
 obtain⟨u,rfl⟩: ∃u:Nat,v=u:=⟨v.toNat,by omega⟩
 obtain⟨e,rfl⟩: ∃e:Nat,d=e:=⟨d.toNat,by omega⟩
 rw[EE (by rw[h.len];omega)];split
 . exact ha
 . exact h.ran u h0 h1⟩
theorem Vt{t:Tac}{n w:Int}{R:Nat}{fr:List Int}(hr:LX R fr)(h:t.fits n R w=true):(subT fr t).fits n R w=true:=by
 simp only[Tac.fits,Bool.and_eq_true]at h;obtain⟨h1,h2,h3,h4,h5,h6⟩:=h;have hw:=want_same3.1 h6;have e12:=Mw t.op;unfold subT
 cases e1:use1 t.op with
 | true=>
  rw[e1,Bool.true_and]at e12;have h4':AP t.a R=true:=by rw[Tac.uses,e1]at h4;simpa using h4
  simp only[AP,Bool.and_eq_true,decide_eq_true_eq]at h4';simp only[cond_true,Tac.fits,Bool.and_eq_true];refine⟨h1,h2,h3,?_,h5,want_same3.2 ?_⟩
  . show(Tac.uses _).all _=true;simp only[Tac.uses,e1,cond_true,List.all_cons,List.all_nil,Bool.and_true,AP,Bool.and_eq_true,decide_eq_true_eq];exact hr.ran _ h4'.1 h4'.2
  . have q:=congrArg Tac.b hw
    cases t
    simp only[Tac.want,e1,e12,Bool.true_or,cond_true,cond_false,Tac.mk.injEq]at hw |-;exact hw
 | false=>
  cases e2:use2 t.op with
  | true=>
   have h4':AP t.a R=true/\AP t.b R=true:=by rw[Tac.uses,e1,e2]at h4;simpa using h4
   simp only[AP,Bool.and_eq_true,decide_eq_true_eq]at h4';simp only[cond_true,cond_false,Tac.fits,Bool.and_eq_true];refine⟨h1,h2,h3,?_,h5,want_same3.2 ?_⟩
   . show(Tac.uses _).all _=true;simp only[Tac.uses,e1,e2,cond_true,cond_false,List.all_cons,List.all_nil,Bool.and_true,AP,Bool.and_eq_true,decide_eq_true_eq];exact⟨hr.ran _ h4'.1.1 h4'.1.2,hr.ran _ h4'.2.1 h4'.2.2⟩
   . cases t
     simp only[Tac.want,e1,e2,Bool.or_true,cond_true,cond_false,Tac.mk.injEq]at hw |-;exact hw
  | false=>
   simp only[cond_false,Tac.fits,Bool.and_eq_true];exact⟨h1,h2,h3,h4,h5,h6⟩
theorem fits_tacR{t:Tac}{n w:Int}{R:Nat}(h:t.fits n R w=true):cj R t:=by
 simp only[Tac.fits,Bool.and_eq_true,Bool.or_eq_true,Bool.not_eq_true']at h;obtain⟨h1,h2,h3,h4,h5,h6⟩:=h;refine⟨fun e=>?_,fun e=>?_,fun e=>?_⟩
 . rw[Tac.uses,e]at h4;simpa[AP]using h4
 . have e1:use1 t.op=false:=by have:=Mw t.op;rw[e,Bool.and_true]at this;exact this
   rw[Tac.uses,e1,e]at h4;simpa[AP]using h4
 . rw[e]at h3;rcases h3 with h3 | h3
   . cases h3
   . simpa[AP]using h3
theorem O7{t:Tac}{n w:Int}{R:Nat}{fr:List Int}(hr:LX R fr)(h:t.fits n R w=true):LX R (DE fr t):=by
 have hT:=fits_tacR h;unfold DE
 cases e:decide (t.sets>=0)with
 | false=>exact hr
 | true=>
  have hs:=Ei e;have hd:t.sets=t.d:=by unfold Tac.sets;rw[hs];rfl
  cases e2:(t.op==2&&t.a !=t.sets)with
  | false=>exact M2 hr _
  | true=>
   simp only[Bool.and_eq_true,beq_iff_eq]at e2;refine ranF_set (M2 hr _) (by rw[hd];exact hT.d hs) (hT.u1 (by rw[e2.1];rfl))
theorem PR{n w:Int}{R:Nat}: ∀(l:List Tac) (fr:List Int),LX R fr->(∀t∈l,t.fits n R w=true)->(∀t∈(Dq fr l).1,t.fits n R w=true)/\LX R (Dq fr l).2
 | [],fr,hr,h=>⟨fun t ht=>(by cases ht),hr⟩
 | u::l,fr,hr,h=>by
  have hu:=Vt hr (h u (by simp));have ih:=PR l (DE fr (subT fr u)) (O7 hr hu) fun t ht=>h t (by simp[ht])
  grind[Dq]
theorem SF{f:BFunc}{n w:Int}(h:f.one n w=true):f.forward.one n w=true:=by
 obtain⟨h1,h2,h3,h4⟩:=Dd h;obtain⟨R,hR⟩: ∃R:Nat,f.regs=(R:Int):=⟨f.regs.toNat,by omega⟩
 refine dK (f:=f.forward) h1 h2 (fun e=>h3 (List.map_eq_nil_iff.1 e)) fun x hx=>?_
 obtain⟨y,hy,rfl⟩:=List.mem_map.1 hx;obtain⟨g1,g2⟩:=h4 y hy;show(y.forward _).ends (f.blocks.map _).length f.regs=true/\∀t∈(y.forward _).ins,t.fits n f.regs w=true
 rw[List.length_map];rw[hR]at g1 g2 |-;have hf:=PR (n:=n) (w:=w) y.ins (Ke R) (VI R) g2;refine⟨?_,hf.1⟩;have g1':=g1;unfold Block.ends at g1 |-;show(bif y.fin==1 then AP y.to f.blocks.length&&((Block.forward _ y).v==0&&y.els==0)else bif y.fin==2 then AP y.to f.blocks.length&&(AP y.els f.blocks.length&&AP (Block.forward _ y).v R)else y.fin==3&&((Block.forward _ y).v==0&&(y.to==0&&y.els==0)))=true
 cases e2:y.fin==2 with
 | false=>
  have hv:(Block.forward R y).v=y.v:=by unfold Block.forward;rw[e2];rfl
  rw[show((R:Int)).toNat=R from rfl,hv,<-e2];exact g1
 | true=>
  have e3:y.fin=2:=by simpa using e2
  have hv:(Block.forward R y).v=rget (Dq (Ke R) y.ins).2 y.v:=by unfold Block.forward;rw[e2];rfl
  rw[e3]at g1 |-;rw[show((R:Int)).toNat=R from rfl,hv];simp[AP]at g1 |-;exact⟨g1.1,g1.2.1,hf.2.ran _ g1.2.2.1 g1.2.2.2⟩
theorem XQ(R:Nat)(x:Block):(x.forward R).count=x.count:=by
 show 1+(Dq (Ke R) x.ins).1.length=1+x.ins.length;rw[FZ]
theorem OP(f:BFunc):f.forward.count=f.count:=by
 show((f.blocks.map _).map Block.count).sum=_;rw[List.map_map];exact congrArg List.sum (List.map_congr_left fun x _=>XQ _ x)
theorem gW(fr:List Int)(t:Tac):(subT fr t).n=t.n:=by
 grind[subT,use1,use2]
theorem PQ: ∀(l:List Tac) (fr:List Int),I2 l->I2 (Dq fr l).1
 | [],fr,h=>h
 | u::l,fr,h=>fun t ht=>by
  rcases List.mem_cons.1 ht with rfl | ht
  . grind[gW,I2,Dq]
  . exact PQ l _ (fun t ht=>h t (by simp[ht])) t ht
def isBeen(l:List Bool)(k:Int):Prop:=0<=k/\l[k.toNat]?=some true
structure TM(next:List (List Int))(s:DS):Prop where
  seen: ∀p∈s.way,∀(j:Nat) (t:Int),(j:Int)<p.2->(Bj next p.1)[j]?=some t->isBeen s.been t
  all: ∀k,isBeen s.been k->(∀t∈Bj next k,isBeen s.been t)\/∃i,(k,i)∈s.way
theorem Hq{b:Int}{s:DS}{k:Int}(h:isBeen s.been k):isBeen (BD b s).been k:=by
 grind[BD,notBeen,CG,isBeen]
theorem N4{b:Int}{s:DS}(h:0<=b/\b<s.been.length):isBeen (BD b s).been b:=by
 grind[BD,notBeen,Ae,isBeen]
theorem Yd{next:List (List Int)}{b:Int}{s:DS}(h:TM next s):TM next (BD b s):=by
 refine⟨fun p hp j t hj ht=>?_,fun k hk=>?_⟩
 . have hp':p∈s.way\/p=(b,0):=by
    grind[BD,notBeen]
   rcases hp' with hp' | rfl
   . exact Hq (h.seen p hp' j t hj ht)
   . simp only at hj;omega
 . by_cases hold:isBeen s.been k
   . rcases h.all k hold with h1 |⟨i,h1⟩
     . exact .inl fun t ht=>Hq (h1 t ht)
     . refine .inr ⟨i,?_⟩;unfold BD
       cases notBeen s.been b with
       | false=>exact h1
       | true=>simp only[cond_true];exact List.mem_append_left _ h1
   . right;unfold BD at hk |-
     cases e:notBeen s.been b with
     | false=>rw[e]at hk;exact absurd hk hold
     | true=>
      rw[e]at hk;simp only[cond_true]at hk |-;obtain⟨k1,k2⟩:=hk;obtain⟨h1,h2,h3⟩:=CG e;rw[List.getElem?_set]at k2
      by_cases hh:b.toNat=k.toNat
      . have:k=b:=by omega
        subst this;exact⟨0,by simp⟩
      . rw[if_neg hh]at k2;exact absurd ⟨k1,k2⟩ hold
theorem X8{next:List (List Int)}{s:DS}(hok:s.ok next)(hlead: ∀l∈next,∀t∈l,0<=t/\t<next.length)(h:TM next s):TM next (Er next s):=by
 unfold Er;split
 . exact h
 . rename_i b i e;have hw:=FJ e;have hmem:(b,i)∈s.way:=by rw[hw];simp
   have hb:=hok.way (b,i) hmem;simp only at hb
   cases hi:decide (i<(Bj next b).length)with
   | false=>
    have hi': ¬i<(Bj next b).length:=by simpa using hi
    simp only[cond_false];refine⟨fun p hp=>h.seen p (List.dropLast_subset _ hp),fun k hk=>?_⟩;rcases h.all k hk with h1 |⟨j,h1⟩
    . exact .inl h1
    . rw[hw]at h1;rcases List.mem_append.1 h1 with h1 | h1
      . exact .inr ⟨j,h1⟩
      . simp only[List.mem_singleton,Prod.mk.injEq]at h1;obtain⟨rfl,rfl⟩:=h1;left;intro t ht;obtain⟨x,hx⟩:=List.getElem?_of_mem ht;have hxl:=(List.getElem?_eq_some_iff.1 hx).1;exact h.seen (k,j) hmem x t (by simp only;omega) hx
   | true=>
    have hi':i<(Bj next b).length:=by simpa using hi
    obtain⟨t0,ht0⟩:=Ae (l:=Bj next b) (k:=i.toNat) (by omega);have hrow:Bj next b∈next:=by
     obtain⟨l,hl⟩:=Ae (l:=next) (k:=b.toNat) (by omega);rw[Bj,hl];exact List.mem_of_getElem? hl
    have ht0r:=hlead _ hrow t0 (List.mem_of_getElem? ht0);simp only[cond_true,ht0,Option.getD_some]
    -- the way with one more looked at, where that one is been already
    have key:TM next ⟨(BD t0 ⟨s.been,s.way.dropLast++[(b,i+1)]⟩).been,(BD t0 ⟨s.been,s.way.dropLast++[(b,i+1)]⟩).way⟩:=by
     have hself:isBeen (BD t0 ⟨s.been,s.way.dropLast++[(b,i+1)]⟩).been t0:=N4 (by show 0<=t0/\t0<s.been.length;rw[hok.len];exact ht0r);have hbeen: ∀{k},isBeen s.been k->isBeen (BD t0 ⟨s.been,s.way.dropLast++[(b,i+1)]⟩).been k:=fun hk=>Hq (s:=⟨s.been,s.way.dropLast++[(b,i+1)]⟩) hk
     have hway: ∀p∈(BD t0 ⟨s.been,s.way.dropLast++[(b,i+1)]⟩).way,p∈s.way.dropLast\/p=(b,i+1)\/p=(t0,0):=fun p hp=>by
      unfold BD at hp
      cases e2:notBeen s.been t0 with
      | false=>rw[e2]at hp;simp only[cond_false,List.mem_append,List.mem_singleton]at hp;rcases hp with hp | hp<;>simp[hp]
      | true=>rw[e2]at hp;simp only[cond_true,List.mem_append,List.mem_singleton]at hp;rcases hp with(hp | hp) | hp<;>simp[hp]
     have hway2: ∀p,p∈s.way.dropLast\/p=(b,i+1)->p∈(BD t0 ⟨s.been,s.way.dropLast++[(b,i+1)]⟩).way:=fun p hp=>by
      unfold BD
      cases notBeen s.been t0<;>simp only[cond_true,cond_false,List.mem_append,List.mem_singleton]<;>rcases hp with hp | hp<;>simp[hp]
     refine⟨fun p hp j t hj ht=>?_,fun k hk=>?_⟩
     . rcases hway p hp with hp | rfl | rfl
       . exact hbeen (h.seen p (List.dropLast_subset _ hp) j t hj ht)
       . simp only at hj ht
         by_cases hji:(j:Int)<i
         . exact hbeen (h.seen (b,i) hmem j t hji ht)
         . have:j=i.toNat:=by omega
           subst this;rw[ht0]at ht
           cases ht
           exact hself
       . simp only at hj;omega
     . by_cases hold:isBeen s.been k
       . rcases h.all k hold with h1 |⟨j,h1⟩
         . exact .inl fun t ht=>hbeen (h1 t ht)
         . right;rw[hw]at h1;rcases List.mem_append.1 h1 with h1 | h1
           . exact⟨j,hway2 _ (.inl h1)⟩
           . simp only[List.mem_singleton,Prod.mk.injEq]at h1;obtain⟨rfl,rfl⟩:=h1;exact⟨_,hway2 _ (.inr rfl)⟩
       . right;unfold BD at hk |-
         cases e2:notBeen s.been t0 with
         | false=>rw[e2]at hk;exact absurd hk hold
         | true=>
          rw[e2]at hk;simp only[cond_true]at hk |-;obtain⟨k1,k2⟩:=hk;rw[List.getElem?_set]at k2
          by_cases hh:t0.toNat=k.toNat
          . have:k=t0:=by omega
            subst this;exact⟨0,by simp⟩
          . rw[if_neg hh]at k2;exact absurd ⟨k1,k2⟩ hold
    exact key
theorem Tu{next:List (List Int)}(hlead: ∀l∈next,∀t∈l,0<=t/\t<next.length): ∀(g:Nat) (s:DS),s.ok next->TM next s->Ri next s<g->TM next (Hp next g s)/\(Hp next g s).way=[]
 | 0,_,_,_,h=>absurd h (by omega)
 | g+1,s,hok,h,hg=>by
  by_cases hne:s.way=[]
  . grind[Tv,Ri,Hp]
  . rw[P0 hne];have:=Ts hok hne;exact Tu hlead g _ (N0 hok) (X8 hok hlead h) (by omega)
theorem P2{next:List (List Int)}{k:Int}: ∀(g:Nat) (s:DS),isBeen s.been k->isBeen (Hp next g s).been k
 | 0,_,h=>h
 | g+1,s,h=>by
  unfold Hp;split
  . exact h
  . refine P2 g _ ?_;unfold Er;split
    . exact h
    . rename_i b i e
      cases decide (i<((Bj next b).length:Int))with
      | true=>exact Hq (s:=⟨s.been,s.way.dropLast++[(b,i+1)]⟩) h
      | false=>exact h
theorem Ha{next:List (List Int)}(hn:next≠[])(hlead: ∀l∈next,∀t∈l,0<=t/\t<next.length):
 isBeen (F2 next (List.replicate next.length false)) 0/\∀k,isBeen (F2 next (List.replicate next.length false)) k->∀t∈Bj next k,isBeen (F2 next (List.replicate next.length false)) t:=by
 have hpos:=List.length_pos_iff.2 hn;have hok0:(DS.mk (List.replicate next.length false) []).ok next:=⟨by simp,fun p hp=>by cases hp⟩;have h0:TM next (DS.mk (List.replicate next.length false) []):=⟨fun p hp=>(by cases hp),fun k hk=>by
  have h2:(List.replicate next.length false)[k.toNat]?=some true:=hk.2;have h3:(true:Bool)∈List.replicate next.length false:=List.mem_of_getElem? h2;have:=List.eq_of_mem_replicate h3
  cases this⟩
 have key:=Tu hlead (Ri next (EP (List.replicate next.length false))+1) (EP (List.replicate next.length false)) (dinto_ok hok0) (Yd h0) (Nat.lt_succ_self _);refine⟨P2 _ _ (N4 (by show(0:Int)<=0/\(0:Int)<((List.replicate next.length false).length:Int);simp;omega)),fun k hk t ht=>?_⟩;rcases key.1.all k hk with h1 |⟨i,h1⟩
 . exact h1 t ht
 . rw[key.2]at h1;cases h1
theorem PI{l:List Int}{z y v:Int}(hz:0<=z/\z<l.length)(hy:0<=y):iget (Q1 l z v) y=bif y==z then v else iget l y:=by
 grind[iget,Q1]
theorem Ij: ∀(l:List Int) (w:List Int) (k:Int),(∀t∈l,0<=t/\t<w.length)->0<=k->iget (l.foldl Ik w) k=iget w k+(l.count k:Int)
 | [],w,k,_,_=>by simp
 | t::r,w,k,h,hk=>by
  rw[List.foldl_cons,Ij r (Ik w t) k (fun x hx=>by rw[LL];exact h x (by simp[hx])) hk,Ik,PI (h t (by simp)) hk,List.count_cons]
  grind
theorem Vk{next:List (List Int)}{reach:List Bool}(hlead: ∀l∈next,∀t∈l,0<=t/\t<next.length){k:Int}(hk:0<=k): ∀(m:Nat),m<=next.length->
 0<=iget (Bm next reach m) k/\(∀i,i<m->reach[i]?=some true->k∈(next[i]?).getD []->1<=iget (Bm next reach m) k)/\
 (∀i j,i<j->j<m->reach[i]?=some true->reach[j]?=some true->k∈(next[i]?).getD []->k∈(next[j]?).getD []->2<=iget (Bm next reach m) k)
 | 0,_=>by
  grind[Bm,iget]
 | m+1,hm=>by
  obtain⟨h0,h1,h2⟩:=Vk (reach:=reach) hlead hk m (by omega);obtain⟨l,hl⟩:=Ae (l:=next) (k:=m) (by omega);have hlen:=Bo next reach m;have hcount:=Ij l (Bm next reach m) k (fun t ht=>by rw[hlen];exact hlead l (List.mem_of_getElem? hl) t ht) hk;have e:Bm next reach (m+1)=bif (reach[m]?).getD false then l.foldl Ik (Bm next reach m)else Bm next reach m:=by
   rw[Bm,hl];rfl
  have hge:iget (Bm next reach m) k<=iget (Bm next reach (m+1)) k:=by
   rw[e]
   cases (reach[m]?).getD false with
   | true=>rw[cond_true,hcount];omega
   | false=>exact Int.le_refl _
  have hmk:reach[m]?=some true->k∈l->iget (Bm next reach (m+1)) k=iget (Bm next reach m) k+(l.count k:Int)/\1<=l.count k:=fun hr hkl=>by
   rw[e,hr];exact⟨hcount,List.count_pos_iff.2 hkl⟩
  refine⟨by omega,fun i hi hr hki=>?_,fun i j hij hj hri hrj hki hkj=>?_⟩
  . by_cases him:i=m
    . subst him;rw[hl]at hki;obtain⟨a,b⟩:=hmk hr hki;omega
    . have:=h1 i (by omega) hr hki;omega
  . by_cases hjm:j=m
    . subst hjm;rw[hl]at hkj;obtain⟨a,b⟩:=hmk hrj hkj;have:=h1 i (by omega) hri hki;omega
    . have:=h2 i j hij (by omega) hri hrj hki hkj;omega
theorem Hj{f:BFunc}{n w:Int}(h:f.one n w=true):f.leads:=fun l hl k hk=>by
 simp only[BFunc.nexts,List.mem_map]at hl;obtain⟨x,hx,rfl⟩:=hl;have he:=((Dd h).2.2.2 x hx).1
 grind[Block.ends,Block.nexts,AP]
section
variable {f : BFunc}
theorem SR(hle:f.leads): ∀l∈f.nexts,∀t∈l,0<=t/\t<f.nexts.length:=fun l hl t ht=>by
 rw[AE];exact hle l hl t ht
theorem Uj(hle:f.leads){i:Int}(hi:0<=i/\i<f.blocks.length):Bj f.nexts i=(f.blockAt i).nexts:=by
 grind[Bj,Cz,Bs]
theorem Eu(hle:f.leads){k:Int}(h:isBeen f.reach k):0<=k/\k<f.blocks.length:=by
 grind[List.getElem?_eq_some_iff,JS,isBeen]
theorem RX(hle:f.leads){i:Int}(hi:0<=i/\i<f.blocks.length):iget f.tk i=takeOf f.nexts f.reach i.toNat (f.blockAt i):=by
 rw[iget,BFunc.tk,KD (Bs hi)];rfl
theorem EU(hle:f.leads){i:Int}(hi:0<=i/\i<f.blocks.length)(h:iget f.tk i≠ -1):iget f.tk i=(f.blockAt i).to/\isBeen f.reach i/\(f.blockAt i).fin=1/\(f.blockAt i).to≠0/\iget (waysF f.nexts f.reach) (f.blockAt i).to=1/\0<=(f.blockAt i).to/\(f.blockAt i).to<f.blocks.length:=by
 rw[RX hle hi]at h |-;unfold takeOf at h |-
 cases e:(f.reach[i.toNat]?).getD false&&((f.blockAt i).fin==1&&((f.blockAt i).to !=0&&((f.blockAt i).to !=(i.toNat:Int)&&iget (waysF f.nexts f.reach) (f.blockAt i).to==1)))with
 | false=>rw[e]at h;exact absurd rfl h
 | true=>
  simp only[Bool.and_eq_true,beq_iff_eq,bne_iff_ne,ne_eq]at e;obtain⟨e1,e2,e3,e4,e5⟩:=e;have hto:=H5 hle (Bs hi) (.inl e2);refine⟨rfl,⟨hi.1,?_⟩,e2,e3,e5,hto.1,hto.2⟩
  cases hr:f.reach[i.toNat]? with
  | none=>rw[hr]at e1;cases e1
  | some v=>rw[hr]at e1;simp at e1;rw[e1]
theorem Qo(hle:f.leads){i l k:Int}(hi:0<=i/\i<f.blocks.length)(hk:iget f.tk i=k)(hne:k≠ -1)(hl:isBeen f.reach l)(hm:k∈(f.blockAt l).nexts):l=i:=by
 obtain⟨a1,a2,a3,a4,a5,a6,a7⟩:=EU hle hi (by rw[hk];exact hne);rw[hk]at a1;have hlr:=Eu hle hl;have hnl:=AE f;have hki:k∈(f.blockAt i).nexts:=by simp[Block.nexts,a3,a1]
 have gi:(f.nexts[i.toNat]?).getD []=(f.blockAt i).nexts:=by rw[Cz (Bs hi)];rfl
 have gl:(f.nexts[l.toNat]?).getD []=(f.blockAt l).nexts:=by rw[Cz (Bs hlr)];rfl
 have w:=(Vk (reach:=f.reach) (SR hle) (k:=k) (by rw[a1];exact a6) f.nexts.length (Nat.le_refl _)).2.2;rw[<-a1]at a5;unfold waysF at a5
 by_cases h1:i.toNat<l.toNat
 . have:=w i.toNat l.toNat h1 (by omega) a2.2 hl.2 (by rw[gi];exact hki) (by rw[gl];exact hm);omega
 . by_cases h2:l.toNat<i.toNat
   . have:=w l.toNat i.toNat h2 (by omega) hl.2 a2.2 (by rw[gl];exact hm) (by rw[gi];exact hki);omega
   . omega
theorem MC(hle:f.leads): ∀(m:Nat),m<=f.blocks.length->∀(k:Nat),(f.takenAt f.reach m)[k]?=some true->∃i:Int,0<=i/\i<m/\iget f.tk i=k
 | 0,_,k,h=>by
  grind[BFunc.takenAt,List.mem_of_getElem?,iget]
 | m+1,hm,k,h=>by
  obtain⟨x,hx⟩:=Ae (l:=f.blocks) (k:=m) (by omega);rw[Fp hx]at h;have hxm:f.blockAt m=x:=by simp[BFunc.blockAt,hx]
  have hi:0<=(m:Int)/\(m:Int)<f.blocks.length:=by omega
  have ht:=RX hle hi;rw[Int.toNat_natCast,hxm]at ht
  cases e:takeOf f.nexts f.reach m x== -1 with
  | true=>
   rw[e]at h;obtain⟨i,i1,i2,i3⟩:=MC hle m (by omega) k h;exact⟨i,i1,by omega,i3⟩
  | false=>
   rw[e]at h;simp only[cond_false]at h;rw[List.getElem?_set]at h;have hne:takeOf f.nexts f.reach m x≠ -1:=by simpa using e
   have hs:=EU hle hi (by rw[ht];exact hne);rw[hxm]at hs
   by_cases h2:x.to.toNat=k
   . exact⟨m,hi.1,by omega,by rw[hs.1];omega⟩
   . rw[if_neg h2]at h;obtain⟨i,i1,i2,i3⟩:=MC hle m (by omega) k h;exact⟨i,i1,by omega,i3⟩
theorem RY(hle:f.leads): ∀(m:Nat),m<=f.blocks.length->∀(i:Int),0<=i->i<m->iget f.tk i≠ -1->(f.takenAt f.reach m)[(iget f.tk i).toNat]?=some true
 | 0,_,i,h1,h2,_=>absurd h2 (by omega)
 | m+1,hm,i,h1,h2,hne=>by
  obtain⟨x,hx⟩:=Ae (l:=f.blocks) (k:=m) (by omega);rw[Fp hx];have hxm:f.blockAt m=x:=by simp[BFunc.blockAt,hx]
  have hi:0<=(m:Int)/\(m:Int)<f.blocks.length:=by omega
  have ht:=RX hle hi;rw[Int.toNat_natCast,hxm]at ht;have hlen:=B7 f f.reach m
  by_cases him:i=m
  . subst him;rw[ht]at hne |-;have e:(takeOf f.nexts f.reach m x== -1)=false:=by simpa using hne
    have hs:=EU hle hi (by rw[ht];exact hne);rw[hxm,ht]at hs;rw[e,cond_false,hs.1,List.getElem?_set_self (by omega)]
  . have ih:=RY hle m (by omega) i h1 (by omega) hne
    cases e:takeOf f.nexts f.reach m x== -1 with
    | true=>exact ih
    | false=>
     simp only[cond_false];rw[List.getElem?_set]
     by_cases h3:x.to.toNat=(iget f.tk i).toNat
     . rw[if_pos h3,if_pos (by rw[h3];exact(List.getElem?_eq_some_iff.1 ih).1)]
     . rw[if_neg h3];exact ih
theorem CY(hle:f.leads){k:Nat}(h:f.headOf k=true):isBeen f.reach k/\∀i:Int,0<=i/\i<f.blocks.length->iget f.tk i≠(k:Int):=by
 grind[BFunc.headOf,RY,isBeen,iget]
theorem Q8(hle:f.leads){t:Int}(h:isBeen f.reach t)(hn: ∀i:Int,0<=i/\i<f.blocks.length->iget f.tk i≠t):f.headOf t.toNat=true:=by
 have ht:=Eu hle h;obtain⟨v,hv⟩:=Ae (l:=f.takenAt f.reach f.blocks.length) (k:=t.toNat) (by rw[B7];omega);rw[PO h.2 hv]
 cases v with
 | false=>rfl
 | true=>
  obtain⟨i,i1,i2,i3⟩:=MC hle f.blocks.length (Nat.le_refl _) t.toNat hv;exact absurd (by rw[i3];omega) (hn i ⟨i1,i2⟩)
theorem bp(hle:f.leads){k:Int}(hk: ∀i:Int,0<=i/\i<f.blocks.length->iget f.tk i≠k): ∀(g:Nat) (c:Int) (marks:List Bool),marks.length=f.blocks.length->isBeen marks c->
 (∀w,isBeen marks w->w=k\/∃u,isBeen marks u/\u≠c/\iget f.tk u=w)->T5 marks<=g->ends f.tk g c=true:=by
 have step: ∀(c:Int) (marks:List Bool),marks.length=f.blocks.length->isBeen marks c->(∀w,isBeen marks w->w=k\/∃u,isBeen marks u/\u≠c/\iget f.tk u=w)->iget f.tk c≠ -1->0<=iget f.tk c/\iget f.tk c<f.blocks.length/\marks[(iget f.tk c).toNat]?=some false:=fun c marks hl hc hw hne=>by
  have hin: ∀{u},isBeen marks u->0<=u/\u<f.blocks.length:=fun {u} hu=>by
   grind[List.getElem?_eq_some_iff,iget,isBeen,T5,ends]
  obtain⟨a1,a2,a3,a4,a5,a6,a7⟩:=EU hle (hin hc) hne;rw[<-a1]at a6 a7;refine⟨a6,a7,?_⟩;obtain⟨v,hv⟩:=Ae (l:=marks) (k:=(iget f.tk c).toNat) (by omega)
  cases v with
  | false=>exact hv
  | true=>
   exfalso;rcases hw (iget f.tk c) ⟨a6,hv⟩with h |⟨u,u1,u2,u3⟩
   . exact hk c (hin hc) h
   . refine u2 ?_;have hs:=EU hle (hin u1) (by rw[u3];exact hne);refine Qo hle (hin hc) rfl hne hs.2.1 ?_;rw[<-u3,hs.1];simp[Block.nexts,hs.2.2.1]
 intro g
 induction g with
 | zero=>
  grind[iget,ends,Iu,isBeen,T5,Block.nexts]
 | succ g ih=>
  intro c marks hl hc hw hu
  by_cases hne:iget f.tk c= -1
  . simp[ends,hne]
  . obtain⟨a,b,e⟩:=step c marks hl hc hw hne;have hus:=Iu e;have hnew: ∀w,isBeen (marks.set (iget f.tk c).toNat true) w↔w=iget f.tk c\/isBeen marks w:=fun w=>by
     constructor
     . rintro⟨h1,h2⟩
       rw[List.getElem?_set]at h2
       by_cases h3:(iget f.tk c).toNat=w.toNat
       . exact .inl (by omega)
       . rw[if_neg h3]at h2;exact .inr ⟨h1,h2⟩
     . rintro(rfl |⟨h1,h2⟩)
       . exact⟨a,List.getElem?_set_self (by omega)⟩
       . refine⟨h1,?_⟩;rw[List.getElem?_set]
         by_cases h3:(iget f.tk c).toNat=w.toNat
         . rw[if_pos h3,if_pos (by omega)]
         . rw[if_neg h3];exact h2
    have hcc:c≠iget f.tk c:=fun h=>by
     have:=hc.2;rw[h,e]at this;cases this
    have:=ih (iget f.tk c) (marks.set (iget f.tk c).toNat true) (by simpa using hl) ((hnew _).2 (.inl rfl)) (fun w hw2=>?_) (by omega)
    . unfold ends;rw[this];simp
    . rcases(hnew w).1 hw2 with rfl | hw3
      . exact .inr ⟨c,(hnew c).2 (.inr hc),hcc,rfl⟩
      . rcases hw w hw3 with h |⟨u,u1,u2,u3⟩
        . exact .inl h
        . refine .inr ⟨u,(hnew u).2 (.inr u1),fun h=>?_,u3⟩;have:=u1.2;rw[h,e]at this;cases this
theorem PN(hle:f.leads){k:Nat}(h:f.headOf k=true):ends f.tk f.tk.length k=true:=by
 obtain⟨h1,h2⟩:=CY hle h;have hk:=Eu hle h1;have hl:f.tk.length=f.blocks.length:=AI f _;have hget:(List.replicate f.blocks.length false)[k]?=some false:=by
  rw[List.getElem?_replicate,if_pos (by omega)]
 have hu:=Iu hget;have hr:T5 (List.replicate f.blocks.length false)=f.blocks.length:=by simp[T5]
 refine bp hle h2 f.tk.length k ((List.replicate f.blocks.length false).set k true) (by simp) ⟨by omega,by rw[Int.toNat_natCast,List.getElem?_set_self (by simp;omega)]⟩ (fun w hw=>?_) (by omega);left;obtain⟨w1,w2⟩:=hw;rw[List.getElem?_set]at w2
 by_cases h3:k=w.toNat
 . omega
 . rw[if_neg h3]at w2;have:=List.eq_of_mem_replicate (List.mem_of_getElem? w2)
   cases this
theorem PT(hle:f.leads): ∀(g:Nat) (c:Int),0<=c/\c<f.blocks.length->fol f (c::chain f.tk g c)
 | 0,c,_=>trivial
 | g+1,c,hc=>by
  unfold chain
  cases e:iget f.tk c== -1 with
  | true=>exact trivial
  | false=>
   have hne:iget f.tk c≠ -1:=by simpa using e
   obtain⟨a1,a2,a3,a4,a5,a6,a7⟩:=EU hle hc hne;exact⟨a3,a1.symm,PT hle g _ (by rw[a1];exact⟨a6,a7⟩)⟩
theorem Of(hle:f.leads)(hR: ∀k,isBeen f.reach k->∀t∈Bj f.nexts k,isBeen f.reach t): ∀(g:Nat) (c:Int),isBeen f.reach c->∀x∈chain f.tk g c,isBeen f.reach x
 | 0,c,_=>fun x hx=>by cases hx
 | g+1,c,hc=>fun x hx=>by
  unfold chain at hx
  cases e:iget f.tk c== -1 with
  | true=>rw[e]at hx;cases hx
  | false=>
   rw[e]at hx;have hcr:=Eu hle hc;obtain⟨a1,a2,a3,a4,a5,a6,a7⟩:=EU hle hcr (by simpa using e);have hb:isBeen f.reach (iget f.tk c):=hR c hc _ (by rw[Uj hle hcr,a1];simp[Block.nexts,a3]);simp only[cond_false,List.mem_cons]at hx;rcases hx with rfl | hx
   . exact hb
   . exact Of hle hR g _ hb x hx
theorem ND(hle:f.leads): ∀(g:Nat) (c:Int),ends f.tk g c=true->iget f.tk (AH (c::chain f.tk g c))= -1
 | 0,c,h=>by simpa[ends,chain,AH]using h
 | g+1,c,h=>by
  unfold ends at h;unfold chain
  cases e:iget f.tk c== -1 with
  | true=>simpa[AH]using e
  | false=>
   rw[e]at h;simp only[Bool.false_or]at h;have:=ND hle g _ h;simpa[AH]using this
theorem IF(hle:f.leads): ∀(m:Nat) {p:List Int},p∈f.pathsTo m->∃k,k<m/\f.headOf k=true/\p=A5 f.tk k
 | 0,p,h=>by cases h
 | m+1,p,h=>by
  unfold BFunc.pathsTo at h
  cases e:f.headOf m with
  | false=>
   rw[e]at h;obtain⟨k,k1,k2⟩:=IF hle m h;exact⟨k,by omega,k2⟩
  | true=>
   rw[e]at h;simp only[cond_true,List.mem_append,List.mem_singleton]at h;rcases h with h | rfl
   . obtain⟨k,k1,k2⟩:=IF hle m h;exact⟨k,by omega,k2⟩
   . exact⟨m,by omega,e,rfl⟩
theorem KX(hle:f.leads): ∀(m:Nat),m<=f.blocks.length->∀k,k<m->f.headOf k=true->∃i:Nat,iget (f.numsTo m) k=i/\(f.pathsTo m)[i]?=some (A5 f.tk k)
 | 0,_,k,h,_=>absurd h (by omega)
 | m+1,hm,k,hk,hh=>by
  have hlen:=BN f m
  cases e:f.headOf m with
  | false=>
   have hkm:k≠m:=fun h=>by rw[h,e]at hh;cases hh
   rw[Pn e,EG e];exact KX hle m (by omega) k (by omega) hh
  | true=>
   rw[Nn e,DB e,PI (by rw[hlen];omega) (by omega)]
   by_cases hkm:k=m
   . subst hkm;refine⟨(f.pathsTo k).length,by simp,?_⟩;rw[List.getElem?_append_right (Nat.le_refl _),Nat.sub_self];rfl
   . obtain⟨i,i1,i2⟩:=KX hle m (by omega) k (by omega) hh;have hne:((k:Int)==(m:Int))=false:=by simp;omega
     rw[hne];exact⟨i,i1,by rw[List.getElem?_append_left (List.getElem?_eq_some_iff.1 i2).1];exact i2⟩
theorem Ly(hle:f.leads)(h0:f.headOf 0=true): ∀(m:Nat),0<m->(f.pathsTo m)[0]?=some (A5 f.tk 0)
 | 0,h=>absurd h (by omega)
 | 1,_=>by rw[DB h0];rfl
 | m+2,_=>by
  have ih:=Ly hle h0 (m+1) (by omega)
  cases e:f.headOf (m+1)with
  | false=>rw[EG e];exact ih
  | true=>rw[DB e,List.getElem?_append_left (List.getElem?_eq_some_iff.1 ih).1];exact ih
theorem target(hle:f.leads){l t:Int}(hR: ∀k,isBeen f.reach k->∀t∈Bj f.nexts k,isBeen f.reach t)(hl:isBeen f.reach l)(hlast:iget f.tk l= -1)(ht:t∈(f.blockAt l).nexts):Et f.tpaths (iget f.nums t) t=true:=by
 have hlr:=Eu hle hl;have htb:isBeen f.reach t:=hR l hl t (by rw[Uj hle hlr];exact ht);have htr:=Eu hle htb;have hh:f.headOf t.toNat=true:=Q8 hle htb (fun i hi e=>by
  have hne:t≠ -1:=by omega
  have:=Qo hle hi e hne hl ht;subst this;rw[hlast]at e;omega)
 obtain⟨i,i1,i2⟩:=KX hle f.blocks.length (Nat.le_refl _) t.toNat (by omega) hh;have et:((t.toNat:Nat):Int)=t:=Int.toNat_of_nonneg htr.1;rw[et]at i1 i2;have hil:=(List.getElem?_eq_some_iff.1 i2).1;have hp:E5 f.tpaths (iget f.nums t)=A5 f.tk t:=by
  rw[show iget f.nums t=i from i1,E5,Int.toNat_natCast];show((f.pathsTo f.blocks.length)[i]?).getD []=_;rw[i2];rfl
 refine U8 (by rw[show iget f.nums t=i from i1];omega) (by rw[show iget f.nums t=i from i1];show(i:Int)<((f.pathsTo f.blocks.length).length:Int);omega) ?_;rw[hp];rfl
theorem MB(hle:f.leads)(hn:f.blocks≠[]):Wu f f.tidy f.tpaths:=by
 have hnn:f.nexts≠[]:=by simpa[BFunc.nexts]using hn
 obtain⟨r0,rc⟩:=Ha hnn (SR hle);have hR: ∀k,isBeen f.reach k->∀t∈Bj f.nexts k,isBeen f.reach t:=rc
 have hpos:=List.length_pos_iff.2 hn;have h0:f.headOf 0=true:=Q8 hle (t:=0) r0 (fun i hi e=>by
  have:=EU hle hi (by rw[e];decide);rw[e]at this;exact this.2.2.2.1 this.1.symm)
 have hfirst:=Ly hle h0 f.blocks.length hpos;have hmem: ∀(k:Nat) (p:List Int),f.tpaths[k]?=some p->∃c:Nat,f.headOf c=true/\p=A5 f.tk c:=fun k p hp=>by
  obtain⟨c,_,c2,c3⟩:=IF hle _ (List.mem_of_getElem? hp);exact⟨c,c2,c3⟩
 have hblk: ∀(k:Nat) (p:List Int),f.tpaths[k]?=some p->f.tidy.blockAt k=f.newBlock p:=fun k p hp=>by
  simp[BFunc.blockAt,BFunc.tidy,hp]
 refine⟨fun h=>?_,by simp[BFunc.tidy],rfl,HX hle _ (Nat.le_refl _),?_,fun k p hp=>?_,fun k p hp=>?_,fun k p hp=>?_⟩
 . have:=(List.getElem?_eq_some_iff.1 hfirst).1;have h':(f.pathsTo f.blocks.length).length=0:=h;omega
 . have:E5 f.tpaths 0=A5 f.tk 0:=by
    show((f.pathsTo f.blocks.length)[0]?).getD []=_;rw[hfirst];rfl
   rw[this];rfl
 . obtain⟨c,c1,rfl⟩:=hmem k p hp;exact PT hle _ _ (Eu hle (CY hle c1).1)
 . rw[hblk k p hp];rfl
 . obtain⟨c,c1,rfl⟩:=hmem k p hp;have hcb:=(CY hle c1).1;have hne:A5 f.tk c≠[]:=by simp[A5]
   have hlb:isBeen f.reach (AH (A5 f.tk c)):=by
    have:=J8 hne;simp only[A5,List.mem_cons]at this;rcases this with h | h
    . show isBeen f.reach (AH (↑c::chain f.tk f.tk.length ↑c));rw[h];exact hcb
    . exact Of hle hR _ _ hcb _ h
   have hlast:iget f.tk (AH (A5 f.tk c))= -1:=ND hle _ _ (PN hle c1);rw[hblk k _ hp];refine XH rfl rfl (fun e=>?_) (fun e=>?_) (fun e=>?_) (fun e=>?_)
   . have e':((f.blockAt (AH (A5 f.tk c))).fin==1||(f.blockAt (AH (A5 f.tk c))).fin==2)=true:=by
      have:(f.blockAt (AH (A5 f.tk c))).fin=1\/(f.blockAt (AH (A5 f.tk c))).fin=2:=e;simpa using this
     have hto:(f.newBlock (A5 f.tk c)).to=iget f.nums (f.blockAt (AH (A5 f.tk c))).to:=by simp only[BFunc.newBlock,e',cond_true]
     rw[hto];refine target hle hR hlb hlast ?_;have:(f.blockAt (AH (A5 f.tk c))).fin=1\/(f.blockAt (AH (A5 f.tk c))).fin=2:=e;rcases this with e | e<;>simp[Block.nexts,e]
   . have e':((f.blockAt (AH (A5 f.tk c))).fin==1||(f.blockAt (AH (A5 f.tk c))).fin==2)=false:=by
      have: ¬((f.blockAt (AH (A5 f.tk c))).fin=1\/(f.blockAt (AH (A5 f.tk c))).fin=2):=e;simpa using this
     simp only[BFunc.newBlock,e',cond_false]
   . have e':(f.blockAt (AH (A5 f.tk c))).fin=2:=e;have hel:(f.newBlock (A5 f.tk c)).els=iget f.nums (f.blockAt (AH (A5 f.tk c))).els:=by simp[BFunc.newBlock,e']
     rw[hel];exact target hle hR hlb hlast (by simp[Block.nexts,e'])
   . have e':((f.blockAt (AH (A5 f.tk c))).fin==2)=false:=by
      have:(f.blockAt (AH (A5 f.tk c))).fin≠2:=e;simpa using this
     simp only[BFunc.newBlock,e',cond_false]
end
inductive D6(next:List (List Int)):Int->Prop
  | zero:D6 next 0
  | step (k t:Int):D6 next k->t∈Bj next k->D6 next t
structure Oo(next:List (List Int))(s:DS):Prop where
  been: ∀k,isBeen s.been k->D6 next k
  way: ∀p∈s.way,D6 next p.1
theorem N5{next:List (List Int)}{b:Int}{s:DS}(hb:D6 next b)(h:Oo next s):Oo next (BD b s):=by
 unfold BD
 cases e:notBeen s.been b with
 | false=>exact h
 | true=>
  obtain⟨h1,h2,h3⟩:=CG e;simp only[cond_true];refine⟨fun k hk=>?_,fun p hp=>?_⟩
  . obtain⟨k1,k2⟩:=hk;rw[List.getElem?_set]at k2
    by_cases hh:b.toNat=k.toNat
    . have:k=b:=by omega
      rw[this];exact hb
    . rw[if_neg hh]at k2;exact h.been k ⟨k1,k2⟩
  . simp only[List.mem_append,List.mem_singleton]at hp;rcases hp with hp | rfl
    . exact h.way p hp
    . exact hb
theorem UX{next:List (List Int)}{s:DS}(hok:s.ok next)(h:Oo next s):Oo next (Er next s):=by
 unfold Er;split
 . exact h
 . rename_i b i e;have hw:=FJ e;have hmem:(b,i)∈s.way:=by rw[hw];simp
   have hb:=hok.way (b,i) hmem;simp only at hb
   cases hi:decide (i<(Bj next b).length)with
   | false=>exact⟨h.been,fun p hp=>h.way p (List.dropLast_subset _ hp)⟩
   | true=>
    have hi':i<(Bj next b).length:=by simpa using hi
    obtain⟨t0,ht0⟩:=Ae (l:=Bj next b) (k:=i.toNat) (by omega);simp only[cond_true,ht0,Option.getD_some];refine N5 (.step b t0 (h.way _ hmem) (List.mem_of_getElem? ht0)) ⟨h.been,fun p hp=>?_⟩;simp only[List.mem_append,List.mem_singleton]at hp;rcases hp with hp | rfl
    . exact h.way p (List.dropLast_subset _ hp)
    . exact h.way (b,i) hmem
theorem P1{next:List (List Int)}: ∀(g:Nat) (s:DS),s.ok next->Oo next s->Oo next (Hp next g s)
 | 0,_,_,h=>h
 | g+1,s,hok,h=>by
  unfold Hp;split
  . exact h
  . exact P1 g _ (N0 hok) (UX hok h)
theorem Xf{next:List (List Int)}(hn:next≠[])(hlead: ∀l∈next,∀t∈l,0<=t/\t<next.length)(k:Int):isBeen (F2 next (List.replicate next.length false)) k↔D6 next k:=by
 obtain⟨r0,rc⟩:=Ha hn hlead;constructor
 . intro hk;have hok0:(DS.mk (List.replicate next.length false) []).ok next:=⟨by simp,fun p hp=>by cases hp⟩;have h0:Oo next (DS.mk (List.replicate next.length false) []):=⟨fun k hk=>(by
    have h2:(List.replicate next.length false)[k.toNat]?=some true:=hk.2;have:=List.eq_of_mem_replicate (List.mem_of_getElem? h2)
    cases this),fun p hp=>(by cases hp)⟩
   exact(P1 _ _ (dinto_ok hok0) (N5 .zero h0)).been k hk
 . intro hk
   induction hk with
   | zero=>exact r0
   | step k t _ ht ih=>exact rc k ih t ht
def Jm(next:List (List Int))(m:Nat):List Int:=(next[m]?).getD []
def cntTo(next:List (List Int))(reach:List Bool)(k:Int):Nat->Nat
  | 0=>0
  | m+1=>cntTo next reach k m+(bif (reach[m]?).getD false then(Jm next m).count k else 0)
theorem RP{next:List (List Int)}{reach:List Bool}(hlead: ∀l∈next,∀t∈l,0<=t/\t<next.length){k:Int}(hk:0<=k): ∀m,m<=next.length->iget (Bm next reach m) k=(cntTo next reach k m:Int)
 | 0,_=>by
  grind[Bm,iget,cntTo]
 | m+1,hm=>by
  have ih:=RP (reach:=reach) hlead hk m (by omega);obtain⟨l,hl⟩:=Ae (l:=next) (k:=m) (by omega);have hlen:=Bo next reach m;have e:Bm next reach (m+1)=bif (reach[m]?).getD false then l.foldl Ik (Bm next reach m)else Bm next reach m:=by
   rw[Bm,hl];rfl
  have e2:Jm next m=l:=by rw[Jm,hl];rfl
  rw[e,cntTo,e2]
  cases (reach[m]?).getD false with
  | true=>rw[cond_true,cond_true,Ij l _ k (fun t ht=>by rw[hlen];exact hlead l (List.mem_of_getElem? hl) t ht) hk,ih];omega
  | false=>rw[cond_false,cond_false,ih];omega
theorem bH{next:List (List Int)}{reach:List Bool}{k:Int}: ∀{m i:Nat},i<m->reach[i]?=some true->(Jm next i).count k<=cntTo next reach k m
 | 0,i,h,_=>absurd h (by omega)
 | m+1,i,h,hr=>by
  unfold cntTo
  by_cases him:i=m
  . grind
  . have:=bH (next:=next) (k:=k) (m:=m) (by omega) hr;omega
theorem Wl{next:List (List Int)}{reach:List Bool}{k:Int}: ∀{m:Nat},1<=cntTo next reach k m->∃i,i<m/\reach[i]?=some true/\k∈Jm next i
 | 0,h=>by simp[cntTo]at h
 | m+1,h=>by
  unfold cntTo at h
  by_cases h1:1<=cntTo next reach k m
  . obtain⟨i,i1,i2,i3⟩:=Wl h1;exact⟨i,by omega,i2,i3⟩
  grind
theorem Wj{next:List (List Int)}{reach:List Bool}{k:Int}: ∀{m:Nat},2<=cntTo next reach k m->
 (∃i j,i<j/\j<m/\reach[i]?=some true/\reach[j]?=some true/\k∈Jm next i/\k∈Jm next j)\/(∃i,i<m/\reach[i]?=some true/\2<=(Jm next i).count k)
 | 0,h=>by simp[cntTo]at h
 | m+1,h=>by
  unfold cntTo at h
  by_cases h2:2<=cntTo next reach k m
  . rcases Wj h2 with⟨i,j,a,b,c⟩ |⟨i,a,b⟩
    . exact .inl ⟨i,j,a,by omega,c⟩
    . exact .inr ⟨i,by omega,b⟩
  grind[cntTo,Wl,Jm]
theorem Ih{tk:List Int}: ∀(g:Nat) (c x:Int),x∈chain tk g c->∃u,u∈c::chain tk g c/\iget tk u=x/\x≠ -1
 | 0,c,x,hx=>by cases hx
 | g+1,c,x,hx=>by
  unfold chain at hx |-
  cases e:iget tk c== -1 with
  | true=>rw[e]at hx;cases hx
  | false=>
   rw[e]at hx;simp only[cond_false]at hx |-;rcases List.mem_cons.1 hx with rfl | hx
   . exact⟨c,by simp,rfl,by simpa using e⟩
   . obtain⟨u,u1,u2⟩:=Ih g _ x hx;exact⟨u,List.mem_cons_of_mem _ u1,u2⟩
section
variable {f : BFunc}
theorem Zv(hle:f.leads)(hn:f.blocks≠[]):isBeen f.reach 0/\∀k,isBeen f.reach k->∀t∈Bj f.nexts k,isBeen f.reach t:=by
 have hnn:f.nexts≠[]:=by simpa[BFunc.nexts]using hn
 exact Ha hnn (SR hle)
theorem Zu(hle:f.leads)(hn:f.blocks≠[])(k:Int):isBeen f.reach k↔D6 f.nexts k:=by
 have hnn:f.nexts≠[]:=by simpa[BFunc.nexts]using hn
 exact Xf hnn (SR hle) k
theorem XN(hle:f.leads)(hn:f.blocks≠[]):f.headOf 0=true:=Q8 hle (t:=0) (Zv hle hn).1 (fun i hi e=>by
 have:=EU hle hi (by rw[e];decide);rw[e]at this;exact this.2.2.2.1 this.1.symm)
theorem eC{c d:Nat}(hle:f.leads)(hc:f.headOf c=true)(hd:f.headOf d=true)(h:(d:Int)∈A5 f.tk c):d=c:=by
 rcases List.mem_cons.1 h with h | h
 . omega
 . exfalso;obtain⟨u,u1,u2,u3⟩:=Ih _ _ _ h;have hcr:=Eu hle (CY hle hc).1;have hur:0<=u/\u<f.blocks.length:=by
    have hl:f.tk.length=f.blocks.length:=AI f _;rcases List.mem_cons.1 u1 with rfl | hu
    . exact hcr
    . have hl':((f.takes f.reach).length:Int)=f.blocks.length:=by rw[AI]
      have:=Kn (GI hle f.reach) f.tk.length c (by rw[hl'];exact hcr) u hu;rw[hl']at this;exact this
   exact(CY hle hd).2 u hur u2
end
section
variable {f : BFunc}
section
variable {g : BFunc}
end
end
section
variable {f : BFunc}
theorem Y0(hle:f.leads){u v:Int}(hu:0<=u/\u<f.blocks.length)(hv:0<=v/\v<f.blocks.length)(h:iget f.tk u=iget f.tk v)(hne:iget f.tk u≠ -1):u=v:=by
 obtain⟨h1,h2,h3,h4⟩:=EU hle hu hne;exact Qo hle hv h.symm hne h2 (by rw[h1];simp[Block.nexts,h3])
theorem ft(hle:f.leads){u:Int}(hne:iget f.tk u≠ -1)(hu:0<=u/\u<f.blocks.length):0<=iget f.tk u/\iget f.tk u<f.blocks.length:=by
 have hl:f.tk.length=f.blocks.length:=AI f _;obtain⟨v,hv⟩:=Ae (l:=f.tk) (k:=u.toNat) (by omega);have hi:iget f.tk u=v:=by simp[iget,hv]
 rcases GI hle f.reach v (List.mem_of_getElem? hv)with e | e
 . rw[hi]at hne;exact absurd e hne
 . rw[hi];have:(f.takes f.reach).length=f.blocks.length:=AI f _;omega
theorem VV(hle:f.leads){c:Nat}(hc:f.headOf c=true): ∀x∈A5 f.tk c,0<=x/\x<f.blocks.length:=fun x hx=>by
 have hl:f.tk.length=f.blocks.length:=AI f _;have hb:=Eu hle (CY hle hc).1;rcases List.mem_cons.1 hx with rfl | hx
 . exact hb
 . have:=Kn (GI hle f.reach) _ _ (by rw[show(f.takes f.reach).length=f.blocks.length from hl];exact hb) x hx;rw[show(f.takes f.reach).length=f.blocks.length from hl]at this;exact this
theorem path_disj(hle:f.leads){c d:Nat}(hc:f.headOf c=true)(hd:f.headOf d=true): ∀x,x∈A5 f.tk c->x∈A5 f.tk d->c=d:=by
 have gen: ∀(g:Nat) (a:Int),0<=a/\a<f.blocks.length->(a∈A5 f.tk d->c=d)->∀x∈a::chain f.tk g a,x∈A5 f.tk d->c=d:=by
  intro g
  induction g with
  | zero=>intro a ha h x hx;simp[chain]at hx;subst hx;exact h
  | succ g ih=>
   intro a ha h x hx;rcases List.mem_cons.1 hx with rfl | hx
   . exact h
   . unfold chain at hx
     by_cases e:iget f.tk a= -1
     . rw[show(iget f.tk a== -1)=true by simpa using e]at hx;cases hx
     . rw[show(iget f.tk a== -1)=false by simpa using e]at hx;refine ih (iget f.tk a) (ft hle e ha) (fun h2=>?_) x hx;rcases List.mem_cons.1 h2 with e2 | h2
       . exact absurd e2 ((CY hle hd).2 a ha)
       . obtain⟨u,hu,hu2,_⟩:=Ih _ _ _ h2;have hur:=VV hle hd u hu;have:=Y0 hle hur ha hu2 (by rw[hu2];exact e);subst this;exact h hu
 grind[Eu,CY,eC,A5]
theorem Ux(hle:f.leads){c:Nat}(hc:f.headOf c=true):(A5 f.tk c).Nodup:=by
 have gen: ∀(g:Nat) (a:Int) (pre:List Int),(pre++[a]).Nodup->(∀y∈pre++[a],y=(c:Int)\/∃u∈pre,iget f.tk u=y)->(∀y∈pre++[a],0<=y/\y<f.blocks.length)->(pre++(a::chain f.tk g a)).Nodup:=by
  intro g
  induction g with
  | zero=>intro a pre h1 _ _;exact h1
  | succ g ih=>
   intro a pre h1 h2 h3;unfold chain
   by_cases e:iget f.tk a= -1
   . rw[show(iget f.tk a== -1)=true by simpa using e];exact h1
   . rw[show(iget f.tk a== -1)=false by simpa using e];have ha:=h3 a (by simp);have hy:iget f.tk a∉pre++[a]:=fun hm=>by
      rcases h2 _ hm with e2 |⟨u,hu,hu2⟩
      . exact(CY hle hc).2 a ha e2
      . have:=Y0 hle (h3 u (by simp[hu])) ha hu2 (by rw[hu2];exact e);subst this;rw[List.nodup_append]at h1;exact h1.2.2 u hu u (by simp) rfl
     have:=ih (iget f.tk a) (pre++[a]) (List.nodup_append.2 ⟨h1,by simp,fun x hx y hy2 e2=>by rw[List.mem_singleton.1 hy2]at e2;subst e2;exact hy hx⟩) (fun y hy2=>by
      rcases List.mem_append.1 hy2 with h | h
      . rcases h2 y h with e2 |⟨u,hu,hu2⟩
        . exact .inl e2
        . exact .inr ⟨u,by simp[hu],hu2⟩
      . rw[List.mem_singleton.1 h];exact .inr ⟨a,by simp,rfl⟩) (fun y hy2=>by
      rcases List.mem_append.1 hy2 with h | h
      . exact h3 y h
      . rw[List.mem_singleton.1 h];exact ft hle e ha)
     rw[List.append_assoc]at this;exact this
 have:=gen f.tk.length c [] (by simp) (fun y hy=>.inl (by simpa using hy)) (fun y hy=>by rw[show y=(c:Int) by simpa using hy];exact Eu hle (CY hle hc).1);exact this
theorem Nd(hle:f.leads): ∀m,(f.pathsTo m).flatten.Nodup/\∀x∈(f.pathsTo m).flatten,∃k,k<m/\f.headOf k=true/\x∈A5 f.tk k
 | 0=>⟨by simp[BFunc.pathsTo],fun x hx=>by simp[BFunc.pathsTo]at hx⟩
 | m+1=>by
  obtain⟨i1,i2⟩:=Nd hle m
  cases e:f.headOf m with
  | false=>rw[EG e];exact⟨i1,fun x hx=>by obtain⟨k,k1,k2,k3⟩:=i2 x hx;exact⟨k,by omega,k2,k3⟩⟩
  | true=>
   rw[DB e,List.flatten_append];refine⟨List.nodup_append.2 ⟨i1,by simpa using Ux hle e,fun x hx y hy e2=>?_⟩,fun x hx=>?_⟩
   . subst e2;obtain⟨k,k1,k2,k3⟩:=i2 x hx;have:=path_disj hle k2 e x k3 (by simpa using hy);omega
   . rcases List.mem_append.1 hx with hx | hx
     . obtain⟨k,k1,k2,k3⟩:=i2 x hx;exact⟨k,by omega,k2,k3⟩
     . exact⟨m,by omega,e,by simpa using hx⟩
def Jf(w:Int->Nat)(l:List Int):Nat:=(l.map w).sum
theorem Mq{w:Int->Nat}{x:Int}: ∀{m:List Int},x∈m->w x+Jf w (m.erase x)=Jf w m
 | [],h=>by cases h
 | y::m,h=>by
  rw[List.erase_cons]
  by_cases e:y=x
  . subst e;simp[Jf]
  . rw[show(y==x)=false by simpa using e];have hxm:x∈m:=(List.mem_cons.1 h).resolve_left (fun h=>e h.symm);have:=Mq (w:=w) hxm;simp only[Jf,List.map_cons,List.sum_cons]at this |-;simp only[if_neg Bool.false_ne_true,List.map_cons,List.sum_cons];omega
theorem Vj{w:Int->Nat}: ∀(l m:List Int),l.Nodup->(∀x∈l,x∈m)->Jf w l<=Jf w m
 | [],m,_,_=>Nat.zero_le _
 | x::l,m,h1,h2=>by
  obtain⟨g1,g2⟩:=List.nodup_cons.1 h1;have hx:=h2 x (by simp);have:=Vj (w:=w) l (m.erase x) g2 fun y hy=>(List.mem_erase_of_ne (fun e=>g1 (by subst e;exact hy))).2 (h2 y (by simp[hy]))
  grind[Mq,Jf]
theorem OV{w:Int->Nat}: ∀(ps:List (List Int)),Jf w ps.flatten=(ps.map (Jf w)).sum
 | []=>rfl
 | p::ps=>by
  rw[List.flatten_cons,List.map_cons,List.sum_cons,<-OV ps];simp[Jf]
theorem S8(p:List Int):(f.joined p).length+p.length=Jf (fun i=>(f.blockAt i).count) p:=by
 induction p with
 | nil=>rfl
 | cons i r ih=>
  grind[BFunc.joined,List.length_append,Jf,Block.count]
theorem Ul(f:BFunc):Jf (fun i=>(f.blockAt i).count) ((List.range f.blocks.length).map fun(k:Nat)=>(k:Int))=f.count:=by
 unfold Jf BFunc.count;rw[List.map_map];congr 1;apply List.ext_getElem?;intro k;rw[List.getElem?_map,List.getElem?_map]
 by_cases hk:k<f.blocks.length
 . obtain⟨x,hx⟩:=Ae hk;rw[List.getElem?_range hk,hx];simp[BFunc.blockAt,hx]
 . rw[List.getElem?_eq_none (by simp;omega),List.getElem?_eq_none (by omega)];rfl
theorem T8(hle:f.leads):f.tidy.count<=f.count:=by
 obtain⟨h1,h2⟩:=Nd hle f.blocks.length;rw[<-Ul f];refine Nat.le_trans ?_ (Vj (w:=fun i=>(f.blockAt i).count) f.tpaths.flatten _ h1 fun x hx=>?_)
 . rw[OV];show((f.tpaths.map f.newBlock).map Block.count).sum<=_;rw[List.map_map];have key: ∀(ps:List (List Int)),(∀p∈ps,p≠[])->(ps.map (Block.count∘f.newBlock)).sum<=(ps.map (Jf fun i=>(f.blockAt i).count)).sum:=by
    intro ps
    induction ps with
    | nil=>intro _;exact Nat.le_refl _
    | cons p ps ih=>
     intro hp;simp only[List.map_cons,List.sum_cons];have h3:=ih fun q hq=>hp q (by simp[hq])
     have h4:=S8 (f:=f) p;have h5:p.length≠0:=fun e=>hp p (by simp) (List.length_eq_zero_iff.1 e)
     have h6:(Block.count∘f.newBlock) p=1+(f.joined p).length:=rfl;omega
   refine key _ fun p hp=>?_
   obtain⟨k,_,_,rfl⟩:=IF hle _ hp;exact List.cons_ne_nil _ _
 . obtain⟨k,k1,k2,k3⟩:=h2 x hx;have:=VV hle k2 x k3;exact List.mem_map.2 ⟨x.toNat,List.mem_range.2 (by omega),by omega⟩
end
def need(v:Nat):List Tac->Bool->Bool
  | [],z=>z
  | t::r,z=>t.uses.contains (v:Int)||(!(t.sets==(v:Int))&&need v r z)
theorem HY(v:Nat)(l2:List Tac)(z:Bool): ∀l1,need v (l1++l2) z=need v l1 (need v l2 z)
 | []=>rfl
 | t::r=>by rw[List.cons_append,need,need,HY v l2 z r]
theorem Bp{v:Nat}{z z':Bool}(h:z=true->z'=true): ∀{l},need v l z=true->need v l z'=true
 | [],e=>h e
 | t::r,e=>by
  have ih:=Bp (v:=v) h (l:=r)
  grind[need]
theorem V0(v:Nat)(a b:Bool): ∀l,need v l (a||b)=(need v l a||need v l b)
 | []=>rfl
 | t::r=>by
  unfold need;rw[V0 v a b r]
  grind
theorem Nr{v:Nat}{t:Tac}{l1 l2:List Tac}{z:Bool}(h:t.sets=(v:Int)->need v l2 z=false)(hn:need v (l1++l2) z=true):need v (l1++t::l2) z=true:=by
 grind[HY,Bp,need]
theorem KZ{v:Nat}{t:Tac}{l1 l2:List Tac}{z:Bool}(h:t.uses.contains (v:Int)=false)(hn:need v (l1++t::l2) z=true):need v (l1++l2) z=true:=by
 grind[HY,Bp,need]
def C2(x:Block)(v:Nat):Bool:=x.fin==2&&x.v==(v:Int)
inductive Db(f:BFunc)(v:Nat):Nat->Prop
  | here {c:Nat} {x:Block}:f.blocks[c]?=some x->need v x.ins (C2 x v)=true->Db f v c
  | thru {c:Nat} {d:Int} {x:Block}:f.blocks[c]?=some x->need v x.ins true=true->d∈x.nexts->Db f v d.toNat->Db f v c
open Classical in
noncomputable def UM(f:BFunc)(v c:Nat):Bool:=decide (Db f v c)
noncomputable def outB(f:BFunc)(x:Block)(v:Nat):Bool:=x.nexts.any fun d=>UM f v d.toNat
noncomputable def endB(f:BFunc)(x:Block)(v:Nat):Bool:=C2 x v||outB f x v
theorem inB_iff{f:BFunc}{v c:Nat}:UM f v c=true↔Db f v c:=by unfold UM;simp
theorem outB_iff{f:BFunc}{x:Block}{v:Nat}:outB f x v=true↔ ∃d∈x.nexts,Db f v d.toNat:=by
 grind[outB,List.any_eq_true,inB_iff]
theorem aP{f:BFunc}{v c:Nat}{x:Block}(hx:f.blocks[c]?=some x):UM f v c=need v x.ins (endB f x v):=by
 rw[Bool.eq_iff_iff,inB_iff];constructor
 . intro h
   cases h with
   | here h1 h2=>rw[hx]at h1;cases h1;exact Bp (fun e=>by unfold endB;rw[e];rfl) h2
   | thru h1 h2 h3 h4=>rw[hx]at h1;cases h1;exact Bp (fun _=>by unfold endB;rw[outB_iff.2 ⟨_,h3,h4⟩,Bool.or_true]) h2
 . intro h;unfold endB at h;rw[V0,Bool.or_eq_true]at h;rcases h with h | h
   . exact .here hx h
   . cases ho:outB f x v with
     | true=>rw[ho]at h;obtain⟨d,h1,h2⟩:=outB_iff.1 ho;exact .thru hx h h1 h2
     | false=>rw[ho]at h;exact .here hx (Bp (fun e=>by cases e) h)
theorem Nz{f:BFunc}{v:Nat}{I:Nat->Bool}(hc: ∀c x,f.blocks[c]?=some x->need v x.ins (C2 x v||x.nexts.any fun d=>I d.toNat)=true->I c=true): ∀{c},Db f v c->I c=true:=by
 intro c h
 induction h with
 | here h1 h2=>exact hc _ _ h1 (Bp (fun e=>by rw[e];rfl) h2)
 | @thru c d x h1 h2 h3 _ ih=>exact hc _ _ h1 (Bp (fun _=>by rw[List.any_eq_true.2 ⟨d,h3,ih⟩,Bool.or_true]) h2)
def Tac.pure(t:Tac):Bool:=t.op==1||(t.op==2||(t.op==4||(t.op==3&&(!(t.k==7)&& !(t.k==8)))))
def Block.mid(x:Block)(l:List Tac):Block:={x with ins:=l}
def BFunc.putB(f:BFunc)(c:Nat)(x:Block):BFunc:={f with blocks:=f.blocks.set c x}
structure Fa(f g:BFunc)(c:Nat)(x:Block)(l1:List Tac)(t:Tac)(l2:List Tac)(v:Nat):Prop where
  hx:f.blocks[c]?=some x
  hi:x.ins=l1++t::l2
  pure:t.pure=true
  hv:t.sets=(v:Int)
  dead:need v l2 (endB f x v)=false
  hg:g=f.putB c (x.mid (l1++l2))
def YG(f g:BFunc):Prop:=∃c x l1 t l2 v,Fa f g c x l1 t l2 v
theorem Eb{f:BFunc}{c:Nat}{x y:Block}(hx:f.blocks[c]?=some x):(f.putB c y).blocks[c]?=some y:=by
 have hc:=(List.getElem?_eq_some_iff.1 hx).1;exact List.getElem?_set_self hc
theorem Hc{f:BFunc}{c d:Nat}{y:Block}(h:c≠d):(f.putB c y).blocks[d]?=f.blocks[d]?:=List.getElem?_set_ne h
theorem JX(f:BFunc)(c:Nat)(y:Block):(f.putB c y).blocks.length=f.blocks.length:=List.length_set
theorem N6{f g:BFunc}{c:Nat}{x:Block}{l1 l2:List Tac}{t:Tac}{v:Nat}(h:Fa f g c x l1 t l2 v){w:Nat}{z:Bool}(hz:z=true->endB f x w=true):t.sets=(w:Int)->need w l2 z=false:=by
 intro e;have hvw:v=w:=by have:=h.hv.symm.trans e;omega
 subst hvw
 cases hn:need v l2 z with
 | false=>rfl
 | true=>exact(h.dead.symm.trans (Bp hz hn)).symm▸rfl
theorem Pu{f g:BFunc}{c:Nat}{x:Block}{l1 l2:List Tac}{t:Tac}{v:Nat}(h:Fa f g c x l1 t l2 v){w d:Nat}(hl:Db g w d):Db f w d:=by
 have hg:=h.hg
 induction hl with
 | @here d y h1 h2=>
  by_cases hcd:c=d
  . subst hcd;rw[hg,Eb h.hx]at h1;cases h1;refine .here h.hx ?_;rw[h.hi];exact Nr (N6 h (fun e=>by unfold endB;rw[show C2 x w=true from e];rfl)) h2
  . rw[hg,Hc hcd]at h1;exact .here h1 h2
 | @thru d e y h1 h2 h3 h4 ih=>
  by_cases hcd:c=d
  . subst hcd;rw[hg,Eb h.hx]at h1;cases h1;refine .thru h.hx ?_ h3 ih;rw[h.hi];have h3':e∈x.nexts:=h3;exact Nr (N6 h (fun _=>by unfold endB;rw[outB_iff.2 ⟨_,h3',ih⟩,Bool.or_true])) h2
  . rw[hg,Hc hcd]at h1;exact .thru h1 h2 h3 ih
theorem V2{f g:BFunc}{c:Nat}{x:Block}{l1 l2:List Tac}{t:Tac}{v:Nat}(h:Fa f g c x l1 t l2 v){w d:Nat}(hw:t.uses.contains (w:Int)=false)(hl:Db f w d):Db g w d:=by
 have hg:=h.hg
 induction hl with
 | @here d y h1 h2=>
  by_cases hcd:c=d
  . subst hcd;rw[h.hx]at h1;cases h1;rw[h.hi]at h2;exact .here (x:=x.mid (l1++l2)) (by rw[hg];exact Eb h.hx) (KZ hw h2)
  . exact .here (by rw[hg,Hc hcd];exact h1) h2
 | @thru d e y h1 h2 h3 h4 ih=>
  by_cases hcd:c=d
  . subst hcd;rw[h.hx]at h1;cases h1;rw[h.hi]at h2;exact .thru (x:=x.mid (l1++l2)) (by rw[hg];exact Eb h.hx) (KZ hw h2) h3 ih
  . exact .thru (by rw[hg,Hc hcd];exact h1) h2 h3 ih
theorem Lc{f g:BFunc}{c:Nat}{x:Block}{l1 l2:List Tac}{t:Tac}{v:Nat}(h:Fa f g c x l1 t l2 v){y y':Block}(hy:y'.fin=y.fin/\y'.v=y.v/\y'.nexts=y.nexts){w:Nat}(e:endB g y' w=true):endB f y w=true:=by
 grind[endB,C2,outB_iff,Pu]
theorem Mh{f g:BFunc}{c:Nat}{x:Block}{l1 l2:List Tac}{t:Tac}{v:Nat}(h:Fa f g c x l1 t l2 v){y y':Block}(hy:y'.fin=y.fin/\y'.v=y.v/\y'.nexts=y.nexts){w:Nat}(hw:t.uses.contains (w:Int)=false)(e:endB f y w=true):endB g y' w=true:=by
 grind[endB,C2,outB_iff,V2]
theorem SQ(x:Block)(l:List Tac):(x.mid l).fin=x.fin/\(x.mid l).v=x.v/\(x.mid l).nexts=x.nexts:=⟨rfl,rfl,rfl⟩
theorem false_of{a b:Bool}(h:a=true->b=true)(hb:b=false):a=false:=by cases a with | false=>rfl | true=>rw[h rfl]at hb;cases hb
theorem P5{f g1 g2:BFunc}{c1 c2:Nat}{x1 x2:Block}{l1 l2 m1 m2:List Tac}{t u:Tac}{v w:Nat}(h1:Fa f g1 c1 x1 l1 t l2 v)(h2:Fa f g2 c2 x2 m1 u m2 w)(hne:c1≠c2):
 Fa g1 (g1.putB c2 (x2.mid (m1++m2))) c2 x2 m1 u m2 w where
 hx:=by rw[h1.hg,Hc hne];exact h2.hx
 hi:=h2.hi
 pure:=h2.pure
 hv:=h2.hv
 dead:=false_of (Bp (Lc h1 ⟨rfl,rfl,rfl⟩)) h2.dead
 hg:=rfl
theorem N8{f g1 g2:BFunc}{c:Nat}{x:Block}{l1 k m2:List Tac}{t u:Tac}{v w:Nat}(h1:Fa f g1 c x l1 t (k++u::m2) v)(h2:Fa f g2 c x (l1++t::k) u m2 w):
 Fa g1 (f.putB c (x.mid (l1++k++m2))) c (x.mid (l1++(k++u::m2))) (l1++k) u m2 w/\Fa g2 (f.putB c (x.mid (l1++k++m2))) c (x.mid ((l1++t::k)++m2)) l1 t (k++m2) v:=by
 have hpp: ∀(y z:Block),(f.putB c y).putB c z=f.putB c z:=fun y z=>by unfold BFunc.putB;rw[List.set_set]
 constructor
 . exact {hx:=by rw[h1.hg];exact Eb h1.hx,hi:=by simp[Block.mid],pure:=h2.pure,hv:=h2.hv,dead:=false_of (Bp (Lc h1 (SQ _ _))) h2.dead,hg:=by rw[h1.hg,hpp];rfl}
 . refine {hx:=by rw[h2.hg];exact Eb h1.hx,hi:=by simp[Block.mid],pure:=h1.pure,hv:=h1.hv,dead:=?_,hg:=by rw[h2.hg,hpp];simp[Block.mid]};refine false_of (fun e=>?_) h1.dead
   grind[Nr,N6,Bp,Lc,SQ,BFunc.putB,Block.mid]
theorem TB{f g1 g2:BFunc}(h1:YG f g1)(h2:YG f g2):g1=g2\/∃h,YG g1 h/\YG g2 h:=by
 obtain⟨c1,x1,l1,t,l2,v,h1⟩:=h1;obtain⟨c2,x2,m1,u,m2,w,h2⟩:=h2
 by_cases hc:c1=c2
 . subst hc;have hx:=h1.hx.symm.trans h2.hx;cases hx;have he:=h1.hi.symm.trans h2.hi;rcases List.append_eq_append_iff.1 he with⟨k,hk1,hk2⟩ |⟨k,hk1,hk2⟩
   . cases k with
     | nil=>
      exact jh
     | cons a k=>
      simp only[List.cons_append,List.cons.injEq]at hk2;obtain⟨e1,e2⟩:=hk2;subst e1;subst e2;subst hk1;have:=N8 h1 h2;exact .inr ⟨_,⟨_,_,_,_,_,_,this.1⟩,⟨_,_,_,_,_,_,this.2⟩⟩
   . cases k with
     | nil=>
      exact jh
     | cons a k=>
      simp only[List.cons_append,List.cons.injEq]at hk2;obtain⟨e1,e2⟩:=hk2;subst e1;subst e2;subst hk1;have:=N8 h2 h1;exact .inr ⟨_,⟨_,_,_,_,_,_,this.2⟩,⟨_,_,_,_,_,_,this.1⟩⟩
 . have a1:=P5 h1 h2 hc;have a2:=P5 h2 h1 (Ne.symm hc);refine .inr ⟨_,⟨_,_,_,_,_,_,a1⟩,?_⟩;have e:g1.putB c2 (x2.mid (m1++m2))=g2.putB c1 (x1.mid (l1++l2)):=by
    rw[h1.hg,h2.hg];unfold BFunc.putB;simp only;rw[List.set_comm _ _ hc]
   rw[e];exact⟨_,_,_,_,_,_,a2⟩
def aM(f:BFunc):Nat:=(f.blocks.map fun x=>x.ins.length).sum
theorem Vu{α:Type}{p:α->Nat}{y:α}: ∀{l:List α} {c:Nat} {x:α},l[c]?=some x->((l.set c y).map p).sum+p x=(l.map p).sum+p y
 | [],c,x,h=>by simp at h
 | a::l,0,x,h=>by simp at h;subst h;simp;omega
 | a::l,c+1,x,h=>by
  have ih:=Vu (p:=p) (y:=y) (l:=l) (c:=c) (x:=x) (by simpa using h)
  grind
theorem Gn{f g:BFunc}(h:YG f g):aM g+1=aM f:=by
 obtain⟨c,x,l1,t,l2,v,h⟩:=h;have:=Vu (p:=fun(x:Block)=>x.ins.length) (y:=x.mid (l1++l2)) h.hx;have hl:=congrArg List.length h.hi;rw[h.hg];unfold aM BFunc.putB;simp only[Block.mid,List.length_append,List.length_cons]at this hl |-;omega
inductive Cuts:BFunc->BFunc->Prop
  | refl (f:BFunc):Cuts f f
  | step {f g h:BFunc}:YG f g->Cuts g h->Cuts f h
theorem Cuts.trans{f g h:BFunc}(h1:Cuts f g)(h2:Cuts g h):Cuts f h:=by
 induction h1 with
 | refl=>exact h2
 | step a _ ih=>exact .step a (ih h2)
theorem Cuts.one{f g:BFunc}(h:YG f g):Cuts f g:=.step h (.refl g)
def Clean(f:BFunc):Prop:=∀g,¬YG f g
theorem JB: ∀(n:Nat) (f:BFunc),aM f<=n->∃g,Cuts f g/\Clean g
 | 0,f,h=>⟨f,.refl f,fun g hg=>by have:=Gn hg;omega⟩
 | n+1,f,h=>by
  by_cases hc:Clean f
  . exact⟨f,.refl f,hc⟩
  . have⟨g,hg⟩: ∃g,YG f g:=Classical.not_forall_not.1 hc
    obtain⟨k,h1,h2⟩:=JB n g (by have:=Gn hg;omega);exact⟨k,.step hg h1,h2⟩
theorem Rm: ∀(n:Nat) (f:BFunc),aM f<=n->∀{g h},Cuts f g->Clean g->Cuts f h->Clean h->g=h:=by
 intro n
 induction n with
 | zero=>
  intro f hn g h h1 c1 h2 c2
  cases h1 with
  | step a _=>have:=Gn a;omega
  | refl=>
   cases h2 with
   | refl=>rfl
   | step a _=>have:=Gn a;omega
 | succ n ih=>
  intro f hn g h h1 c1 h2 c2
  cases h1 with
  | refl=>
   cases h2 with
   | refl=>rfl
   | step a _=>exact absurd a (c1 _)
  | @step _ g' _ a1 b1=>
   cases h2 with
   | refl=>exact absurd a1 (c2 _)
   | @step _ h' _ a2 b2=>
    have i1:=Gn a1;have i2:=Gn a2;rcases TB a1 a2 with e |⟨k,k1,k2⟩
    . subst e;exact ih g' (by omega) b1 c1 b2 c2
    . obtain⟨m,m1,m2⟩:=JB _ k (Nat.le_refl _);exact(ih g' (by omega) b1 c1 (.step k1 m1) m2).trans (ih h' (by omega) (.step k2 m1) m2 b2 c2)
theorem U1(f:BFunc): ∃g,Cuts f g/\Clean g:=JB _ f (Nat.le_refl _)
noncomputable def U2(f:BFunc):BFunc:=Classical.choose (U1 f)
theorem GW(f:BFunc):Cuts f (U2 f):=(Classical.choose_spec (U1 f)).1
theorem Yb(f:BFunc):Clean (U2 f):=(Classical.choose_spec (U1 f)).2
theorem iS{f g:BFunc}(h1:Cuts f g)(h2:Clean g):g=U2 f:=Rm _ f (Nat.le_refl _) h1 h2 (GW f) (Yb f)
end Go.Proofs.YtbbfelelocccmaaGreat.Sv
namespace Go.Proofs.YtbbfelelocccmaaGreat.Sv
open Go
section
variable {call call' : Int -> Mach -> Mach} {s : ByteArray} {fuel : Int}
theorem MT(l:List Int)(z v:Int):(AZ l z v).length=l.length:=List.length_set
theorem SN(t:Tac){r r':List Int}(ha:use1 t.op=true\/use2 t.op=true->rget r t.a=rget r' t.a)(hb:use2 t.op=true->rget r t.b=rget r' t.b)(m:Mach):
 (mone call s t r m).2=(mone call s t r' m).2/\((setsOp t.op=true/\∃v,(mone call s t r m).1=AZ r t.d v/\(mone call s t r' m).1=AZ r' t.d v)\/((mone call s t r m).1=r/\(mone call s t r' m).1=r'/\(setsOp t.op=false\/(mone call s t r m).2.fin≠0))):=by
 unfold mone
 cases e1:t.op==1 with
 | true=>exact⟨rfl,.inl ⟨by simp[setsOp,e1],_,rfl,rfl⟩⟩
 | false=>
 cases e2:t.op==2 with
 | true=>rw[ha (.inl (by simp[use1,e2]))];exact⟨rfl,.inl ⟨by simp[setsOp,e2],_,rfl,rfl⟩⟩
 | false=>
 cases e3:t.op==3 with
 | true=>
  grind[use2,DP,rget,setsOp,use1,mone,AZ]
 | false=>
 cases e4:t.op==4 with
 | true=>exact⟨rfl,.inl ⟨by simp[setsOp,e4],_,rfl,rfl⟩⟩
 | false=>
 cases e5:t.op==5 with
 | true=>rw[ha (.inl (by simp[use1,e5]))];exact⟨rfl,.inr ⟨rfl,rfl,.inl (by rw[eq_of_beq e5];rfl)⟩⟩
 | false=>
 cases e6:t.op==6 with
 | true=>
  grind[use1,rget,setsOp,use2,mone,AZ,DP]
 | false=>
 cases e7:t.op==7 with
 | true=>
  grind[use2,rget,use1,mone,setsOp,AZ,DP]
 | false=>
 cases e8:t.op==8 with
 | true=>
  grind[setsOp,use1,use2,rget,mone,AZ,DP]
 | false=>
 have hs:setsOp t.op=false:=by simp[setsOp,e1,e2,e3,e4,e6,e8]
 cases e9:t.op==9 with
 | true=>
  grind[use1,use2,rget,mone,setsOp,AZ,DP]
 | false=>
 cases t.op==10<;>exact⟨rfl,.inr ⟨rfl,rfl,.inl hs⟩⟩
theorem KL{l:List Int}{z:Int}{w:Nat}{v:Int}(hz:0<=z):rget (AZ l z v) (w:Int)=if z=(w:Int)/\z.toNat<l.length then v else rget l (w:Int):=by
 grind[rget,AZ]
def Tac.low(t:Tac):Prop:=(setsOp t.op=true->0<=t.d)/\(use1 t.op=true\/use2 t.op=true->0<=t.a)/\(use2 t.op=true->0<=t.b)
def EQ(p:Nat->Bool)(r r':List Int):Prop:=r.length=r'.length/\∀v:Nat,p v=true->rget r (v:Int)=rget r' (v:Int)
theorem Iw{t:Tac}(h:setsOp t.op=true):t.sets=t.d:=by unfold Tac.sets;rw[h];rfl
theorem W5{t:Tac}(h:setsOp t.op=false):t.sets= -1:=by unfold Tac.sets;rw[h];rfl
def Kc(z:Nat->Bool)(X Y:Bool×List Int×Mach):Prop:=X.1=false/\X.2.2.fin=5\/X.1=Y.1/\X.2.2.Le Y.2.2/\(X.1=true->X.2.2.fin=0/\EQ z X.2.1 Y.2.1)/\(X.1=false->X.2.2.fin≠0)
theorem U9{t:Tac}{r:List Tac}{z:Nat->Bool}{a b:List Int}(h:EQ (fun v=>need v (t::r) (z v)) a b)(hl:t.low):(use1 t.op=true\/use2 t.op=true->rget a t.a=rget b t.a)/\(use2 t.op=true->rget a t.b=rget b t.b):=by
 have key: ∀u,0<=u->t.uses.contains u=true->rget a u=rget b u:=fun u hu hc=>by
  grind[need,EQ,use1,use2,rget]
 have e12:=Mw t.op;constructor
 . intro e;refine key t.a (hl.2.1 e) ?_;rcases e with e | e<;>simp[Tac.uses,e]<;>cases use1 t.op<;>simp
 . intro e;rw[e,Bool.and_true]at e12;exact key t.b (hl.2.2 e) (by simp[Tac.uses,e,e12])
theorem XA{ok:Int->Prop}(hc:DK call call' ok){t:Tac}{r:List Tac}{z:Nat->Bool}(ht:t.op=10->ok t.base)(hl:t.low){a b:List Int}(h:EQ (fun v=>need v (t::r) (z v)) a b){m m':Mach}(h0:m.fin=0)(hm:m.Le m'):
 (mone call s t a m).2.Sim (mone call' s t b m').2/\((mone call s t a m).2.fin=0->EQ (fun v=>need v r (z v)) (mone call s t a m).1 (mone call' s t b m').1):=by
 obtain⟨u1,u2⟩:=U9 h hl;obtain⟨e1,e2⟩:=SN (call:=call) (s:=s) t u1 u2 m;obtain⟨s1,s2⟩:=SO (s:=s) hc t ht b h0 hm;rw[e1,<-s1];refine⟨s2,fun hf=>?_⟩;rcases e2 with⟨hs,v,a1,a2⟩ |⟨a1,a2,a3⟩
 . rw[a1,a2];refine⟨by rw[MT,MT];exact h.1,fun w hw=>?_⟩;rw[KL (hl.1 hs),KL (hl.1 hs),h.1]
   by_cases hd:t.d=(w:Int)
   . by_cases hlen:t.d.toNat<b.length
     . rw[if_pos ⟨hd,hlen⟩,if_pos ⟨hd,hlen⟩]
     . rw[if_neg (fun e=>hlen e.2),if_neg (fun e=>hlen e.2)];have hw2:w>=b.length:=by omega
       unfold rget;rw[Int.toNat_natCast,List.getElem?_eq_none_iff.2 hw2,List.getElem?_eq_none_iff.2 (by rw[h.1];exact hw2)]
   . rw[if_neg (fun e=>hd e.1),if_neg (fun e=>hd e.1)];refine h.2 w ?_;show need w (t::r) (z w)=true;unfold need;rw[Iw hs,show(t.d==(w:Int))=false by simpa using hd,show need w r (z w)=true from hw]
     simp
 . grind[need,W5,DK,EQ,mone,rget]
theorem cQ{k a b:Int}(hk:4<=k/\k<=15)(h7:k≠7)(h8:k≠8):(DP k a b).2=0:=by
 grind[DP]
theorem Xz{t:Tac}(hp:t.pure=true)(hk:t.op=3->4<=t.k/\t.k<=15)(r:List Int)(m:Mach): ∃v,mone call s t r m=(AZ r t.d v,m):=by
 unfold Tac.pure at hp;simp only[Bool.or_eq_true,Bool.and_eq_true,Bool.not_eq_true',beq_eq_false_iff_ne,beq_iff_eq]at hp;unfold mone;rcases hp with h | h | h |⟨h,h7,h8⟩
 . rw[h];exact⟨_,rfl⟩
 . rw[h];exact⟨_,rfl⟩
 . rw[h];exact⟨_,rfl⟩
 . have:=cQ (a:=rget r t.a) (b:=rget r t.b) (hk h) h7 h8;rw[h,this];exact⟨_,rfl⟩
theorem Xm{t:Tac}(hp:t.pure=true):setsOp t.op=true:=by
 grind[Tac.pure,setsOp]
structure cq(ok:Int->Prop)(f:BFunc):Prop where
  ins: ∀x∈f.blocks,∀t∈x.ins,(t.op=10->ok t.base)/\t.low/\(t.op=3->4<=t.k/\t.k<=15)
  fin: ∀x∈f.blocks,(x.fin=1\/x.fin=2\/x.fin=3)/\(x.fin=2->0<=x.v)
theorem az{k:Block}(hf:k.fin=1\/k.fin=2\/k.fin=3)(h3:(k.fin==3)=false)(regs:List Int):k.next regs∈k.nexts:=by
 grind[Block.next,Block.nexts,rget]
theorem UD{f:BFunc}{k:Block}(hv:k.fin=2->0<=k.v){a b:List Int}(h:EQ (endB f k) a b):k.next a=k.next b:=by
 unfold Block.next
 cases h2:k.fin==2 with
 | false=>rfl
 | true=>
  have h0:=hv (by simpa using h2);have:=h.2 k.v.toNat (by unfold endB C2;rw[h2,Int.toNat_of_nonneg h0];simp);rw[Int.toNat_of_nonneg h0]at this;rw[this]
theorem Va{f:BFunc}{k:Block}(hf:k.fin=1\/k.fin=2\/k.fin=3)(h3:(k.fin==3)=false){a b:List Int}(h:EQ (endB f k) a b):EQ (fun v=>UM f v (k.next a).toNat) a b:=
 ⟨h.1,fun v hv=>h.2 v (by unfold endB;rw[outB_iff.2 ⟨_,az hf h3 a,inB_iff.1 hv⟩,Bool.or_true])⟩
theorem bm{ok:Int->Prop}{f g:BFunc}(h:YG f g)(hf:cq ok f):cq ok g:=by
 obtain⟨c,x,l1,t,l2,v,h⟩:=h;have key: ∀y∈g.blocks,y∈f.blocks\/y=x.mid (l1++l2):=fun y hy=>by
  rw[h.hg]at hy;exact List.mem_or_eq_of_mem_set hy
 have hxm:=List.mem_of_getElem? h.hx;constructor
 . intro y hy u hu;rcases key y hy with hy | rfl
   . exact hf.ins y hy u hu
   . refine hf.ins x hxm u ?_;exact ga
 . intro y hy;rcases key y hy with hy | rfl
   . exact hf.fin y hy
   . exact hf.fin x hxm
end
theorem Z5{f:BFunc}{n w:Int}(h:f.one n w=true):cq (fun j=>0<=j/\j<n) f:=by
 have hs:=Dd h;constructor
 . intro x hx t ht;have ht':=(hs.2.2.2 x hx).2 t ht;have hI:=RZ ht';refine⟨fun ho=>by have:=hI.call ho;omega,⟨fun e=>(hI.d e).1,fun e=>(hI.a e).1,fun e=>(hI.b e).1⟩,fun ho=>?_⟩;simp only[Tac.fits,Bool.and_eq_true]at ht';have h5:=ht'.2.2.2.2.1;unfold Tac.rest at h5;rw[ho]at h5;simpa using h5
 grind[Block.ends,AP]
theorem N7{f g:BFunc}(h:Cuts f g):g.regs=f.regs/\g.blocks.length=f.blocks.length:=by
 induction h with
 | refl=>exact⟨rfl,rfl⟩
 | step a _ ih=>
  obtain⟨c,x,l1,t,l2,v,a⟩:=a;rw[a.hg]at ih;exact⟨ih.1,by rw[ih.2,JX]⟩
theorem eU{f g:BFunc}{n w:Int}(h:YG f g)(h1:f.one n w=true):g.one n w=true:=by
 obtain⟨c,x,l1,t,l2,v,h⟩:=h;have hxm:=List.mem_of_getElem? h.hx;have hlen:g.blocks.length=f.blocks.length:=by rw[h.hg,JX]
 have hreg:g.regs=f.regs:=by rw[h.hg];rfl
 simp only[BFunc.one,Bool.and_eq_true,decide_eq_true_eq,Bool.not_eq_true',List.isEmpty_eq_false_iff,List.all_eq_true]at h1 |-;refine⟨by rw[hreg];exact h1.1,by rw[hreg];exact h1.2.1,fun e=>h1.2.2.1 (by rw[<-List.length_eq_zero_iff,<-hlen,e];rfl),fun y hy=>?_⟩;rw[hlen,hreg];rw[h.hg]at hy;rcases List.mem_or_eq_of_mem_set hy with hy | rfl
 . exact h1.2.2.2 y hy
 . have hx1:=h1.2.2.2 x hxm;simp only[Block.ok,Bool.and_eq_true,List.all_eq_true]at hx1 |-;refine⟨hx1.1,fun u hu=>hx1.2 u ?_⟩;exact ga
theorem bB{f g:BFunc}{n w:Int}(h:Cuts f g)(h1:f.one n w=true):g.one n w=true:=by
 induction h with
 | refl=>exact h1
 | step a _ ih=>exact ih (eU a h1)
theorem eS{f:BFunc}{n w:Int}(h1:f.one n w=true):(U2 f).one n w=true:=bB (GW f) h1
noncomputable def Blocks.dnf(b:Blocks):Blocks:=⟨b.words,b.funcs.map Sv.U2⟩
def Gz(R:Nat)(p:Nat->Bool):List Bool:=(List.range R).map p
theorem GQ(R:Nat)(p:Nat->Bool):(Gz R p).length=R:=by simp[Gz]
theorem SM{R:Nat}{p:Nat->Bool}{v:Nat}(h:v<R):(Gz R p)[v]?=some (p v):=by simp[Gz,h]
theorem Jt{R:Nat}{p q:Nat->Bool}(h: ∀v,v<R->p v=q v):Gz R p=Gz R q:=by
 unfold Gz;exact List.map_congr_left fun v hv=>h v (List.mem_range.1 hv)
def nd(R:Nat)(x:Block)(p:Nat->Bool)(i:Nat):List Bool:=Gz R (fun v=>need v (x.ins.drop i) (C2 x v||p v))
noncomputable def V9(f:BFunc)(c:Nat):List Bool:=Gz f.regs.toNat (fun v=>UM f v c)
noncomputable def QR(f:BFunc)(x:Block):List Bool:=Gz f.regs.toNat (outB f x)
noncomputable def Hk(f:BFunc):List (List Bool):=(List.range f.blocks.length).map (V9 f)
noncomputable def Hf(f:BFunc):List (List Bool):=f.blocks.map (QR f)
structure BFunc.sane(f:BFunc):Prop where
  regs:0<=f.regs
  low: ∀x∈f.blocks,∀t∈x.ins,t.inR f.regs
  fin: ∀x∈f.blocks,x.fin=2->0<=x.v/\x.v<f.regs
  next: ∀x∈f.blocks,∀d∈x.nexts,0<=d/\d<f.blocks.length
abbrev BB:=Nat->Nat->Bool
def F9(f:BFunc)(I:BB):Prop:=∀b v,I b v=true->Db f v b
def Fl(f:BFunc)(O:BB):Prop:=∀b v,O b v=true->∃x,f.blocks[b]?=some x/\outB f x v=true
def Ga(f:BFunc)(R:Nat)(I O:BB)(b:Nat):Prop:=∀x,f.blocks[b]?=some x->∀v,v<R->(∀d∈x.nexts,I d.toNat v=true->O b v=true)/\(need v x.ins (C2 x v||O b v)=true->I b v=true)
def D7(n R:Nat)(I:BB):Nat:=((List.range n).map fun b=>((List.range R).map fun v=>if I b v then 0 else 1).sum).sum
def putBB(I:BB)(b v:Nat)(z:Bool):BB:=fun b' v'=>if b'=b/\v'=v then z else I b' v'
theorem Qr{n:Nat}{p q:Nat->Nat}(h: ∀k,k<n->p k<=q k){j:Nat}(hj:j<n)(hlt:p j<q j):((List.range n).map p).sum<((List.range n).map q).sum:=by
 induction n with
 | zero=>omega
 | succ n ih=>
  rw[List.range_succ,List.map_append,List.map_append,List.sum_append,List.sum_append];simp only[List.map_cons,List.map_nil,List.sum_cons,List.sum_nil];have hle: ∀m,m<=n->((List.range m).map p).sum<=((List.range m).map q).sum:=by
   intro m
   induction m with
   | zero=>intro _;exact Nat.le_refl _
   | succ m im=>
    intro hm;rw[List.range_succ,List.map_append,List.map_append,List.sum_append,List.sum_append];simp only[List.map_cons,List.map_nil,List.sum_cons,List.sum_nil];have:=im (by omega);have:=h m (by omega);omega
  have h1:=h n (by omega)
  by_cases hjn:j=n
  . subst hjn;have:=hle j (Nat.le_refl _);omega
  . have:=ih (fun k hk=>h k (by omega)) (by omega);omega
theorem UW{n R:Nat}{I:BB}{b v:Nat}(hb:b<n)(hv:v<R)(h:I b v=false):D7 n R (putBB I b v true)<D7 n R I:=by
 unfold D7;have hp: ∀b' v',(if putBB I b v true b' v' then 0 else 1)<=(if I b' v' then 0 else 1:Nat):=fun b' v'=>by
  unfold putBB;split
  . simp
  . split<;>simp_all
 have hsum: ∀(m:Nat) (p q:Nat->Nat),(∀k,p k<=q k)->((List.range m).map p).sum<=((List.range m).map q).sum:=fun m p q hpq=>by
  induction m with
  | zero=>exact Nat.le_refl _
  | succ m im=>
   rw[List.range_succ,List.map_append,List.map_append,List.sum_append,List.sum_append];simp only[List.map_cons,List.map_nil,List.sum_cons,List.sum_nil];have:=hpq m;omega
 refine Qr (fun k _=>hsum R _ _ (hp k)) hb ?_;refine Qr (fun k _=>hp b k) hv ?_;unfold putBB;simp[h]
theorem soundI_need{f:BFunc}{I O:BB}(hO:Fl f O){b v:Nat}{x:Block}(hx:f.blocks[b]?=some x)(hn:need v x.ins (C2 x v||O b v)=true):Db f v b:=by
 rw[<-inB_iff,aP hx];refine Bp (fun e=>?_) hn;unfold endB;rw[Bool.or_eq_true]at e |-;rcases e with e | e
 . exact .inl e
 . obtain⟨y,hy,h⟩:=hO b v e;rw[hx]at hy;cases hy;exact .inr h
theorem MF{f:BFunc}{I O:BB}(hI:F9 f I)(hO:Fl f O){b v:Nat}{x:Block}{d:Int}(hx:f.blocks[b]?=some x)(hd:d∈x.nexts):Fl f (putBB O b v (O b v||I d.toNat v)):=by
 intro b' v' h;unfold putBB at h;split at h
 . rename_i e;obtain⟨rfl,rfl⟩:=e;rw[Bool.or_eq_true]at h;rcases h with h | h
   . exact hO _ _ h
   . exact⟨x,hx,outB_iff.2 ⟨d,hd,hI _ _ h⟩⟩
 . exact hO _ _ h
theorem Uc{f:BFunc}{I:BB}(hI:F9 f I){b v:Nat}(h:Db f v b):F9 f (putBB I b v true):=by
 intro b' v' h';unfold putBB at h';split at h'
 . rename_i e;obtain⟨rfl,rfl⟩:=e;exact h
 . exact hI _ _ h'
theorem P7{f:BFunc}(hs:f.sane){I O:BB}(hI:F9 f I)(hO:Fl f O)(hc: ∀b,b<f.blocks.length->Ga f f.regs.toNat I O b){b v:Nat}(hb:b<f.blocks.length)(hv:v<f.regs.toNat):I b v=UM f v b:=by
 rw[Bool.eq_iff_iff,inB_iff];refine⟨hI b v,fun h=>?_⟩;refine Nz (I:=fun b=>I b v) (fun c x hx hn=>?_) h;have hcl:=hc c (List.getElem?_eq_some_iff.1 hx).1 x hx v hv;refine hcl.2 (Bp (fun e=>?_) hn);rw[Bool.or_eq_true]at e |-;rcases e with e | e
 . exact .inl e
 . obtain⟨d,h1,h2⟩:=List.any_eq_true.1 e;exact .inr (hcl.1 d h1 h2)
theorem U4{f:BFunc}(hs:f.sane){I O:BB}(hI:F9 f I)(hO:Fl f O)(hc: ∀b,b<f.blocks.length->Ga f f.regs.toNat I O b){b v:Nat}{x:Block}(hx:f.blocks[b]?=some x)(hv:v<f.regs.toNat):O b v=outB f x v:=by
 have hb:=(List.getElem?_eq_some_iff.1 hx).1;rw[Bool.eq_iff_iff,outB_iff];constructor
 . intro h;obtain⟨y,hy,h'⟩:=hO b v h;rw[hx]at hy;cases hy;exact outB_iff.1 h'
 . rintro⟨d,h1,h2⟩
   have hd:=hs.next x (List.mem_of_getElem? hx) d h1;have:=P7 hs hI hO hc (b:=d.toNat) (v:=v) (by omega) hv;exact(hc b hb x hx v hv).1 d h1 (by rw[this];exact inB_iff.2 h2)
theorem Vv{h:Ab}{b n:Nat}{p:Bool}{sz:Nat}{es:List (List AV)}(hb:h b=some (.row p sz es))(hn:n=es.length):SrcOf h (.ref b n 0 n) [b] es:=by
 subst hn;have:=SrcOf.ref b es.length 0 es.length p sz es hb rfl;rwa[List.drop_zero,List.take_length]at this
theorem putBB_row(I:BB)(b v:Nat)(z:Bool):putBB I b v z b=fun u=>if u=v then z else I b u:=by
 funext u;unfold putBB;simp
theorem ZP{I:BB}{b b':Nat}(v:Nat)(z:Bool)(h:b'≠b):putBB I b v z b'=I b':=by
 funext u;unfold putBB;simp[h]
theorem Ml(φ:Nat->Nat)(m:List Nat):A3 φ [] m:=fun _ h=>by cases h
theorem AB{φ:Nat->Nat}{b:Nat}{m:List Nat}(h:φ b∈m):A3 φ [b] m:=fun c hc=>by rw[List.mem_singleton]at hc;subst hc;exact h
theorem Mk{φ:Nat->Nat}{b c:Nat}{m:List Nat}(h:φ b∈m)(h':φ c∈m):A3 φ [b,c] m:=fun d hd=>by
 simp only[List.mem_cons,List.not_mem_nil,or_false]at hd;rcases hd with rfl | rfl
 . exact h
 . exact h'
theorem Zq{H:Ax}{ι:Ba}{v:Value}(h:Rel H ι .nil v):Rel H ι (.lst true []) v:=by
 rw[h.nil_inv];exact .lst0 _ _ none 0 (fun _=>rfl) (Nat.zero_le _) (fun _=>rfl) trivial
theorem Fy(x:Block):x.nexts.length<=2:=by
 grind[Block.nexts]
def b2n(b:Bool):Nat:=bif b then 1 else 0
structure RG where
  I:BB
  O:BB
  more:Bool
structure qm(f:BFunc)(R:Nat)(g:RG):Prop where
  si:F9 f g.I
  so:Fl f g.O
  cl:g.more=false->∀b,b<f.blocks.length->Ga f R g.I g.O b
def qh(f:BFunc)(R:Nat)(g:RG):Nat:=D7 f.blocks.length R g.I+b2n g.more
structure MInv(f:BFunc)(R B:Nat)(g:RG)(k:Nat):Prop where
  si:F9 f g.I
  so:Fl f g.O
  kn:k<=f.blocks.length
  cl:g.more=false->∀b,k<=b->b<f.blocks.length->Ga f R g.I g.O b
  bud:D7 f.blocks.length R g.I+b2n g.more<=B
theorem MInv.last{f:BFunc}{R:Nat}{g g':RG}(hm:g.more=true)(h:MInv f R (D7 f.blocks.length R g.I) g' 0):qm f R g'/\qh f R g'<qh f R g:=by
 refine⟨⟨h.si,h.so,fun e b hb=>h.cl e b (Nat.zero_le _) hb⟩,?_⟩;have:=h.bud;unfold qh;rw[hm];show _<_+1;omega
structure OInv(f:BFunc)(R:Nat)(I O0:BB)(b:Nat)(x:Block)(O:BB)(j v:Nat):Prop where
  so:Fl f O
  ne: ∀b',b'≠b->O b'=O0 b'
  js: ∀j',j'<j->∀d,x.nexts[j']?=some d->∀u,u<R->I d.toNat u=true->O b u=true
  vs: ∀d,x.nexts[j]?=some d->∀u,u<v->I d.toNat u=true->O b u=true
theorem OInv.step{f:BFunc}{R:Nat}{I O0:BB}{b:Nat}{x:Block}{O:BB}{j v:Nat}(hI:F9 f I)(hx:f.blocks[b]?=some x){d:Int}(hd:x.nexts[j]?=some d)(h:OInv f R I O0 b x O j v):OInv f R I O0 b x (putBB O b v (O b v||I d.toNat v)) j (v+1):=by
 have hmono: ∀u,O b u=true->putBB O b v (O b v||I d.toNat v) b u=true:=fun u hu=>by
  rw[putBB_row]
  grind
 refine⟨MF hI h.so hx (List.mem_of_getElem? hd),fun b' hb=>by rw[ZP _ _ hb];exact h.ne b' hb,fun j' hj d' hd' u hu hi=>hmono u (h.js j' hj d' hd' u hu hi),fun d' hd' u hu hi=>?_⟩;rw[hd]at hd';cases hd'
 by_cases e:u=v
 . subst e;rw[putBB_row];show(if u=u then _ else _)=true;rw[if_pos rfl,hi,Bool.or_true]
 . exact hmono u (h.vs d hd u (by omega) hi)
theorem OInv.next{f:BFunc}{R:Nat}{I O0:BB}{b:Nat}{x:Block}{O:BB}{j v:Nat}(h:OInv f R I O0 b x O j v)(hv:R<=v):OInv f R I O0 b x O (j+1) 0:=by
 refine⟨h.so,h.ne,fun j' hj d hd u hu hi=>?_,fun _ _ _ hu=>absurd hu (by omega)⟩
 by_cases e:j'=j
 . subst e;exact h.vs d hd u (by omega) hi
 . exact h.js j' (by omega) d hd u hu hi
structure AInv(f:BFunc)(R B:Nat)(g:RG)(b:Nat)(p:Nat->Bool)(I:BB)(more:Bool)(v:Nat):Prop where
  si:F9 f I
  ms:more=false->g.more=false/\I=g.I
  bud:D7 f.blocks.length R I+b2n more<=B
  us: ∀u,u<v->p u=true->I b u=true
theorem AInv.put{f:BFunc}{R B:Nat}{g:RG}{b:Nat}{p:Nat->Bool}{I:BB}{more:Bool}{v:Nat}(h:AInv f R B g b p I more v)(hp:(p v&& !I b v)=true)(hb:b<f.blocks.length)(hv:v<R)(hl:p v=true->Db f v b):AInv f R B g b p (putBB I b v true) true (v+1):=by
 simp only[Bool.and_eq_true,Bool.not_eq_true']at hp;have hf:=UW (I:=I) hb hv hp.2;refine⟨Uc h.si (hl hp.1),(fun e=>by cases e),?_,fun u hu e=>?_⟩
 . have:=h.bud;show _+1<=B;omega
 . rw[putBB_row];show(if u=v then _ else _)=true
   by_cases eu:u=v
   . rw[if_pos eu]
   . rw[if_neg eu];exact h.us u (by omega) e
theorem MInv.next{f:BFunc}{R B:Nat}{g:RG}{b:Nat}{x:Block}{O I:BB}{more:Bool}{j v v':Nat}(h:MInv f R B g (b+1))(hx:f.blocks[b]?=some x)(hO:OInv f R g.I g.O b x O j v)(hj:x.nexts.length<=j)
 (hA:AInv f R B g b (fun v=>need v x.ins (C2 x v||O b v)) I more v') (hv:R<=v'):MInv f R B ⟨I,O,more⟩ b:=by
 refine⟨hA.si,hO.so,by have:=h.kn;omega,fun e b' h1 h2=>?_,hA.bud⟩;obtain⟨m1,m2⟩:=hA.ms e;show Ga f R I O b'
 by_cases eb:b'=b
 . subst eb;intro y hy u hu;rw[hx]at hy;cases hy;refine⟨fun d hd hi=>?_,fun hn=>hA.us u (by omega) hn⟩;obtain⟨j',hj'⟩:=List.getElem?_of_mem hd;have:=(List.getElem?_eq_some_iff.1 hj').1;exact hO.js j' (by omega) d hj' u hu (m2▸hi)
 . have:=h.cl m1 b' (by omega) h2;intro y hy u hu;have hh:=this y hy u hu;rw[hO.ne b' eb,m2];exact hh
theorem Ghost.endCell{n:Nat}{e:As}{h:Ab}(b0 j b:Nat){sz0 sz:Nat}{cs:List AV}{es:List (List AV)}(hb0:h b0=some (.row false sz0 [cs]))(hj:cs[j]?=some (D1 b es))(hb:h b=some (Hw sz es))(hne:b0≠b):
 Ghost ⟨n,e,h⟩ ⟨n,e,hput (hrm h b) b0 (.row false sz0 [cs.set j (.lst false es)])⟩:=by
 cases hes:es.isEmpty with
 | false=>
  have e1:D1 b es= .ref b es.length 0 es.length:=by simp[D1,hes,Q0]
  have e2:Hw sz es= .row true sz es:=by simp[Hw,hes,K4]
  rw[e1]at hj;rw[e2]at hb;have:=Ghost.freezeCell (n:=n) (e:=e) b0 0 j b hb0 rfl hj hb rfl hne;rwa[List.drop_zero,List.take_length]at this
 | true=>
  have e0:es=[]:=List.isEmpty_iff.1 hes;subst e0;have hj':cs[j]?=some (.lst true []):=hj;refine(Cu b0 (es':=[cs.set j (.lst false [])]) hb0 rfl ?_).trans (.of_sub ⟨rfl,fun _ _ h=>h,fun c x hx=>?_⟩)
  . intro i ds ds' h1 h2
    cases i with
    | zero=>
     simp only[List.getElem?_cons_zero,Option.some.injEq]at h1 h2;subst h1;subst h2;refine⟨by simp,fun k x y hx hy=>?_⟩;rw[List.getElem?_set]at hy
     by_cases hk:j=k
     . subst hk;rw[hj']at hx;cases hx;have hlt:=(List.getElem?_eq_some_iff.1 hj').1;rw[if_pos rfl,if_pos hlt]at hy;cases hy;exact⟨fun _=>rfl,fun H ι v h=>rel_unex h⟩
     . rw[if_neg hk,hx]at hy;cases hy;exact⟨fun h=>h,fun _ _ _ h=>h⟩
    | succ i=>simp at h1
  . have h1:hput (hrm h b) b0 (.row false sz0 [cs.set j (.lst false [])]) c=some x:=hx;show hput h b0 _ c=some x
    by_cases hc:c=b0
    . subst hc;rw[Ap]at h1 |-;exact h1
    . rw[AF _ _ hc]at h1 |-
      by_cases hcb:c=b
      . subst hcb;have:hrm h c c=some x:=h1;unfold hrm at this;rw[show Nat.beq c c=true from Nat.beq_refl c]at this
        cases this
      . rwa[EL _ hcb]at h1
theorem cut_sane{f g:BFunc}(h:YG f g)(hs:f.sane):g.sane:=by
 obtain⟨c,x,l1,t,l2,v,h⟩:=h;have hxm:=List.mem_of_getElem? h.hx;have hlen:g.blocks.length=f.blocks.length:=by rw[h.hg,JX]
 have hreg:g.regs=f.regs:=by rw[h.hg];rfl
 have key: ∀y∈g.blocks,y∈f.blocks\/y=x.mid (l1++l2):=fun y hy=>by
  rw[h.hg]at hy;exact List.mem_or_eq_of_mem_set hy
 refine⟨by rw[hreg];exact hs.regs,fun y hy u hu=>?_,fun y hy=>?_,fun y hy d hd=>?_⟩
 . rw[hreg];rcases key y hy with hy | rfl
   . exact hs.low y hy u hu
   . refine hs.low x hxm u ?_;exact ga
 . rw[hreg];rcases key y hy with hy | rfl
   . exact hs.fin y hy
   . exact hs.fin x hxm
 . rw[hlen];rcases key y hy with hy | rfl
   . exact hs.next y hy d hd
   . exact hs.next x hxm d hd
theorem Yh{f g:BFunc}(h:Cuts f g)(hs:f.sane):g.sane:=by
 induction h with
 | refl=>exact hs
 | step a _ ih=>exact ih (cut_sane a hs)
def Ie(p:Nat->Bool):Nat->Nat
  | 0=>0
  | n+1=>Ie p n+(if p n then 2^n else 0)
theorem Rf(p:Nat->Bool): ∀n,Ie p n<2^n
 | 0=>by simp[Ie]
 | n+1=>by
  have ih:=Rf p n
  grind[Ie]
theorem Ic(p:Nat->Bool): ∀n i,(Ie p n).testBit i=(decide (i<n)&&p i)
 | 0,i=>by simp[Ie]
 | n+1,i=>by
  have ih:=Ic p n i;have hlt:=Rf p n;unfold Ie
  by_cases hp:p n=true
  . rw[if_pos hp,Nat.add_comm]
    by_cases h1:i<n
    . rw[Nat.testBit_two_pow_add_gt h1,ih];simp[h1];omega
    . by_cases h2:i=n
      . subst h2;rw[Nat.testBit_two_pow_add_eq,ih];simp[hp]
      . have h3:2^n+Ie p n<2^i:=by
         have:2^(n+1)<=2^i:=Nat.pow_le_pow_right (by omega) (by omega);rw[Nat.pow_succ]at this;omega
        rw[Nat.testBit_lt_two_pow h3];have: ¬i<n+1:=by omega
        simp[this]
  . rw[if_neg hp,Nat.add_zero,ih]
    by_cases h2:i=n
    . subst h2;simp[hp]
    . by_cases h1:i<n
      . have:i<n+1:=by omega
        simp[h1,this]
      . have: ¬i<n+1:=by omega
        simp[h1,this]
theorem Kk{p:Nat->Bool}{n x:Nat}(h: ∀i,x.testBit i=(decide (i<n)&&p i)):x=Ie p n:=Nat.eq_of_testBit_eq fun i=>by rw[h,Ic]
theorem F1{p q:Nat->Bool}{n:Nat}(h: ∀i,i<n->p i=q i):Ie p n=Ie q n:=Kk fun i=>by
 grind[Ic,Ie]
theorem bq{p q:Nat->Bool}{n:Nat}(h:Ie p n=Ie q n): ∀i,i<n->p i=q i:=fun i hi=>by
 have:=congrArg (fun x=>x.testBit i) h
 grind[Ic,Ie]
theorem JH{x:Nat}(h:x<18446744073709551616):IntKind.u64.wrap (x:Int)=(x:Int):=WG h
theorem GO(w x:Nat):BitVec.ofInt w (x:Int)=BitVec.ofNat w x:=by
 grind
def wd(p:Nat->Bool):Nat:=Ie p 64
theorem RL(p:Nat->Bool):wd p<18446744073709551616:=Rf p 64
theorem Qj(p:Nat->Bool)(i:Nat):(wd p).testBit i=(decide (i<64)&&p i):=Ic p 64 i
theorem YQ(p:Nat->Bool):wd p%2^64=wd p:=Nat.mod_eq_of_lt (RL p)
theorem YO(p q:Nat->Bool):AX .or (.int .u64 (wd p:Int)) (.int .u64 (wd q:Int))=some (.int .u64 (wd (fun v=>p v||q v):Int)):=by
 have e:(BitVec.ofInt 64 (wd p:Int)|||BitVec.ofInt 64 (wd q:Int)).toNat=wd (fun v=>p v||q v):=by
  rw[GO,GO,BitVec.toNat_or,BitVec.toNat_ofNat,BitVec.toNat_ofNat,YQ,YQ];refine Kk fun i=>?_
  grind[Qj,AX,wd]
 show some (AV.int .u64 (IntKind.u64.wrap ((BitVec.ofInt 64 (wd p:Int)|||BitVec.ofInt 64 (wd q:Int)).toNat:Int)))=_;rw[e,JH (RL _)]
theorem OX(p q:Nat->Bool):AX .andNot (.int .u64 (wd p:Int)) (.int .u64 (wd q:Int))=some (.int .u64 (wd (fun v=>p v&& !q v):Int)):=by
 have e:(BitVec.ofInt 64 (wd p:Int)&&& ~~~BitVec.ofInt 64 (wd q:Int)).toNat=wd (fun v=>p v&& !q v):=by
  refine Kk fun i=>?_
  rw[GO,GO];rw[<-BitVec.getLsbD.eq_1,BitVec.getLsbD_and,BitVec.getLsbD_not,BitVec.getLsbD_ofNat,BitVec.getLsbD_ofNat,Qj,Qj]
  cases decide (i<64)<;>simp
 show some (AV.int .u64 (IntKind.u64.wrap ((BitVec.ofInt 64 (wd p:Int)&&& ~~~BitVec.ofInt 64 (wd q:Int)).toNat:Int)))=_;rw[e,JH (RL _)]
theorem YP{i:Nat}(h:i<64):AX .shl (.int .u64 1) (.int .i64 (i:Int))=some (.int .u64 (wd (fun v=>v==i):Int)):=by
 have e:(2:Nat)^i=wd (fun v=>v==i):=Kk fun k=>by
  grind
 have hl:(2:Nat)^i<18446744073709551616:=by rw[e];exact RL _
 have h1:min ((i:Int).toNat) IntKind.u64.bits=i:=by rw[Int.toNat_natCast];show min i 64=i;omega
 have h2:AX .shl (.int .u64 1) (.int .i64 (i:Int))=some (.int .u64 (IntKind.u64.wrap (1*2^(min ((i:Int).toNat) IntKind.u64.bits)))):=by
  have hn: ¬((i:Int)<0):=by omega
  simp[AX,isShift,BL,hn]
 rw[h2,h1,Int.one_mul,show((2:Int)^i)=(((2:Nat)^i:Nat):Int) by simp,JH hl,e]
theorem gC{p:Nat->Bool}{i:Nat}(h:i<64):AX .shr (.int .u64 (wd p:Int)) (.int .i64 (i:Int))=some (.int .u64 ((wd p/2^i:Nat):Int)):=by
 have h1:min ((i:Int).toNat) IntKind.u64.bits=i:=by rw[Int.toNat_natCast];show min i 64=i;omega
 grind[AX,wd,isShift,BL]
theorem cO(p:Nat->Bool){i:Nat}(h:i<64):AX .and (.int .u64 ((wd p/2^i:Nat):Int)) (.int .u64 1)=some (.int .u64 ((b2n (p i):Nat):Int)):=by
 have hb:=Qj p i;have e:(BitVec.ofInt 64 ((wd p/2^i:Nat):Int)&&&BitVec.ofInt 64 (1:Int)).toNat=b2n (p i):=by
  have e1:BitVec.ofInt 64 (1:Int)=BitVec.ofNat 64 1:=by decide
  rw[GO,e1,BitVec.toNat_and,BitVec.toNat_ofNat,BitVec.toNat_ofNat];have hl:wd p/2^i<2^64:=Nat.lt_of_le_of_lt (Nat.div_le_self _ _) (RL p);rw[Nat.mod_eq_of_lt hl,show 1%2^64=1 from rfl,Nat.and_one_is_mod];rw[Nat.testBit_eq_decide_div_mod_eq]at hb;simp only[h,decide_true,Bool.true_and]at hb
  cases hp:p i with
  | true=>rw[hp]at hb;simp at hb;simp[b2n,hb]
  | false=>rw[hp]at hb;simp at hb;simp[b2n];omega
 show some (AV.int .u64 (IntKind.u64.wrap ((BitVec.ofInt 64 ((wd p/2^i:Nat):Int)&&&BitVec.ofInt 64 (1:Int)).toNat:Int)))=_
 grind[JH,b2n,AX,wd]
theorem gD(b:Bool):AX .eql (.int .u64 ((b2n b:Nat):Int)) (.int .u64 1)=some (.bool b):=by cases b<;>rfl
def nw(R:Nat):Nat:=(R+63)/64
def Bt(p:Nat->Bool)(j:Nat):List AV:=[AV.int .u64 ((wd (fun v=>p (64*j+v)):Nat):Int)]
def Bk(R:Nat)(p:Nat->Bool):List (List AV):=(List.range (nw R)).map (Bt p)
theorem Bd(R:Nat)(p:Nat->Bool):(Bk R p).length=nw R:=by simp[Bk]
theorem Cc{R:Nat}{p:Nat->Bool}{j:Nat}(h:j<nw R):(Bk R p)[j]?=some (Bt p j):=by simp[Bk,h]
theorem SH{R i:Nat}(h:i<R):i/64<nw R:=by unfold nw;omega
theorem DO{p q:Nat->Bool}{j:Nat}(h: ∀v,v<64->p (64*j+v)=q (64*j+v)):Bt p j=Bt q j:=by
 grind[Bt,wd,F1]
theorem Dz{R:Nat}{p q:Nat->Bool}(h: ∀v,p v=q v):Bk R p=Bk R q:=List.map_congr_left fun j _=>DO fun v _=>h _
theorem W8(R:Nat):List.replicate (nw R) [AV.int .u64 0]=Bk R (fun _=>false):=by
 have e: ∀j,Bt (fun _=>false) j=[AV.int .u64 0]:=fun j=>by
  unfold Bt wd;have:Ie (fun _=>false) 64=0:=(Kk (p:=fun _=>false) (n:=64) (x:=0) (fun i=>by simp)).symm;rw[this];rfl
 refine List.ext_getElem? fun i=>?_
 grind[nw,Cc,List.length_replicate,Bd,Bk]
theorem JO{R:Nat}{p q:Nat->Bool}{j:Nat}(h1: ∀v,v/64≠j->q v=p v):(Bk R p).set j (Bt q j)=Bk R q:=by
 refine List.ext_getElem? fun i=>?_
 grind[nw,Cc,Bd,DO,Bk,Bt]
theorem bV{i v:Nat}(hv:v<64):(64*(i/64)+v==i)=(v==i%64):=by
 grind
theorem T3(p:Nat->Bool)(i:Nat):Bt (fun v=>p v||v==i) (i/64)=[AV.int .u64 ((wd (fun v=>p (64*(i/64)+v)||v==i%64):Nat):Int)]:=by
 grind[Bt,wd,F1,bV]
theorem WN(p:Nat->Bool)(i:Nat):Bt (fun v=>p v&& !(v==i)) (i/64)=[AV.int .u64 ((wd (fun v=>p (64*(i/64)+v)&& !(v==i%64)):Nat):Int)]:=by
 grind[Bt,wd,F1,bV]
theorem VM{i:Nat}(h:i<=1000000000):AX .quo (.int .i64 (i:Int)) (.int .i64 64)=some (.int .i64 ((i/64:Nat):Int)):=bs (b:=64) (by decide) (OW (by omega))
theorem Zp{i:Nat}:AX .rem (.int .i64 (i:Int)) (.int .i64 64)=some (.int .i64 ((i%64:Nat):Int)):=br (b:=64) (by decide)
def CD(v:Nat)(l:List Tac):Bool:=l.any fun t=>t.sets==(v:Int)
theorem Nq(v:Nat)(z:Bool): ∀l,need v l z=(need v l false||(z&& !CD v l))
 | []=>by simp[need,CD]
 | t::r=>by
  have ih:=Nq v z r
  grind[need,CD]
def I8(x:Block)(v:Nat):Bool:=need v x.ins (C2 x v)
theorem UE(x:Block)(v:Nat)(o:Bool):need v x.ins (C2 x v||o)=(I8 x v||(o&& !CD v x.ins)):=by
 grind[I8,Nq,C2,need,CD]
def VG(t:Tac)(p:Nat->Bool):Nat->Bool:=fun v=>p v&& !(t.sets==(v:Int))
def Gr(us:List Int)(p:Nat->Bool):Nat->Bool:=fun v=>us.contains (v:Int)||p v
def LV(t:Tac)(q:Nat->Bool):Nat->Bool:=fun v=>q v||t.sets==(v:Int)
def tR(x:Block)(pre:List Nat):Nat->Bool:=pre.foldl (fun p k=>match x.ins[k]? with
  | some t=>Gr t.uses (VG t p)
  | none=>p) (C2 x)
def tS(x:Block)(pre:List Nat):Nat->Bool:=pre.foldl (fun p k=>match x.ins[k]? with
  | some t=>LV t p
  | none=>p) (fun _=>false)
theorem c8{x:Block}{pre:List Nat}{k:Nat}{t:Tac}(h:x.ins[k]?=some t):tR x (pre++[k])=Gr t.uses (VG t (tR x pre)):=by
 grind[tR,Gr,VG]
theorem cZ{x:Block}{pre:List Nat}{k:Nat}{t:Tac}(h:x.ins[k]?=some t):tS x (pre++[k])=LV t (tS x pre):=by
 grind[tS,LV]
theorem O3(k:Nat):(List.range (k+1)).reverse=k::(List.range k).reverse:=by
 rw[List.range_succ,List.reverse_append];rfl
theorem fJ(x:Block)(v:Nat): ∀(m:Nat) (p:Nat->Bool),m<=x.ins.length->((List.range m).reverse.foldl (fun p k=>match x.ins[k]? with
 | some t=>Gr t.uses (VG t p)
 | none=>p) p) v=need v (x.ins.take m) (p v)
 | 0,p,_=>by simp[need]
 | m+1,p,h=>by
  obtain⟨t,ht⟩:=Ae (l:=x.ins) (k:=m) (by omega);rw[O3,List.foldl_cons,fJ x v m _ (by omega),ht];have e:x.ins.take (m+1)=x.ins.take m++[t]:=by
   rw[List.take_add_one,ht];rfl
  rw[e,HY];congr 1;unfold Gr VG;simp[need,Bool.and_comm]
theorem fI(x:Block)(v:Nat): ∀(m:Nat) (p:Nat->Bool),m<=x.ins.length->((List.range m).reverse.foldl (fun p k=>match x.ins[k]? with
 | some t=>LV t p
 | none=>p) p) v=(p v||CD v (x.ins.take m))
 | 0,p,_=>by simp[CD]
 | m+1,p,h=>by
  obtain⟨t,ht⟩:=Ae (l:=x.ins) (k:=m) (by omega);rw[O3,List.foldl_cons,fI x v m _ (by omega),ht];have e:x.ins.take (m+1)=x.ins.take m++[t]:=by
   rw[List.take_add_one,ht];rfl
  rw[e];unfold LV CD;rw[List.any_append];simp only[List.any_cons,List.any_nil,Bool.or_false]
  cases p v<;>cases t.sets==(v:Int)<;>cases (List.any (List.take m x.ins) fun t=>t.sets==(v:Int))<;>rfl
theorem gV(x:Block)(v:Nat):tR x (List.range x.ins.length).reverse v=I8 x v:=by
 have:=fJ x v x.ins.length (C2 x) (Nat.le_refl _);rw[List.take_length]at this;exact this
theorem tS_all(x:Block)(v:Nat):tS x (List.range x.ins.length).reverse v=CD v x.ins:=by
 have:=fI x v x.ins.length (fun _=>false) (Nat.le_refl _);rw[List.take_length]at this;exact this.trans (by simp)
def Ef(R:Nat)(p:Nat->Bool):AObj:=.row true 1 (Bk R p)
theorem CL{R:Nat}{p q:Nat->Bool}(h: ∀v,p v=q v):some (Ef R p)=some (Ef R q):=congrArg (fun es=>some (AObj.row true 1 es)) (Dz h)
theorem Lj{d:Int}(h:0<=d)(v:Nat):(v==d.toNat)=(d==(v:Int)):=by
 grind
theorem di{t:Tac}{p:Nat->Bool}(h:0<=t.sets)(v:Nat):(p v&& !(v==t.sets.toNat))=VG t p v:=by unfold VG;rw[Lj h]
theorem Zd{t:Tac}{p:Nat->Bool}(h:0<=t.sets)(v:Nat):(p v||v==t.sets.toNat)=LV t p v:=by unfold LV;rw[Lj h]
theorem dj{t:Tac}{p:Nat->Bool}(h: ¬0<=t.sets)(v:Nat):p v=VG t p v:=by
 grind[VG]
theorem Ze{t:Tac}{p:Nat->Bool}(h: ¬0<=t.sets)(v:Nat):p v=LV t p v:=by
 grind[LV]
theorem Yy{p:Nat->Bool}(v:Nat):p v=Gr [] p v:=by simp[Gr]
theorem Vb{us:List Int}{k:Nat}{u:Int}{p:Nat->Bool}(h:us[k]?=some u)(hu:0<=u)(v:Nat):(Gr (us.take k) p v||v==u.toNat)=Gr (us.take (k+1)) p v:=by
 unfold Gr;have e:us.take (k+1)=us.take k++[u]:=by rw[List.take_add_one,h];rfl
 grind
theorem bo{x:Block}(h:x.fin=2)(h0:0<=x.v)(v:Nat):(false||v==x.v.toNat)=C2 x v:=by
 grind[Lj,C2]
theorem eO{x:Block}(h: ¬x.fin=2)(v:Nat):false=C2 x v:=by
 simp[C2,h]
def Aw(g:Nat->AV)(n:Nat):List (List AV):=(List.range n).map fun b=>[g b]
theorem An(g:Nat->AV)(n:Nat):(Aw g n).length=n:=by simp[Aw]
theorem BK{g:Nat->AV}{n b:Nat}(h:b<n):(Aw g n)[b]?=some [g b]:=by simp[Aw,h]
theorem IX(g:Nat->AV)(n:Nat):Aw g (n+1)=Aw g n++[[g n]]:=by
 unfold Aw;rw[List.range_succ,List.map_append];rfl
theorem CM{g g':Nat->AV}{n:Nat}(h: ∀b,b<n->g b=g' b):Aw g n=Aw g' n:=List.map_congr_left fun b hb=>by rw[h b (List.mem_range.1 hb)]
theorem GY{g:Nat->AV}{n b:Nat}(x:AV):(Aw g n).set b [x]=Aw (fun c=>if c=b then x else g c) n:=by
 refine List.ext_getElem? fun i=>?_
 grind[BK,An,Aw]
theorem TD{g:Nat->AV}{n:Nat}{cs:List AV}(h:cs∈Aw g n): ∃b,b<n/\cs=[g b]:=by
 grind[Aw]
theorem GZ(x:AV)(n:Nat):List.replicate n [x]=Aw (fun _=>x) n:=by
 refine List.ext_getElem? fun i=>?_
 grind[BK,List.length_replicate,An,Aw]
theorem Ad{k:Nat->Bool}{p:Bool}{sz:Nat}{g:Nat->AV}{n:Nat}(h: ∀b,b<n->(g b).avoid k=true):(AObj.row p sz (Aw g n)).avoid k=true:=by
 cases p with
 | true=>rfl
 | false=>
  show(Aw g n).all (fun cs=>cs.all (AV.avoid k))=true;refine List.all_eq_true.2 fun cs hc=>?_
  obtain⟨b,hb,rfl⟩:=TD hc;simp[h b hb]
theorem Iv{k:Nat->Bool}{sz:Nat}{g:Nat->AV}{n:Nat}(h: ∀b,b<n->(g b).avoid k=true):(Ox sz (Aw g n)).avoid k=true:=by
 unfold Ox
 cases (Aw g n).isEmpty with
 | true=>rfl
 | false=>exact Ad h
theorem Vw(sz:Nat)(g:Nat->AV)(n:Nat):Ox sz (Aw g (n+1))= .row false sz (Aw g n++[[g n]]):=by
 rw[IX];simp[Ox,L1]
theorem Vy{t:Nat}{g:Nat->AV}{n:Nat}(h:0<n):D1 t (Aw g n)= .ref t n 0 n:=by
 grind[MG,Aw,An,D1]
theorem R4{sz:Nat}{g:Nat->AV}{n:Nat}(h:0<n):Ox sz (Aw g n)= .row false sz (Aw g n):=by
 obtain⟨m,rfl⟩: ∃m,n=m+1:=⟨n-1,by omega⟩
 rw[Vw,IX]
def rG(q m:Nat):Nat->AV:=fun b=>.ref (3*b+q+16) m 0 m
theorem CE(k0 q m b:Nat):(rG q m b).avoid (kf k0)=true:=by
 simp[rG,AV.avoid,AV.flat,SZ]
def F3(r0 r1 r2:Nat->AObj):Nat->AObj:=fun x=>if x%3=0 then r0 (x/3)else if x%3=1 then r1 (x/3)else r2 (x/3)
theorem n0(r0 r1 r2:Nat->AObj)(b:Nat):F3 r0 r1 r2 (3*b+0)=r0 b:=by
 grind[F3]
theorem nZ(r0 r1 r2:Nat->AObj)(b:Nat):F3 r0 r1 r2 (3*b+1)=r1 b:=by
 grind[F3]
theorem qp(r0 r1 r2:Nat->AObj)(b:Nat):F3 r0 r1 r2 (3*b+2)=r2 b:=by
 grind[F3]
def Jg(r:Nat->AObj)(b:Nat)(o:AObj):Nat->AObj:=fun c=>if c=b then o else r c
theorem fR(r0 r1 r2:Nat->AObj)(b:Nat)(o:AObj)(x:Nat):F3 (Jg r0 b o) r1 r2 x=if x=3*b+0 then o else F3 r0 r1 r2 x:=by
 grind[F3,Jg]
theorem fQ(r0 r1 r2:Nat->AObj)(b:Nat)(o:AObj)(x:Nat):F3 r0 (Jg r1 b o) r2 x=if x=3*b+1 then o else F3 r0 r1 r2 x:=by
 grind[F3,Jg]
theorem nY(r0 r1 r2:Nat->AObj)(b:Nat)(o:AObj)(x:Nat):F3 r0 r1 (Jg r2 b o) x=if x=3*b+2 then o else F3 r0 r1 r2 x:=by
 grind[F3,Jg]
theorem B1{k:Nat->Bool}{r0 r1 r2:Nat->AObj}(h0: ∀b,(r0 b).avoid k=true)(h1: ∀b,(r1 b).avoid k=true)(h2: ∀b,(r2 b).avoid k=true)(x:Nat):(F3 r0 r1 r2 x).avoid k=true:=by
 grind[F3]
def Da(b:Nat):Nat:=if b<16 then b else 16+(b-16)%3
theorem bO(i:Nat):Da (3*i+0+16)=16:=by unfold Da;rw[if_neg (by omega)];omega
theorem bN(i:Nat):Da (3*i+1+16)=17:=by unfold Da;rw[if_neg (by omega)];omega
theorem bM(i:Nat):Da (3*i+2+16)=18:=by unfold Da;rw[if_neg (by omega)];omega
def Cy(k:Nat)(o:Nat->AObj):Nat->AObj:=fun b=>if b<k then o b else .free
theorem Ea{k b:Nat}{o:Nat->AObj}(h:b<k):Cy k o b=o b:=by unfold Cy;rw[if_pos h]
theorem Jk{k b:Nat}{o:Nat->AObj}(h:k<=b):Cy k o b= .free:=by unfold Cy;rw[if_neg (by omega)]
theorem HR(k:Nat)(o:Nat->AObj):Cy (k+1) o=Jg (Cy k o) k (o k):=funext fun b=>by
 grind[Cy,Jg]
theorem FM{k:Nat}{o o':Nat->AObj}{b:Nat}(h:b<k)(ho: ∀c,c≠b->o' c=o c):Cy k o'=Jg (Cy k o) b (o' b):=funext fun c=>by
 grind[Cy,Jg]
theorem Ej{k:Nat->Bool}{m:Nat}{o:Nat->AObj}(h: ∀b,(o b).avoid k=true)(b:Nat):(Cy m o b).avoid k=true:=by
 unfold Cy;split
 . exact h b
 . rfl
end Go.Proofs.YtbbfelelocccmaaGreat.Sv
