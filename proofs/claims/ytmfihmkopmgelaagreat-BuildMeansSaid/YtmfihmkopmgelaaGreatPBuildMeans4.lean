/-
  STATEMENTS DO WHAT THEY MEAN: own work.
-/
import Derived.Test.YtmfihmkopmgelaaGreatPBuildMeans3
set_option linter.unusedVariables false
set_option linter.unusedSimpArgs false
set_option maxRecDepth 100000
set_option maxHeartbeats 2000000
namespace Go.Proofs.YtmfihmkopmgelaaGreat.Sv
open Go
def Hd(c:Core)(w:Bool)(G:List Block)(a:BS):Prop:=if w=true then InsAt G a (AY 0 0)/\InsAt G (nx a) (AL c.words 0)/\BD G (nx (nx a)) 3 0 0 0 else BD G a 3 0 0 0
mutual
def CS.code(c:Core)(w:Bool)(G:List Block):CS->BS->BS->Prop
  | .mk k s z es thn els,a,b=>
    if k=1 then ∃a1,CE.codeL c G es 0 a a1/\InsAt G a1 (AL s 0)/\b=nx a1
    else if k=2 then ∃a1,CE.codeL c G es 0 a a1/\InsAt G a1 (BN 0 1 s z)/\b=nx a1
    else if k=3 then ∃a1,CE.codeL c G es 0 a a1/\InsAt G a1 (J8 0)/\b=nx a1
    else if k=6 then ∃a1,CE.codeL c G es 0 a a1/\JP G a1 (c.first s) s es.length 0 b
    else if k=7 then(if es=[]then Hd c w G a else ∃a1,CE.codeL c G es 0 a a1/\InsAt G a1 (AL c.words 0)/\BD G (nx a1) 3 0 0 0)
    else if k=4 then ∃(a1:BS) (t h o:Nat) (a2 a3:BS),CE.codeL c G es 0 a a1/\BD G a1 2 0 t o/\CS.codeL c w G thn (t,0) a2/\BD G a2 1 0 h 0/\(if els=[]then o=h else CS.codeL c w G els (o,0) a3/\BD G a3 1 0 h 0)/\b=(h,0)
    else if k=5 then ∃(g t h:Nat) (a1 a2:BS),BD G a 1 0 g 0/\CE.codeL c G es 0 (g,0) a1/\BD G a1 2 0 t h/\CS.codeL c w G thn (t,0) a2/\BD G a2 1 0 g 0/\b=(h,0)
    else False
def CS.codeL(c:Core)(w:Bool)(G:List Block):List CS->BS->BS->Prop
  | [],a,b=>b=a
  |s::l,a,b=>∃a1,s.code c w G a a1/\CS.codeL c w G l a1 b
end
mutual
def CS.ok(C:Core)(n:Nat)(w:Bool):CS->Prop
  | .mk k s z es thn els=>CE.okL C n es/\CS.okL C n w thn/\CS.okL C n w els/\
    ((k=1/\es.length=1/\0<=s/\s<C.words)\/(k=2/\es.length=2/\1<=z/\z<=4096/\0<=s/\s+z<=C.words)\/(k=3/\es.length=1)\/(k=4/\es.length=1)\/(k=5/\es.length=1)\/
     (k=6/\0<=s/\s<n/\∃g,C.funcs[s.toNat]?=some g/\g.word=false/\g.params=es.length/\es.length<=6)\/(k=7/\(es=[]\/(es.length=1/\w=true))))
def CS.okL(C:Core)(n:Nat)(w:Bool):List CS->Prop
  | []=>True
  |s::l=>s.ok C n w/\CS.okL C n w l
end
structure StOk(X:Cx)(w:Bool)(k:Nat)(a b:BS)(regs:List Int)(c:CM)(m:Mach)(p:CM):Prop where
  le:c.m.steps<=p.m.steps
  go:p.fin=0->p.over=false->∃regs' m',Goes X.cl X.s X.F a regs m b regs' m'/\RelM X.W X.M p.m m'/\regs'.length=regs.length/\m'.steps+X.K*c.m.steps<=m.steps+k+X.K*p.m.steps
  ret:p.fin=0->p.over=true->CW p.val/\∃m',F8 X.cl X.s X.F a regs m m'/\RelM X.W X.M p.m m'/\(w=true->Ak m'.words X.C.words=p.val)/\m'.steps+X.K*c.m.steps<=m.steps+k+X.K*p.m.steps
  stop:p.fin≠0->p.fin≠5->∃m',F8 X.cl X.s X.F a regs m m'/\m'.fin=p.fin/\m'.out=p.m.out/\m'.steps+X.K*c.m.steps<=m.steps+k+X.K*p.m.steps
def Yw(X:Cx)(w:Bool)(fuel:Int)(st:CS):Prop:=∀(a b:BS) (regs:List Int) (c:CM) (m:Mach),st.code X.C w X.F.blocks a b->st.ok X.C X.n w->8*st.parts<=X.K->(regs.length:Int)=X.F.regs->c.over=false->RelM X.W X.M c.m m->StOk X w (8*st.parts) a b regs c m (st.run X.call X.s fuel c)
section
variable {X : Cx} {w : Bool} {fuel : Int}
theorem StOk.pre{n1 n2 n:Nat}{a a1 b:BS}{regs r1:List Int}{c c1 p:CM}{m m1:Mach}(h:StOk X w n2 a1 b r1 c1 m1 p)(hg:Goes X.cl X.s X.F a regs m a1 r1 m1)(hl:r1.length=regs.length)(hle:c.m.steps<=c1.m.steps)
 (hk:m1.steps+X.K*c.m.steps<=m.steps+n1+X.K*c1.m.steps) (hn:n1+n2<=n):StOk X w n a b regs c m p:=by
 refine⟨Nat.le_trans hle h.le,fun h0 h1=>?_,fun h0 h1=>?_,fun h0 h5=>?_⟩
 . obtain⟨r',m',g1,g2,g3,g4⟩:=h.go h0 h1;exact⟨r',m',hg.trans g1,g2,g3.trans hl,by omega⟩
 . obtain⟨v,m',g1,g2,g3,g4⟩:=h.ret h0 h1;exact⟨v,m',hg.stops g1,g2,g3,by omega⟩
 . obtain⟨m',g1,g2,g3,g4⟩:=h.stop h0 h5;exact⟨m',hg.stops g1,g2,g3,by omega⟩
theorem StOk.ended{k n d:Nat}{a a1 b:BS}{regs:List Int}{c:CM}{m:Mach}{p:Int×CM}(h:EvOk X k d a a1 regs c m p)(hf:p.2.fin≠0)(hn:k<=n):StOk X w n a b regs c m p.2:=by
 refine⟨h.le,fun h0=>absurd h0 hf,fun h0=>absurd h0 hf,fun h0 h5=>?_⟩;obtain⟨m',g1,g2,g3,g4⟩:=h.stop h0 h5;exact⟨m',g1,g2,g3,by omega⟩
theorem StOk.ins{k:Nat}{a b:BS}{regs:List Int}{c p:CM}{m m':Mach}{t:Tac}(ht:InsAt X.F.blocks a t)(hm:∀call,A7 call X.s t regs {m with steps:=m.steps+1}=(regs,m'))(hs:m'.steps=m.steps+1)(hst:p.m.steps=c.m.steps)(hr:RelM X.W X.M p.m m')(ho:p.over=false)(hk:1<=k)(hb:b=nx a):StOk X w k a b regs c m p:=by
 refine⟨by omega,fun _ _=>⟨regs,m',?_,hr,rfl,by rw[hst];omega⟩,fun _ h=>(by rw[ho]at h;cases h),fun h _=>absurd (show p.fin=0 from hr.cfin) h⟩;rw[hb];exact BX ht hm hr.fin hs
theorem StOk.fail{k:Nat}{a b:BS}{regs r':List Int}{c p:CM}{m m':Mach}{t:Tac}(ht:InsAt X.F.blocks a t)(hm:∀call,A7 call X.s t regs {m with steps:=m.steps+1}=(r',m'))(hf:m'.fin=p.fin)(h0:p.fin≠0)(hs:m'.steps=m.steps+1)(ho:m'.out=p.m.out)(hst:p.m.steps=c.m.steps)(hk:1<=k):StOk X w k a b regs c m p:=
 ⟨by omega,fun h=>absurd h h0,fun h=>absurd h h0,fun _ _=>⟨m',ND ht hm (by rw[hf];exact h0) hs,hf,ho,by rw[hst];omega⟩⟩
theorem KL(hX:Hn X){a:BS}{regs:List Int}{c:CM}{m:Mach}(h:Hd X.C w X.F.blocks a)(hl:(regs.length:Int)=X.F.regs)(hr:RelM X.W X.M c.m m)(hw:w=true->X.W<X.M):
 ∃m',F8 X.cl X.s X.F a regs m m'/\RelM X.W X.M c.m m'/\(w=true->Ak m'.words X.C.words=0)/\m'.steps<=m.steps+3:=by
 unfold Hd at h
 cases w with
 |false=>
  rw[if_neg Ab]at h;exact⟨_,JR h,hr.step c.m.steps _,fun e=>by(cases e),by dsimp only;omega⟩
 |true=>
  rw[if_pos rfl]at h;obtain⟨h1,h2,h3⟩:=h;have hd:=(h1.reg hX rfl).2;have hM:=hw rfl;have hWw:=hX.w;have hdl:0<regs.length:=by have:((0:Nat):Int)<X.F.regs:=hd;omega
  have g1:=BX (C:=X.cl) (s:=X.s) (f:=X.F) (regs:=regs) (m:=m) (r':=rset regs ((0:Nat):Int) 0) (m':={m with steps:=m.steps+1}) h1 (fun _=>rfl) hr.fin rfl;have hm2:∀call,A7 call X.s (AL X.C.words 0) (rset regs ((0:Nat):Int) 0) {m with steps:=m.steps+2}=(rset regs ((0:Nat):Int) 0,{m with words:=rset m.words X.C.words 0,steps:=m.steps+2}):=fun _=>by
   rw[GW,Cv hdl]
  have g2:=BX (C:=X.cl) (s:=X.s) (f:=X.F) (m:={m with steps:=m.steps+1}) h2 hm2 hr.fin rfl;have hlen:=hr.len;refine⟨_,(g1.trans g2).stops (JR h3),⟨hr.clen,by show(m.words.set X.C.words.toNat 0).length=_;rw[List.length_set];exact hlen,fun j hj=>?_,hr.ok,hr.out,hr.read,hr.fin,hr.cfin⟩,fun _=>?_,by dsimp only;omega⟩
  . show(m.words.set X.C.words.toNat 0)[j]?=_;rw[List.getElem?_set_ne Aa];exact hr.w j hj
  . show Ak (m.words.set X.C.words.toNat 0) X.C.words=0;unfold Ak;rw[List.getElem?_set_self Aa];rfl
theorem RY(hX:Hn X){a:BS}{regs:List Int}{c:CM}{m:Mach}(h1:InsAt X.F.blocks a (AL X.C.words 0))(h2:BD X.F.blocks (nx a) 3 0 0 0)(hr:RelM X.W X.M c.m m)(hM:X.W<X.M):
 ∃m',F8 X.cl X.s X.F a regs m m'/\RelM X.W X.M c.m m'/\Ak m'.words X.C.words=Ak regs 0/\m'.steps<=m.steps+2:=by
 have hWw:=hX.w;have hlen:=hr.len;have g2:=BX (C:=X.cl) (s:=X.s) (f:=X.F) (regs:=regs) (r':=regs) (m:=m) (m':={m with words:=rset m.words X.C.words (Ak regs 0),steps:=m.steps+1}) h1 (fun _=>rfl) hr.fin rfl;refine⟨_,g2.stops (JR h2),⟨hr.clen,by show(m.words.set X.C.words.toNat _).length=_;rw[List.length_set];exact hlen,fun j hj=>?_,hr.ok,hr.out,hr.read,hr.fin,hr.cfin⟩,?_,by dsimp only;omega⟩
 . show(m.words.set X.C.words.toNat _)[j]?=_;rw[List.getElem?_set_ne Aa];exact hr.w j hj
 . show Ak (m.words.set X.C.words.toNat _) X.C.words=_;unfold Ak;rw[List.getElem?_set_self Aa];rfl
theorem jo(hX:Hn X){es:CE}{thn:List CS}{g t h:Nat}{a1 a2:BS}(hI:VV X es)(hb:∀(a b:BS) (regs:List Int) (c:CM) (m:Mach),CS.codeL X.C w X.F.blocks thn a b->(regs.length:Int)=X.F.regs->c.over=false->RelM X.W X.M c.m m->StOk X w (8*CS.partsL thn) a b regs c m (CS.runL X.call X.s fuel thn c))
 (hok:es.ok X.C X.n) (c1:es.code X.C X.F.blocks 0 (g,0) a1) (c2:BD X.F.blocks a1 2 0 t h) (c3:CS.codeL X.C w X.F.blocks thn (t,0) a2) (c4:BD X.F.blocks a2 1 0 g 0) (hK:8*(es.parts+CS.partsL thn)+2<=X.K):
 ∀(gas:Nat) (regs:List Int) (c:CM) (m:Mach),(regs.length:Int)=X.F.regs->c.over=false->RelM X.W X.M c.m m->StOk X w 0 (g,0) (h,0) regs c m (De fuel (es.ev X.call X.s) (CS.runL X.call X.s fuel thn) gas c)
 |0,regs,c,m,hl,ho,hr=>by
  rw[De];exact⟨Nat.le_refl _,fun h0=>(by cases h0),fun h0=>(by cases h0),fun _ h5=>absurd rfl h5⟩
 |gas+1,regs,c,m,hl,ho,hr=>by
  rw[De];rw[show c.fin=0 from hr.cfin,ho];simp only[show((0:Int)==0)=true from rfl,Bool.not_false,Bool.and_self,cond_true];unfold BH;unfold AI
  cases ht:decide ((c.m.steps:Int)>=fuel)with
  |true=>
   simp only[cond_true,cond_false];exact⟨Nat.le_refl _,fun h0=>(by cases h0),fun h0=>(by cases h0),fun _ h5=>absurd rfl h5⟩
  |false=>
   simp only[cond_true,cond_false];have hr1:RelM X.W X.M (c.put {c.m with steps:=c.m.steps+1}).m m:=hr.step _ m.steps;have k1:=hI 0 (g,0) a1 regs (c.put {c.m with steps:=c.m.steps+1}) m c1 hok hl ho hr1;have hmul:X.K*(c.m.steps+1)=X.K*c.m.steps+X.K:=Nat.mul_succ _ _;have hs1:(c.put {c.m with steps:=c.m.steps+1}).m.steps=c.m.steps+1:=rfl;generalize es.ev X.call X.s (c.put {c.m with steps:=c.m.steps+1})=p at k1|-;generalize c.put {c.m with steps:=c.m.steps+1}=c' at k1 hr1 hs1;obtain⟨x,d1⟩:=p;have le1:=k1.le;dsimp only at le1|-;rw[<-hs1]at hmul;have hle:c.m.steps<=c'.m.steps:=by omega
   cases f1:d1.fin==0 with
   |false=>
    simp only[Bool.false_and,cond_false];have hne:d1.fin≠0:=by simpa using f1
    have:=StOk.ended (w:=w) (b:=(h,0)) k1 hne (Nat.le_refl _);refine⟨by omega,fun h0=>absurd h0 hne,fun h0=>absurd h0 hne,fun h0 h5=>?_⟩;obtain⟨m',g1,g2,g3,g4⟩:=this.stop h0 h5;exact⟨m',g1,g2,g3,by dsimp only at g4;omega⟩
   |true=>
    obtain⟨ov,v1,r1,m1,g1,g2,g3,g4,g5,g6⟩:=k1.go D9;dsimp only at ov v1 g2 g4 g6;have gf:=Ib (C:=X.cl) (s:=X.s) (f:=X.F) (regs:=r1) (m:=m1) (v:=0) c2;rw[g4]at gf
    by_cases hx:x=0
    . subst hx;rw[if_pos rfl]at gf;simp only[show((0:Int)==0)=true from rfl,Bool.not_true,Bool.and_false,cond_false];refine⟨by omega,fun _ _=>⟨r1,_,g1.trans gf,g2.step d1.m.steps _,g3,by dsimp only;omega⟩,fun _ h1=>(by rw[ov]at h1;cases h1),fun h0=>absurd D9 h0⟩
    . rw[if_neg hx]at gf;rw[show(x==0)=false by simpa using hx];simp only[Bool.not_false,Bool.and_true,cond_true];have k2:=hb (t,0) a2 r1 d1 {m1 with steps:=m1.steps+1} c3 Is ov (g2.step d1.m.steps _);generalize CS.runL X.call X.s fuel thn d1=d2 at k2|-;have le2:=k2.le
      by_cases h2:d2.fin=0/\d2.over=false
      . obtain⟨r2,m2,j1,j2,j3,j4⟩:=k2.go h2.1 h2.2;dsimp only at j4;have ih:=jo hX hI hb hok c1 c2 c3 c4 hK gas r2 d2 {m2 with steps:=m2.steps+1} (by rw[j3,g3];exact hl) h2.2 (j2.step d2.m.steps _);exact StOk.pre (n1:=0) ih (((g1.trans gf).trans j1).trans (GB c4)) (j3.trans g3) Aa Lm Aa
      . have e:De fuel (es.ev X.call X.s) (CS.runL X.call X.s fuel thn) gas d2=d2\/(De fuel (es.ev X.call X.s) (CS.runL X.call X.s fuel thn) gas d2).fin=5/\d2.m.steps<=(De fuel (es.ev X.call X.s) (CS.runL X.call X.s fuel thn) gas d2).m.steps:=by
         cases gas with
         |zero=>rw[De];exact .inr ⟨rfl,Nat.le_refl _⟩
         |succ gas=>
          left;rw[De];have:(d2.fin==0&& !d2.over)=false:=by
           cases ho2:d2.over with
           |true=>simp
           |false=>
            have:d2.fin≠0:=fun e=>h2 ⟨e,ho2⟩
            simp[this]
          rw[this];rfl
        rcases e with e|⟨e,e2⟩
        . rw[e];refine⟨by omega,fun h0 h1=>absurd ⟨h0,h1⟩ h2,fun h0 h1=>?_,fun h0 h5=>?_⟩
          . obtain⟨v,m2,j1,j2,j3,j4⟩:=k2.ret h0 h1;exact⟨v,m2,(g1.trans gf).stops j1,j2,j3,by dsimp only at j4;omega⟩
          . obtain⟨m2,j1,j2,j3,j4⟩:=k2.stop h0 h5;exact⟨m2,(g1.trans gf).stops j1,j2,j3,by dsimp only at j4;omega⟩
        . exact⟨by omega,fun h0=>(by rw[e]at h0;cases h0),fun h0=>(by rw[e]at h0;cases h0),fun _ h5=>absurd e h5⟩
end
section
variable {X : Cx} {w : Bool} {fuel : Int}
theorem UL{call:Cr}{s:ByteArray}{l:List CS}{c:CM}(h:¬(c.fin=0/\c.over=false)):CS.runL call s fuel l c=c:=by
 cases l with
 |nil=>rw[CS.runL]
 |cons st l=>
  rw[CS.runL];have:(c.fin==0&& !c.over)=false:=by
   cases ho:c.over with
   |true=>simp
   |false=>
    have:c.fin≠0:=fun e=>h ⟨e,ho⟩
    simp[this]
  rw[this];rfl
theorem StOk.over_or{k n:Nat}{a b b':BS}{regs:List Int}{c p:CM}{m:Mach}(h:StOk X w k a b regs c m p)(hn:¬(p.fin=0/\p.over=false))(hk:k<=n):StOk X w n a b' regs c m p:=by
 refine⟨h.le,fun h0 h1=>absurd ⟨h0,h1⟩ hn,fun h0 h1=>?_,fun h0 h5=>?_⟩
 . obtain⟨v,m',g1,g2,g3,g4⟩:=h.ret h0 h1;exact⟨v,m',g1,g2,g3,by omega⟩
 . obtain⟨m',g1,g2,g3,g4⟩:=h.stop h0 h5;exact⟨m',g1,g2,g3,by omega⟩
theorem Qc:∀(l:List CS),(∀st∈l,Yw X w fuel st)->∀(a b:BS) (regs:List Int) (c:CM) (m:Mach),CS.codeL X.C w X.F.blocks l a b->CS.okL X.C X.n w l->8*CS.partsL l<=X.K->(regs.length:Int)=X.F.regs->c.over=false->RelM X.W X.M c.m m->StOk X w (8*CS.partsL l) a b regs c m (CS.runL X.call X.s fuel l c)
 | [],_,a,b,regs,c,m,hc,_,_,_,ho,hr=>by
  rw[CS.codeL]at hc;subst hc;rw[CS.runL];exact⟨Nat.le_refl _,fun _ _=>⟨regs,m,Goes.refl _ _ _,hr,rfl,by omega⟩,fun _ h=>(by rw[ho]at h;cases h),fun h=>absurd (show c.fin=0 from hr.cfin) h⟩
 |st::l,hI,a,b,regs,c,m,hc,hok,hK,hl,ho,hr=>by
  rw[CS.codeL]at hc;obtain⟨a1,h1,h2⟩:=hc;rw[CS.okL]at hok;rw[CS.partsL]at hK|-;have k1:=hI st (List.mem_cons.2 (.inl rfl)) a a1 regs c m h1 hok.1 Aa hl ho hr;rw[CS.runL,show c.fin=0 from hr.cfin,ho];simp only[show((0:Int)==0)=true from rfl,Bool.not_false,Bool.and_self,cond_true];generalize st.run X.call X.s fuel c=p at k1|-
  by_cases hp:p.fin=0/\p.over=false
  . obtain⟨r1,m1,g1,g2,g3,g4⟩:=k1.go hp.1 hp.2;exact StOk.pre (n1:=8*st.parts) (Qc l (fun st hs=>hI st (List.mem_cons.2 (.inr hs))) a1 b r1 p m1 h2 hok.2 Aa Is hp.2 g2) g1 g3 k1.le g4 Aa
  . rw[UL hp];exact k1.over_or hp Aa
theorem CD{st:CS}:∀{l:List CS},st∈l->st.parts<=CS.partsL l
 |x::l,h=>by
  rw[CS.partsL];rcases List.mem_cons.1 h with rfl|h
  . omega
  . have:=CD h;omega
theorem Fk{C:Core}{G:List Block}{e:CE}{d:Nat}{a b:BS}(h:CE.codeL C G [e] d a b):e.code C G d a b:=by
 rw[CE.codeL]at h;obtain⟨a1,h1,h2⟩:=h;rw[CE.codeL]at h2;subst h2;exact h1
theorem Vq{C:Core}{G:List Block}{e f:CE}{d:Nat}{a b:BS}(h:CE.codeL C G [e,f] d a b):∃a1,e.code C G d a a1/\f.code C G (d+1) a1 b:=by
 rw[CE.codeL]at h;obtain⟨a1,h1,h2⟩:=h;exact⟨a1,h1,Fk h2⟩
theorem Zb(hX:Hn X)(hM:w=true->X.W<X.M):∀(n:Nat) (st:CS),st.parts<=n->Yw X w fuel st
 |0,st,h=>by cases st;rw[CS.parts]at h;omega
 |n+1,st,hn=>by
  cases st with
  |mk k s z es thn els=>
  rw[CS.parts]at hn;have hE:∀e∈es,VV X e:=fun e _=>jq hX e.parts e (Nat.le_refl _)
  have hT:∀s∈thn,Yw X w fuel s:=fun s hs=>Zb hX hM n s Us
  have hL:∀s∈els,Yw X w fuel s:=fun s hs=>Zb hX hM n s Us
  intro a b regs c m hc hok hK hl ho hr;rw[CS.code]at hc;rw[CS.ok]at hok;rw[CS.parts]at hK|-;obtain⟨hes,hthn,hels,hk⟩:=hok;rw[CS.run];have hW:=hX.w;rcases hk with⟨rfl,h1,s0,s1⟩|⟨rfl,h2,z1,z2,s0,s1⟩|⟨rfl,h1⟩|⟨rfl,h1⟩|⟨rfl,h1⟩|⟨rfl,s0,s1,fn,hfn,hwd,hpar,h6⟩|⟨rfl,h1⟩
  . obtain⟨e,rfl⟩:=Dd h1;rw[if_pos rfl]at hc;rw[if_neg Ab,if_neg Ab];obtain⟨a1,c1,c2,rfl⟩:=hc;simp only[CE.okL]at hes;have k1:=hE e At 0 a a1 regs c m (Fk c1) hes.1 hl ho hr;rw[Cu];simp only[CE.partsL,Nat.add_zero];simp only[CE.partsL,Nat.add_zero]at hK;generalize e.ev X.call X.s c=p at k1|-;obtain⟨x,d1⟩:=p;dsimp only
    cases f1:d1.fin==0 with
    |false=>exact StOk.ended k1 D9 Aa
    |true=>
     rw[cond_true];rw[if_neg Ab,if_pos trivial];obtain⟨ov,v1,r1,m1,g1,g2,g3,g4,g5,g6⟩:=k1.go D9;dsimp only at ov v1 g2 g4 g6;refine StOk.pre (n1:=8*e.parts) (n2:=8) ?_ g1 g3 k1.le g6 Aa;exact StOk.ins (m':={m1 with words:=rset m1.words s x,steps:=m1.steps+1}) c2 (fun _=>by rw[GW,g4]) rfl rfl (g2.put s0 Aa v1 d1.m.steps _) ov Aa rfl
  . obtain⟨e1,e2,rfl⟩:=FY h2;rw[if_neg Ab,if_pos rfl]at hc;rw[if_neg Ab,if_neg Ab];obtain⟨a2,c1,c2,rfl⟩:=hc;obtain⟨a1,c1,c1'⟩:=Vq c1;simp only[CE.okL]at hes;have k1:=hE e1 At 0 a a1 regs c m c1 hes.1 hl ho hr;rw[Cu];simp only[CE.partsL,Nat.add_zero];simp only[CE.partsL,Nat.add_zero]at hK;generalize e1.ev X.call X.s c=p at k1|-;obtain⟨x,d1⟩:=p;dsimp only
    cases f1:d1.fin==0 with
    |false=>exact StOk.ended k1 D9 Aa
    |true=>
     rw[cond_true];rw[if_neg Ab,if_neg Ab,if_pos trivial];obtain⟨ov,v1,r1,m1,g1,g2,g3,g4,g5,g6⟩:=k1.go D9;dsimp only at ov v1 g2 g4 g6;refine StOk.pre (n1:=8*e1.parts) (n2:=8*e2.parts+8) ?_ g1 g3 k1.le g6 Aa;have k2:=hE e2 At 1 a1 a2 r1 d1 m1 c1' hes.2.1 Is ov g2;rw[List.drop_succ_cons,List.drop_zero,Cu];generalize e2.ev X.call X.s d1=q at k2|-;obtain⟨y,d2⟩:=q;dsimp only
     cases f2:d2.fin==0 with
     |false=>exact StOk.ended k2 (by simpa using f2) Aa
     |true=>
      simp only[cond_true];obtain⟨ov2,v2,r2,m2,j1,j2,j3,j4,j5,j6⟩:=k2.go (by simpa using f2);dsimp only at ov2 v2 j2 j4 j6;have hx0:Ak r2 ((0:Nat):Int)=x:=(j5 0 Aa).trans g4;refine StOk.pre (n1:=8*e2.parts) (n2:=8) ?_ j1 j3 k2.le j6 Aa
      by_cases hx:x>=z
      . rw[decide_eq_true hx,cond_true];have hmm:∀call,A7 call X.s (BN 0 1 s z) r2 {m2 with steps:=m2.steps+1}=(r2,{m2 with steps:=m2.steps+1,fin:=3}):=fun _=>by rw[HG,hx0,decide_eq_true hx];rfl
        exact StOk.fail c2 hmm rfl YS rfl j2.out rfl Aa
      . rw[decide_eq_false hx,cond_false];have hmm:∀call,A7 call X.s (BN 0 1 s z) r2 {m2 with steps:=m2.steps+1}=(r2,{m2 with words:=rset m2.words (s+x) y,steps:=m2.steps+1}):=fun _=>by rw[HG,hx0,j4,decide_eq_false hx];rfl
        exact StOk.ins c2 hmm rfl rfl (j2.put (by have:=v1.1;omega) Aa v2 d2.m.steps _) ov2 Aa rfl
  . obtain⟨e,rfl⟩:=Dd h1;rw[if_neg Ab,if_neg Ab,if_pos rfl]at hc;rw[if_neg Ab,if_neg Ab];obtain⟨a1,c1,c2,rfl⟩:=hc;simp only[CE.okL]at hes;have k1:=hE e At 0 a a1 regs c m (Fk c1) hes.1 hl ho hr;rw[Cu];simp only[CE.partsL,Nat.add_zero];simp only[CE.partsL,Nat.add_zero]at hK;generalize e.ev X.call X.s c=p at k1|-;obtain⟨x,d1⟩:=p;dsimp only
    cases f1:d1.fin==0 with
    |false=>exact StOk.ended k1 D9 Aa
    |true=>
     rw[cond_true];rw[if_neg Ab,if_neg Ab,if_neg Ab,if_pos trivial];obtain⟨ov,v1,r1,m1,g1,g2,g3,g4,g5,g6⟩:=k1.go D9;dsimp only at ov v1 g2 g4 g6;refine StOk.pre (n1:=8*e.parts) (n2:=8) ?_ g1 g3 k1.le g6 Aa;have hout:=g2.out
     by_cases hx:d1.m.out.length>=65536
     . rw[decide_eq_true hx,cond_true];have hmm:∀call,A7 call X.s (J8 0) r1 {m1 with steps:=m1.steps+1}=(r1,{m1 with steps:=m1.steps+1,fin:=4}):=fun _=>by
        rw[QQ];dsimp only;rw[hout,decide_eq_true hx];rfl
       exact StOk.fail c2 hmm rfl (by show(4:Int)≠0;decide) rfl hout rfl Aa
     . rw[decide_eq_false hx,cond_false];have hmm:∀call,A7 call X.s (J8 0) r1 {m1 with steps:=m1.steps+1}=(r1,{m1 with out:=d1.m.out++[Ef x],steps:=m1.steps+1}):=fun _=>by
        rw[QQ];dsimp only;rw[hout,decide_eq_false hx,g4];rfl
       exact StOk.ins c2 hmm rfl rfl ⟨g2.clen,g2.len,g2.w,g2.ok,rfl,g2.read,g2.fin,g2.cfin⟩ ov Aa rfl
  . obtain⟨e,rfl⟩:=Dd h1;rw[if_neg Ab,if_neg Ab,if_neg Ab,if_neg Ab,if_neg Ab,if_pos rfl]at hc;rw[if_neg Ab,if_neg Ab];obtain⟨a1,t,h,o,a2,a3,c1,c2,c3,c4,c5,rfl⟩:=hc;simp only[CE.okL]at hes;have k1:=hE e At 0 a a1 regs c m (Fk c1) hes.1 hl ho hr;rw[Cu];simp only[CE.partsL,Nat.add_zero];simp only[CE.partsL,Nat.add_zero]at hK;generalize e.ev X.call X.s c=p at k1|-;obtain⟨x,d1⟩:=p;dsimp only
    cases f1:d1.fin==0 with
    |false=>exact StOk.ended k1 D9 Aa
    |true=>
     rw[cond_true];rw[if_neg Ab,if_neg Ab,if_neg Ab,if_neg Ab];obtain⟨ov,v1,r1,m1,g1,g2,g3,g4,g5,g6⟩:=k1.go D9;dsimp only at ov v1 g2 g4 g6;have gf:=Ib (C:=X.cl) (s:=X.s) (f:=X.F) (regs:=r1) (m:=m1) (v:=0) c2;rw[g4]at gf;have side:∀(l:List CS) (i:Nat) (j:BS),(∀s∈l,Yw X w fuel s)->CS.codeL X.C w X.F.blocks l (i,0) j->CS.okL X.C X.n w l->8*CS.partsL l<=X.K->BD X.F.blocks j 1 0 h 0->StOk X w (8*CS.partsL l+1) (i,0) (h,0) r1 d1 {m1 with steps:=m1.steps+1} (CS.runL X.call X.s fuel l d1):=fun l i j hI hcl hokl hKl hj=>by
      have k2:=Qc l hI (i,0) j r1 d1 {m1 with steps:=m1.steps+1} hcl hokl hKl Is ov (g2.step d1.m.steps _);generalize CS.runL X.call X.s fuel l d1=p at k2|-
      by_cases hp:p.fin=0/\p.over=false
      . obtain⟨r2,m2,j1,j2,j3,j4⟩:=k2.go hp.1 hp.2;exact⟨k2.le,fun _ _=>⟨r2,_,j1.trans (GB hj),j2.step p.m.steps _,j3,by dsimp only at j4|-;omega⟩,fun _ h1=>(by rw[hp.2]at h1;cases h1),fun h0=>absurd hp.1 h0⟩
      . exact k2.over_or hp Aa
     by_cases hx:x=0
     . subst hx;rw[if_pos rfl]at gf;simp only[show((0:Int)==0)=true from rfl,cond_true]
       by_cases hel:els=[]
       . rw[if_pos hel]at c5;subst c5;subst hel;rw[CS.runL];exact⟨k1.le,fun _ _=>⟨r1,_,g1.trans gf,g2.step d1.m.steps _,g3,by dsimp only;omega⟩,fun _ h1=>(by rw[ov]at h1;cases h1),fun h0=>absurd D9 h0⟩
       . rw[if_neg hel]at c5;exact StOk.pre (n1:=8*e.parts+1) (side els o a3 hL c5.1 hels Aa c5.2) (g1.trans gf) g3 k1.le Lm Aa
     . rw[if_neg hx]at gf;rw[show(x==0)=false by simpa using hx];simp only[cond_false];exact StOk.pre (n1:=8*e.parts+1) (side thn t a2 hT c3 hthn Aa c4) (g1.trans gf) g3 k1.le Lm Aa
  . obtain⟨e,rfl⟩:=Dd h1;rw[if_neg Ab,if_neg Ab,if_neg Ab,if_neg Ab,if_neg Ab,if_neg Ab,if_pos rfl]at hc;rw[if_neg Ab,if_pos rfl];obtain⟨g,t,h,a1,a2,c1,c2,c3,c4,c5,rfl⟩:=hc;simp only[CE.okL]at hes;simp only[CE.partsL,Nat.add_zero];simp only[CE.partsL,Nat.add_zero]at hK;have e1:Cu X.call X.s [e]=e.ev X.call X.s:=funext fun c=>by rw[Cu]
    rw[e1];have g0:=GB (C:=X.cl) (s:=X.s) (f:=X.F) (regs:=regs) (m:=m) c1;have k1:=jo (fuel:=fuel) hX (hE e At) (fun a b regs c m h1 h2 h3 h4=>Qc thn hT a b regs c m h1 hthn Aa h2 h3 h4) hes.1 (Fk c2) c3 c4 c5 Aa (fuel.toNat+1) regs c {m with steps:=m.steps+1} hl ho (hr.step c.m.steps _);exact StOk.pre (n1:=1) k1 g0 rfl (Nat.le_refl _) Lm Aa
  . rw[if_neg Ab,if_neg Ab,if_neg Ab,if_pos rfl]at hc;rw[if_pos rfl];obtain⟨a1,c1,c2⟩:=hc;have k1:=dz es hE 0 a a1 regs c m c1 hes hl ho hr;rw[Kn _ _ _ hr.cfin,List.nil_append];generalize CE.evL X.call X.s es c=q at k1|-;obtain⟨xs,c1'⟩:=q;have le1:=k1.le;dsimp only at le1|-
    cases e1:c1'.fin==0 with
    |false=>
     simp only[cond_false];have hne:c1'.fin≠0:=by simpa using e1
     refine⟨le1,fun h=>absurd h hne,fun h=>absurd h hne,fun h h5=>?_⟩;exact aV
    |true=>
     simp only[cond_true];obtain⟨ov,n1,v1,r1,m1,g1,g2,g3,g4,g5,g6⟩:=k1.go (by simpa using e1);dsimp only at ov n1 v1 g2 g4 g6;rw[<-n1]at c2;have k2:=jr hX s0 s1 hfn (by rw[n1];exact hpar.symm) v1 ov g2 c2 (Q0 g4);have le2:=k2.le;generalize X.call s xs c1'=p at k2 le2|-;obtain⟨x,c2'⟩:=p;dsimp only at le2|-;refine⟨by omega,fun h _=>?_,fun h h1=>?_,fun h h5=>?_⟩
     . obtain⟨o2,v2,m2,f1,f2,f3,f4⟩:=k2.go h;dsimp only at o2 v2 f2 f3 f4;exact⟨r1,m2,g1.trans f1,f2,g3,by omega⟩
     . obtain⟨o2,_⟩:=k2.go h;dsimp only at o2;rw[o2]at h1;cases h1
     . obtain⟨m2,f1,f2,f3,f4⟩:=k2.stop h h5;dsimp only at f4;exact⟨m2,g1.stops f1,f2,f3,by omega⟩
  . rw[if_neg Ab,if_neg Ab,if_neg Ab,if_neg Ab,if_pos rfl]at hc;rw[if_neg Ab,if_neg Ab]
    by_cases he:es=[]
    . subst he;rw[if_pos rfl]at hc;rw[Cu];dsimp only;rw[show c.fin=0 from hr.cfin];rw[show((0:Int)==0)=true from rfl,cond_true,if_pos rfl];obtain⟨m',g1,g2,g3,g4⟩:=KL hX hc hl hr hM;exact⟨Nat.le_refl _,fun _ h=>(by cases h),fun _ _=>⟨⟨by dsimp only;omega,by dsimp only;omega⟩,m',g1,g2,g3,by dsimp only;omega⟩,fun h=>absurd (show c.fin=0 from hr.cfin) h⟩
    . rw[if_neg he]at hc;obtain⟨h1,hw⟩:=h1.resolve_left he;obtain⟨e,rfl⟩:=Dd h1;obtain⟨a1,c1,c2,c3⟩:=hc;simp only[CE.okL]at hes;have k1:=hE e At 0 a a1 regs c m (Fk c1) hes.1 hl ho hr;rw[Cu];simp only[CE.partsL,Nat.add_zero];simp only[CE.partsL,Nat.add_zero]at hK;generalize e.ev X.call X.s c=p at k1|-;obtain⟨x,d1⟩:=p;dsimp only
      cases f1:d1.fin==0 with
      |false=>exact StOk.ended k1 D9 Aa
      |true=>
       rw[cond_true];rw[if_pos trivial];obtain⟨ov,v1,r1,m1,g1,g2,g3,g4,g5,g6⟩:=k1.go D9;dsimp only at ov v1 g2 g4 g6;obtain⟨m',j1,j2,j3,j4⟩:=RY (regs:=r1) hX c2 c3 g2 (hM hw);have le1:=k1.le;exact⟨le1,fun _ h=>(by cases h),fun _ _=>⟨v1,m',g1.stops j1,j2,fun _=>j3.trans g4,by dsimp only;omega⟩,fun h=>absurd (show d1.fin=0 by simpa using f1) h⟩
end
def Bd.zeros(b:Bd)(a:Int):Nat->Bd
  |0=>b
  |n+1=>(b.zeros a n).put (AL (a+n) 0)
def Bd.astores(b:Bd)(a:Int)(z:Int):Nat->Bd
  |0=>b
  |n+1=>(b.astores a z n).put (BN 1 0 (a+n) z)
def Bd.chunk1(b:Bd)(n:Nat):Bd:=((b.put (AY 1 0)).put (AY 2 8)).put (AY 3 n)
def Bd.chunk2(b:Bd):Bd:=(b.opened.jump b.blocks.length).go b.blocks.length
def Bd.chunk3(b:Bd)(l:Nat):Bd:=(b.opened.fork 4 l b.blocks.length).go b.blocks.length
def Bd.chunk(b:Bd)(a:Int)(n:Nat):Bd:=((((b.chunk1 n).chunk2.astores a (n-7) 8).put (AP 4 1 1 2)).put (AP 14 4 1 3)).chunk3 (b.chunk1 n).blocks.length
def chunkN(n:Nat):Nat:=min n 4096/8*8
def Bm:Nat->Bd->Int->Nat->Bd
  |0,b,_,_=>b
  |g+1,b,a,n=>if 64<n then Bm g (b.chunk a (chunkN n)) (a+chunkN n) (n-chunkN n)else b.zeros a n
def Bd.nought(b:Bd)(a:Int)(n:Nat):Bd:=if n=0 then b else Bm n (b.put (AY 0 0)) a n
def Uf(G:List Block)(a:BS)(first:Int)(n:Nat)(b:BS):Prop:=(∀i,i<n->InsAt G (a.1,a.2+i) (AL (first+i) 0))/\b=(a.1,a.2+n)
def PF(G:List Block)(a:BS)(first:Int)(n:Nat)(b:BS):Prop:=InsAt G a (AY 1 0)/\InsAt G (nx a) (AY 2 8)/\InsAt G (nx (nx a)) (AY 3 n)/\∃l h:Nat,BD G (nx (nx (nx a))) 1 0 l 0/\
  (∀k,k<8->InsAt G (l,k) (BN 1 0 (first+k) (n-7)))/\InsAt G (l,8) (AP 4 1 1 2)/\InsAt G (l,9) (AP 14 4 1 3)/\BD G (l,10) 2 ((4:Nat):Int) l h/\b=(h,0)
def Fa(G:List Block):Nat->BS->Int->Nat->BS->Prop
  |0,a,_,_,b=>b=a
  |g+1,a,first,n,b=>if 64<n then ∃a1,PF G a first (chunkN n) a1/\Fa G g a1 (first+chunkN n) (n-chunkN n) b else Uf G a first n b
def FR(G:List Block)(a:BS)(first:Int)(n:Nat)(b:BS):Prop:=if n=0 then b=a else InsAt G a (AY 0 0)/\Fa G n (nx a) first n b
theorem DQ(w:List Int)(a:Int):∀n,(Bt w a n).length=w.length
 |0=>rfl
 |n+1=>by rw[Bt];unfold rset;rw[List.length_set,DQ w a n]
theorem HV{w:List Int}{a:Int}(ha:0<=a)(j:Nat):∀n:Nat,(Bt w a n)[j]?=if a<=j/\(j:Int)<a+n/\j<w.length then some 0 else w[j]?
 |0=>by rw[Bt,if_neg Aa]
 |n+1=>by
  rw[Bt];unfold rset;rw[List.getElem?_set,DQ,HV ha j n]
  by_cases h:(a+n).toNat=j
  . rw[if_pos h]
    by_cases h2:j<w.length
    . rw[if_pos Aa,if_pos Aa]
    . rw[if_neg Aa,if_neg Aa,List.getElem?_eq_none Aa]
  . rw[if_neg h];exact bs
theorem Nn{w:List Int}{a:Int}(n:Nat):∀k:Nat,Bt (Bt w a n) (a+n) k=Bt w a (n+k)
 |0=>rfl
 |k+1=>by
  rw[Bt,Nn n k];show _=rset (Bt w a (n+k)) (a+((n+k:Nat):Int)) 0;congr 1;omega
theorem EC(w:List Int)(a:Int)(l:List Int):∀n,(CT w a l n).length=w.length
 |0=>rfl
 |n+1=>by rw[CT];unfold rset;rw[List.length_set,EC w a l n]
theorem Il{w:List Int}{a:Int}{l:List Int}(ha:0<=a)(j:Nat):∀n:Nat,(CT w a l n)[j]?=if a<=j/\(j:Int)<a+n/\j<w.length then some (Ak l (j-a))else w[j]?
 |0=>by rw[CT,if_neg Aa]
 |n+1=>by
  rw[CT];unfold rset;rw[List.getElem?_set,EC,Il ha j n]
  by_cases h:(a+n).toNat=j
  . rw[if_pos h]
    by_cases h2:j<w.length
    . rw[if_pos Aa,if_pos Aa];congr 2;omega
    . rw[if_neg Aa,if_neg Aa,List.getElem?_eq_none Aa]
  . rw[if_neg h];exact bs
section
variable {X : Cx}
theorem PN{a:BS}{first:Int}{regs:List Int}{m:Mach}(h0:m.fin=0)(hz:Ak regs ((0:Nat):Int)=0):∀(n:Nat),(∀i,i<n->InsAt X.F.blocks (a.1,a.2+i) (AL (first+i) 0))->
 Goes X.cl X.s X.F a regs m (a.1,a.2+n) regs {m with words:=Bt m.words first n,steps:=m.steps+n}
 |0,_=>Goes.refl _ _ _
 |n+1,h1=>by
  have ih:=PN h0 hz n (fun i hi=>h1 i Aa);refine ih.trans (BX (h1 n Aa) (fun call=>?_) h0 rfl);rw[GW,hz];rfl
theorem M2{l r n:Nat}{first:Int}{regs:List Int}{m:Mach}(h0:m.fin=0)(hz:Ak regs ((0:Nat):Int)=0)(h1:Ak regs ((1:Nat):Int)=((8*r:Nat):Int))(hr:8*r+8<=n)(w0:List Int)(hw:m.words=Bt w0 first (8*r)):∀(k:Nat),k<=8->(∀i,i<8->InsAt X.F.blocks (l,i) (BN 1 0 (first+i) (n-7)))->
 Goes X.cl X.s X.F (l,0) regs m (l,k) regs {m with words:=Bt w0 first (8*r+k),steps:=m.steps+k}
 |0,_,_=>by
  have:=Goes.refl (C:=X.cl) (s:=X.s) (f:=X.F) (l,0) regs m;rw[Nat.add_zero,<-hw];exact this
 |k+1,hk,hi=>by
  have ih:=M2 h0 hz h1 hr w0 hw k Aa hi;refine ih.trans (BX (hi k Aa) (fun call=>?_) h0 rfl);rw[HG,h1,hz,decide_eq_false Aa,cond_false];show(regs,_)=(regs,_);congr 1;show Mach.mk _ _ _ _ _=Mach.mk _ _ _ _ _;congr 1;show rset (Bt w0 first (8*r+k)) _ 0=rset (Bt w0 first (8*r+k)) (first+((8*r+k:Nat):Int)) 0;congr 1;omega
theorem VU{x y:Nat}(h:x+y<4294967296):BG 4 (x:Int) (y:Int)=(((x+y:Nat):Int),0):=by
 unfold BG;simp only[show((4:Int)==4)=true from rfl,cond_true];rw[IntKind.wrap_u32];congr 1;omega
theorem Xr(x y:Int):BG 14 x y=(zf (decide (x<y)),0):=by
 unfold BG;simp only[show((14:Int)==4)=false from rfl,show((14:Int)==5)=false from rfl,show((14:Int)==6)=false from rfl,show((14:Int)==7)=false from rfl,show((14:Int)==8)=false from rfl,show((14:Int)==9)=false from rfl,show((14:Int)==10)=false from rfl,show((14:Int)==11)=false from rfl,show((14:Int)==12)=false from rfl,show((14:Int)==13)=false from rfl,show((14:Int)==14)=true from rfl,Bool.false_or,Bool.true_or,Bool.or_false,cond_true,cond_false];unfold Ea zf;simp only[show((14:Int)==14)=true from rfl,show((14:Int)==15)=false from rfl,Bool.false_and,Bool.true_and,Bool.or_false]
theorem NJ(hX:Hn X){l h n q:Nat}{first:Int}(hn:n=8*q)(hn2:n<=4096)(h1:∀i,i<8->InsAt X.F.blocks (l,i) (BN 1 0 (first+i) (n-7)))(h2:InsAt X.F.blocks (l,8) (AP 4 1 1 2))(h3:InsAt X.F.blocks (l,9) (AP 14 4 1 3))(h4:BD X.F.blocks (l,10) 2 ((4:Nat):Int) l h)(w0:List Int):
 ∀(g r:Nat) (regs:List Int) (m:Mach),r+g=q->0<g->(regs.length:Int)=X.F.regs->m.fin=0->Ak regs ((0:Nat):Int)=0->Ak regs ((1:Nat):Int)=((8*r:Nat):Int)->Ak regs ((2:Nat):Int)=((8:Nat):Int)->Ak regs ((3:Nat):Int)=(n:Int)->m.words=Bt w0 first (8*r)->
 ∃regs',Goes X.cl X.s X.F (l,0) regs m (h,0) regs' {m with words:=Bt w0 first n,steps:=m.steps+11*g}/\regs'.length=regs.length/\Ak regs' ((0:Nat):Int)=0
 |0,_,_,_,_,h,_,_,_,_,_,_,_=>absurd h Aa
 |g+1,r,regs,m,hq,_,hl,h0,z0,z1,z2,z3,hw=>by
  have hreg:=(h3.reg hX rfl).2;have hl4:4<regs.length:=by have:((4:Nat):Int)<X.F.regs:=hreg;omega
  have g1:=M2 (X:=X) h0 z0 z1 Aa w0 hw 8 (Nat.le_refl _) h1;have e1:8*r+8=8*(r+1):=by omega
  rw[e1]at g1;have hm2:∀call,A7 call X.s (AP 4 1 1 2) regs {m with words:=Bt w0 first (8*(r+1)),steps:=m.steps+9}=(rset regs ((1:Nat):Int) ((8*(r+1):Nat):Int),{m with words:=Bt w0 first (8*(r+1)),steps:=m.steps+9}):=fun _=>by
   rw[Gy,z1,z2,VU Aa];rw[show 8*r+8=8*(r+1) by omega];rfl
  have g2:=BX (C:=X.cl) (s:=X.s) (f:=X.F) (m:={m with words:=Bt w0 first (8*(r+1)),steps:=m.steps+8}) h2 hm2 h0 rfl;have y1:Ak (rset regs ((1:Nat):Int) ((8*(r+1):Nat):Int)) ((1:Nat):Int)=((8*(r+1):Nat):Int):=Cv Aa;have y3:Ak (rset regs ((1:Nat):Int) ((8*(r+1):Nat):Int)) ((3:Nat):Int)=(n:Int):=(A5 Aa).trans z3;have hm3:∀call,A7 call X.s (AP 14 4 1 3) (rset regs ((1:Nat):Int) ((8*(r+1):Nat):Int)) {m with words:=Bt w0 first (8*(r+1)),steps:=m.steps+10}=(rset (rset regs ((1:Nat):Int) ((8*(r+1):Nat):Int)) ((4:Nat):Int) (zf (decide (((8*(r+1):Nat):Int)<(n:Int)))),{m with words:=Bt w0 first (8*(r+1)),steps:=m.steps+10}):=fun _=>by
   rw[Gy,y1,y3,Xr];rfl
  have g3:=BX (C:=X.cl) (s:=X.s) (f:=X.F) (m:={m with words:=Bt w0 first (8*(r+1)),steps:=m.steps+9}) h3 hm3 h0 rfl;have g4:=Ib (C:=X.cl) (s:=X.s) (f:=X.F) (regs:=rset (rset regs ((1:Nat):Int) ((8*(r+1):Nat):Int)) ((4:Nat):Int) (zf (decide (((8*(r+1):Nat):Int)<(n:Int))))) (m:={m with words:=Bt w0 first (8*(r+1)),steps:=m.steps+10}) h4;have y4:Ak (rset (rset regs ((1:Nat):Int) ((8*(r+1):Nat):Int)) ((4:Nat):Int) (zf (decide (((8*(r+1):Nat):Int)<(n:Int))))) ((4:Nat):Int)=zf (decide (((8*(r+1):Nat):Int)<(n:Int))):=Cv (by unfold rset;rw[List.length_set];omega);rw[y4]at g4;have g5:=((g1.trans g2).trans g3).trans g4;have hlen:(rset (rset regs ((1:Nat):Int) ((8*(r+1):Nat):Int)) ((4:Nat):Int) (zf (decide (((8*(r+1):Nat):Int)<(n:Int))))).length=regs.length:=by unfold rset;rw[List.length_set,List.length_set]
  by_cases hg:g=0
  . subst hg;have hd:decide (((8*(r+1):Nat):Int)<(n:Int))=false:=decide_eq_false Aa;have en:n=8*(r+1):=by omega
    rw[hd,show zf false=0 from rfl,if_pos rfl]at g5;rw[hd,show zf false=0 from rfl]at hlen;refine⟨_,?_,hlen,?_⟩
    . rw[en];exact g5
    . rw[A5 Aa,A5 Aa];exact z0
  . have hd:decide (((8*(r+1):Nat):Int)<(n:Int))=true:=decide_eq_true Aa;rw[hd,show zf true=1 from rfl,if_neg Ab]at g5;rw[hd,show zf true=1 from rfl]at hlen;obtain⟨r2,k1,k2,k3⟩:=NJ hX hn hn2 h1 h2 h3 h4 w0 g (r+1) (rset (rset regs ((1:Nat):Int) ((8*(r+1):Nat):Int)) ((4:Nat):Int) 1) {m with words:=Bt w0 first (8*(r+1)),steps:=m.steps+11} Aa Aa (by rw[hlen];exact hl) h0
     ((A5 Aa).trans ((A5 Aa).trans z0)) ((A5 Aa).trans y1) ((A5 Aa).trans ((A5 Aa).trans z2)) ((A5 Aa).trans y3) rfl
    refine⟨r2,?_,k2.trans hlen,k3⟩;have k4:=g5.trans k1;rw[show m.steps+11*(g+1)=m.steps+11+11*g by omega];exact k4
theorem Yc(hX:Hn X){a b:BS}{n:Nat}{first:Int}{regs:List Int}{m:Mach}(h:PF X.F.blocks a first n b)(h8:n%8=0)(hn0:0<n)(hn:n<=4096)(hl:(regs.length:Int)=X.F.regs)(h0:m.fin=0)(hz:Ak regs ((0:Nat):Int)=0):
 ∃regs',Goes X.cl X.s X.F a regs m b regs' {m with words:=Bt m.words first n,steps:=m.steps+(4+11*(n/8))}/\regs'.length=regs.length/\Ak regs' ((0:Nat):Int)=0:=by
 obtain⟨i1,i2,i3,l,h,e1,i4,i5,i6,e2,rfl⟩:=h;have hreg:=(i6.reg hX rfl).2;have hl4:4<regs.length:=by have:((4:Nat):Int)<X.F.regs:=hreg;omega
 have g1:=BX (C:=X.cl) (s:=X.s) (f:=X.F) (regs:=regs) (r':=rset regs ((1:Nat):Int) 0) (m:=m) (m':={m with steps:=m.steps+1}) i1 (fun _=>rfl) h0 rfl;have g2:=BX (C:=X.cl) (s:=X.s) (f:=X.F) (regs:=rset regs ((1:Nat):Int) 0) (r':=rset (rset regs ((1:Nat):Int) 0) ((2:Nat):Int) 8) (m:={m with steps:=m.steps+1}) (m':={m with steps:=m.steps+2}) i2 (fun _=>rfl) h0 rfl;have g3:=BX (C:=X.cl) (s:=X.s) (f:=X.F) (regs:=rset (rset regs ((1:Nat):Int) 0) ((2:Nat):Int) 8) (r':=rset (rset (rset regs ((1:Nat):Int) 0) ((2:Nat):Int) 8) ((3:Nat):Int) (n:Int)) (m:={m with steps:=m.steps+2}) (m':={m with steps:=m.steps+3}) i3 (fun _=>rfl) h0 rfl;have g4:=GB (C:=X.cl) (s:=X.s) (f:=X.F) (regs:=rset (rset (rset regs ((1:Nat):Int) 0) ((2:Nat):Int) 8) ((3:Nat):Int) (n:Int)) (m:={m with steps:=m.steps+3}) e1
 have hlen:∀x y z:Int,(rset (rset (rset regs ((1:Nat):Int) x) ((2:Nat):Int) y) ((3:Nat):Int) z).length=regs.length:=fun x y z=>by unfold rset;rw[List.length_set,List.length_set,List.length_set]
 have l1:∀x:Int,(rset regs ((1:Nat):Int) x).length=regs.length:=fun x=>by unfold rset;rw[List.length_set]
 have l2:∀x y:Int,(rset (rset regs ((1:Nat):Int) x) ((2:Nat):Int) y).length=regs.length:=fun x y=>by unfold rset;rw[List.length_set,List.length_set]
 obtain⟨r2,k1,k2,k3⟩:=NJ hX (q:=n/8) Aa hn i4 i5 i6 e2 m.words (n/8) 0 (rset (rset (rset regs ((1:Nat):Int) 0) ((2:Nat):Int) 8) ((3:Nat):Int) (n:Int)) {m with steps:=m.steps+4} Aa Aa (by rw[hlen];exact hl) h0
  ((A5 Aa).trans ((A5 Aa).trans ((A5 Aa).trans hz))) ((A5 Aa).trans ((A5 Aa).trans (Cv Aa))) ((A5 Aa).trans (Cv (by rw[l1];omega))) (Cv (by rw[l2];omega)) rfl
 refine⟨r2,?_,k2.trans (hlen _ _ _),k3⟩;have k4:=(((g1.trans g2).trans g3).trans g4).trans k1;rw[show m.steps+(4+11*(n/8))=m.steps+4+11*(n/8) by omega];exact k4
theorem Fl{n:Nat}(h:64<n):chunkN n%8=0/\64<=chunkN n/\chunkN n<=4096/\chunkN n<=n:=by
 unfold chunkN;omega
theorem Md(hX:Hn X):∀(g:Nat) (a b:BS) (first:Int) (n:Nat) (regs:List Int) (m:Mach),n<=g->Fa X.F.blocks g a first n b->(regs.length:Int)=X.F.regs->m.fin=0->Ak regs ((0:Nat):Int)=0->
 ∃regs' k,k<=2*n/\Goes X.cl X.s X.F a regs m b regs' {m with words:=Bt m.words first n,steps:=m.steps+k}/\regs'.length=regs.length
 |0,a,b,first,n,regs,m,hg,h,hl,h0,hz=>by
  rw[Fa]at h;subst h;obtain rfl:n=0:=by omega
  exact⟨regs,0,by omega,Goes.refl _ _ _,rfl⟩
 |g+1,a,b,first,n,regs,m,hg,h,hl,h0,hz=>by
  rw[Fa]at h
  by_cases hn:64<n
  . rw[if_pos hn]at h;obtain⟨a1,h1,h2⟩:=h;obtain⟨c1,c2,c3,c4⟩:=Fl hn;obtain⟨r1,k1,k2,k3⟩:=Yc hX h1 c1 Aa c3 hl h0 hz;obtain⟨r2,k,j1,j2,j3⟩:=Md hX g a1 b (first+chunkN n) (n-chunkN n) r1 {m with words:=Bt m.words first (chunkN n),steps:=m.steps+(4+11*(chunkN n/8))} Aa h2 (by rw[k2];exact hl) h0 k3;refine⟨r2,4+11*(chunkN n/8)+k,by omega,?_,j3.trans k2⟩;have:=k1.trans j2;dsimp only at this;rw[Nn,show chunkN n+(n-chunkN n)=n by omega]at this;rw[<-Nat.add_assoc m.steps];exact this
  . rw[if_neg hn]at h;obtain⟨h1,rfl⟩:=h;exact⟨regs,n,by omega,PN h0 hz n h1,rfl⟩
theorem U6(hX:Hn X){a b:BS}{first:Int}{n:Nat}{regs:List Int}{m:Mach}(h:FR X.F.blocks a first n b)(hl:(regs.length:Int)=X.F.regs)(h0:m.fin=0):
 ∃regs' k,k<=2*n+1/\Goes X.cl X.s X.F a regs m b regs' {m with words:=Bt m.words first n,steps:=m.steps+k}/\regs'.length=regs.length:=by
 unfold FR at h
 by_cases hn:n=0
 . rw[if_pos hn]at h;subst h;subst hn;exact⟨regs,0,by omega,Goes.refl _ _ _,rfl⟩
 . rw[if_neg hn]at h;obtain⟨h1,h2⟩:=h;have hreg:=(h1.reg hX rfl).2;have hl0:0<regs.length:=by have:((0:Nat):Int)<X.F.regs:=hreg;omega
   have g1:=BX (C:=X.cl) (s:=X.s) (f:=X.F) (regs:=regs) (r':=rset regs ((0:Nat):Int) 0) (m:=m) (m':={m with steps:=m.steps+1}) h1 (fun _=>rfl) h0 rfl;have l1:(rset regs ((0:Nat):Int) 0).length=regs.length:=by unfold rset;rw[List.length_set]
   obtain⟨r2,k,j1,j2,j3⟩:=Md hX n (nx a) b first n (rset regs ((0:Nat):Int) 0) {m with steps:=m.steps+1} (Nat.le_refl _) h2 (by rw[l1];exact hl) h0 (Cv hl0)
   refine⟨r2,1+k,by omega,?_,j3.trans l1⟩;rw[<-Nat.add_assoc m.steps];exact g1.trans j2
end
def ko(C:Core)(G:List Block)(fn:CFn)(last:Bool):Prop:=∃a1 a2:BS,(if last=true then a1=(0,0)else FR G (0,0) (fn.first+fn.params) (fn.slots-fn.params).toNat a1)/\CS.codeL C fn.word G fn.body a1 a2/\Hd C fn.word G a2
structure mI(C:Core)(i:Nat)(fn:CFn):Prop where
  p0:0<=fn.params
  p6:fn.params<=6
  ps:fn.params<=fn.slots
  f0:0<=fn.first
  f1:fn.first+fn.slots<=C.words
  body:CS.okL C i fn.word fn.body
structure M7(C:Core):Prop where
  w0:0<=C.words
  ne:C.funcs≠[]
  fn:∀(i:Nat) (fn:CFn),C.funcs[i]?=some fn->mI C i fn
  last:∀fn,C.funcs[C.funcs.length-1]?=some fn->fn.word=false/\fn.params=0
structure YC(C:Core)(B:Blocks)(M:Nat):Prop where
  words:B.words=(M:Int)
  wm:C.words<=M
  told:∀fn∈C.funcs,fn.word=true->C.words<M
  len:B.funcs.length=C.funcs.length
  fn:∀(i:Nat) (fn:CFn),C.funcs[i]?=some fn->∃F,B.funcs[i]?=some F/\ko C F.blocks fn (i+1==C.funcs.length)/\0<=F.regs/\∀x∈F.blocks,∀t∈x.ins,setsOp t.op=true->0<=t.d/\t.d<F.regs
theorem K2{w:List Int}(h:Dc w)(a:Int):∀n,Dc (Bt w a n)
 |0=>h
 |n+1=>DB (K2 h a n) _ ⟨by decide,by decide⟩
theorem Li{w:List Int}(h:Dc w)(a:Int){l:List Int}(hl:Dc l):∀n,Dc (CT w a l n)
 |0=>h
 |n+1=>DB (Li h a hl n) _ (DC hl _)
theorem QF{l:List CFn}{fn:CFn}(h:fn∈l):CS.partsL fn.body<=(l.map fun f=>CS.partsL f.body).sum:=by
 induction l with
 |nil=>cases h
 |cons a l ih=>
  rw[List.map_cons,List.sum_cons];rcases List.mem_cons.1 h with rfl|h
  . omega
  . have:=ih h;omega
def Core.k(C:Core):Nat:=8*(C.parts+C.words.toNat+1)
def d8(C:Core)(B:Blocks)(s:ByteArray)(fuel:Int)(M n g:Nat)(F:BFunc):Cx:=⟨C,s,F,⟨fun fu=>El B s fu n,fun fu i m=>Fz n i m⟩,FM C s fuel n,g,C.words.toNat,M,C.k⟩
section
variable {C : Core} {B : Blocks} {s : ByteArray} {fuel : Int} {M : Nat}
theorem S8{W:Nat}{cw w0:List Int}{first params slots:Int}{args:List Int}(hc:cw.length=W)(hw:∀j:Nat,j<W->w0[j]?=cw[j]?)(hm:W<=w0.length)(f0:0<=first)(p0:0<=params)(ps:params<=slots)(f1:first+slots<=(W:Int))(hn:(args.length:Int)=params):
 ∀j:Nat,j<W->(Bt (CT w0 first args args.length) (first+params) (slots-params).toNat)[j]?=(CT (Bt cw first slots.toNat) first args args.length)[j]?:=fun j hj=>by
 rw[HV Aa,Il f0,Il f0,HV f0,EC,DQ];have:=hw j hj
 by_cases h1:first<=j/\(j:Int)<first+args.length
 . rw[if_neg Aa,if_pos ⟨h1.1,h1.2,by omega⟩,if_pos ⟨h1.1,h1.2,by omega⟩]
 . by_cases h2:first+params<=j/\(j:Int)<first+slots
   . rw[if_pos Aa,if_neg Aa,if_pos Aa]
   . rw[if_neg Aa,if_neg Aa,if_neg Aa,if_neg Aa];exact this
theorem Rl{X:Cx}{w:Bool}(hX:Hn X)(hM:w=true->X.W<X.M){k:Nat}{a a2:BS}{regs:List Int}{c p:CM}{m:Mach}(h:StOk X w k a a2 regs c m p)(hl:(regs.length:Int)=X.F.regs)(hlv:Hd X.C w X.F.blocks a2):
 (p.fin=0->∃m',F8 X.cl X.s X.F a regs m m'/\RelM X.W X.M p.m m'/\(w=true->Ak m'.words X.C.words=if p.over=true then p.val else 0)/\(p.over=true->CW p.val)/\m'.steps+X.K*c.m.steps<=m.steps+k+3+X.K*p.m.steps)/\
 (p.fin≠0->p.fin≠5->∃m',F8 X.cl X.s X.F a regs m m'/\m'.fin=p.fin/\m'.out=p.m.out/\m'.steps+X.K*c.m.steps<=m.steps+k+3+X.K*p.m.steps):=by
 refine⟨fun h0=>?_,fun h0 h5=>?_⟩
 . cases ho:p.over with
   |false=>
    obtain⟨r1,m1,g1,g2,g3,g4⟩:=h.go h0 ho;obtain⟨m2,j1,j2,j3,j4⟩:=KL hX hlv Is g2 hM;exact⟨m2,g1.stops j1,j2,fun e=>by rw[if_neg Ab];exact j3 e,fun e=>(by cases e),by omega⟩
   |true=>
    obtain⟨v,m2,j1,j2,j3,j4⟩:=h.ret h0 ho;exact⟨m2,j1,j2,fun e=>by rw[if_pos rfl];exact j3 e,fun _=>v,by omega⟩
 . obtain⟨m2,j1,j2,j3,j4⟩:=h.stop h0 h5;exact⟨m2,j1,j2,j3,by omega⟩
theorem jp(hC:M7 C)(hB:YC C B M):∀(n:Nat),n+1<=C.funcs.length->∀(g:Nat) (fn:CFn) (args:List Int) (c:CM) (m0 m:Mach) (F0:BFunc),g<n->C.funcs[g]?=some fn->(args.length:Int)=fn.params->(∀x∈args,CW x)->c.over=false->RelM C.words.toNat M c.m m0->
 m.words=CT m0.words fn.first args args.length->m.out=m0.out->m.read=m0.read->m.fin=0->PG (d8 C B s fuel M n 0 F0) g fn c m (FM C s fuel n g args c)
 |0,_,g,_,_,_,_,_,_,h,_,_,_,_,_,_,_,_,_=>absurd h Aa
 |n+1,hn,g,fn,args,c,m0,m,F0,hg,hfn,hlen,hwa,ho,hr,hw,hout,hread,hfin=>by
  obtain⟨F,hF,hat,hr0,hregs⟩:=hB.fn g fn hfn;have hfo:=hC.fn g fn hfn;have hnl:(g+1==C.funcs.length)=false:=by rw[beq_eq_false_iff_ne];omega
  rw[hnl]at hat;obtain⟨a1,a2,h1,h2,h3⟩:=hat;rw[if_neg Ab]at h1;have hX:Hn (d8 C B s fuel M n g F):=⟨by show C.words=((C.words.toNat:Nat):Int);have:=hC.w0;omega,by show C.words.toNat<=M;have:=hB.wm;omega,fun fn hfn hw=>by show C.words.toNat<M;have:=hB.told fn hfn hw;have:=hC.w0;omega,hregs,
   fun g' fn' args' c' m0' m' hg' hfn' hl' hw' ho' hr' hm' e1 e2 e3=>have h:=jp hC hB n Aa g' fn' args' c' m0' m' F (by have:g'<g:=hg';omega) hfn' hl' hw' ho' hr' hm' e1 e2 e3;⟨h.le,h.go,h.stop⟩⟩
  have hM:fn.word=true->C.words.toNat<M:=fun e=>by have:=hB.told fn (List.mem_of_getElem? hfn) e;have:=hC.w0;omega
  have hmf:∀fu:Nat,El B s fu (n+1) g m=Ng (fun i m=>El B s fu n i m) s fu F (0,0) (List.replicate F.regs.toNat 0) m:=fun fu=>by
   show(match B.funcs[((g:Nat):Int).toNat]? with
    |none=>m
    |some f=>E6 (El B s fu n) s fu f (((fu:Nat):Int).toNat+1) 0 (List.replicate f.regs.toNat 0) m)=_
   rw[Int.toNat_natCast,hF];exact SJ (i:=0) (fun i m=>Fz n i m)
  have hrl:(((List.replicate F.regs.toNat (0:Int)).length:Nat):Int)=F.regs:=by rw[List.length_replicate];omega
  have hpt:=QF (List.mem_of_getElem? hfn);have hKk:C.k=8*(C.parts+C.words.toNat+1):=rfl;have hCp:C.parts=(C.funcs.map fun f=>CS.partsL f.body).sum:=rfl;have f1:=hfo.f1;have hw0:=hC.w0;have p0:=hfo.p0;have ps:=hfo.ps;have f0:=hfo.f0;show PG _ g fn c m (bif (BH fuel c).1 then _ else _);unfold BH AI
  cases ht:decide ((c.m.steps:Int)>=fuel)with
  |true=>
   simp only[cond_true,cond_false];exact⟨Nat.le_refl _,fun h=>(by cases h),fun _ h=>absurd rfl h⟩
  |false=>
   simp only[cond_true,cond_false];rw[Int.toNat_natCast,hfn];dsimp only;obtain⟨r1,k,hk,g1,g2⟩:=U6 (regs:=List.replicate F.regs.toNat 0) (m:=m) hX h1 hrl hfin;generalize hce:(c.put {c.m with steps:=c.m.steps+1}).put {(c.put {c.m with steps:=c.m.steps+1}).m with words:=CT (Bt c.m.words fn.first fn.slots.toNat) fn.first args args.length}=c1;have hcs:c1.m.steps=c.m.steps+1:=by rw[<-hce];rfl
   have hm0:=hr.len;have hWM:C.words.toNat<=M:=by have:=hB.wm;omega
   have hr1:RelM C.words.toNat M c1.m {m with words:=Bt m.words (fn.first+fn.params) (fn.slots-fn.params).toNat,steps:=m.steps+k}:=by
    rw[<-hce];refine⟨?_,?_,fun j hj=>?_,Li (K2 hr.ok _ _) _ hwa _,hout.trans hr.out,hread.trans hr.read,hfin,hr.cfin⟩
    . show(CT (Bt c.m.words fn.first fn.slots.toNat) fn.first args args.length).length=_;rw[EC,DQ];exact hr.clen
    . show(Bt m.words (fn.first+fn.params) (fn.slots-fn.params).toNat).length=_;rw[DQ,hw,EC];exact hm0
    . show(Bt m.words (fn.first+fn.params) (fn.slots-fn.params).toNat)[j]?=_;rw[hw];exact S8 hr.clen hr.w Aa f0 p0 ps Aa hlen j hj
   have ho1:c1.over=false:=by rw[<-hce];exact ho
   have k1:=Qc (w:=fn.word) (fuel:=fuel) fn.body (fun st _=>Zb hX hM st.parts st (Nat.le_refl _)) a1 a2 r1 c1 {m with words:=Bt m.words (fn.first+fn.params) (fn.slots-fn.params).toNat,steps:=m.steps+k} h2 hfo.body (by show _<=C.k;omega) (by rw[g2];exact hrl) ho1 hr1;have le1:=k1.le;obtain⟨b1,b2⟩:=Rl hX hM k1 (by rw[g2];exact hrl) h3;generalize hpe:CS.runL (d8 C B s fuel M n g F).call (d8 C B s fuel M n g F).s fuel fn.body c1=p at le1 b1 b2;have hpe2:CS.runL (FM C s fuel n) s fuel fn.body c1=p:=hpe;rw[hpe2];have hmul:C.k*(c.m.steps+1)=C.k*c.m.steps+C.k:=Nat.mul_succ _ _;rw[<-hcs]at hmul;have hq:∀(q:Int×CM),q=(bif p.over then(p.val,{p with over:=false})else(0,p))->q.2.m=p.m/\q.2.over=false/\q.1=if p.over=true then p.val else 0:=fun q hq=>by
    subst hq
    cases hov:p.over with
    |true=>exact⟨rfl,rfl,rfl⟩
    |false=>exact⟨rfl,hov,rfl⟩
   obtain⟨q1,q2,q3⟩:=hq _ rfl;generalize(bif p.over then(p.val,{p with over:=false})else(0,p))=q at q1 q2 q3;have qf:q.2.fin=p.fin:=congrArg Mach.fin q1;refine⟨by rw[q1];omega,fun h=>?_,fun h h5=>?_⟩
   . obtain⟨m',s1,s2,s3,s4,s5⟩:=b1 (by rw[<-qf];exact h);dsimp only at s5;refine⟨q2,?_,m',fun fu hfu=>(hmf fu).trans ((g1.stops s1).eq fu hfu),(g1.stops s1).le,by rw[q1];exact s2,fun e=>by rw[q3];exact s3 e,?_⟩
     . rw[q3]
       cases hov:p.over with
       |true=>rw[if_pos rfl];exact s4 hov
       |false=>rw[if_neg Ab];exact⟨by decide,by decide⟩
     . rw[q1];show m'.steps+C.k*c.m.steps<=m.steps+C.k*p.m.steps;have s5':m'.steps+C.k*c1.m.steps<=m.steps+k+8*CS.partsL fn.body+3+C.k*p.m.steps:=s5;clear b1 b2 k1 s5 s3 s4 s2 s1;omega
   . obtain⟨m',s1,s2,s3,s4⟩:=b2 (by rw[<-qf];exact h) (by rw[<-qf];exact h5);dsimp only at s4;refine⟨m',fun fu hfu=>(hmf fu).trans ((g1.stops s1).eq fu hfu),(g1.stops s1).le,by rw[qf];exact s2,by rw[q1];exact s3,?_⟩;rw[q1];show m'.steps+C.k*c.m.steps<=m.steps+C.k*p.m.steps;have s5':m'.steps+C.k*c1.m.steps<=m.steps+k+8*CS.partsL fn.body+3+C.k*p.m.steps:=s4;clear b1 b2 k1 s4 s3 s2 s1;omega
theorem Vv(hC:M7 C)(hB:YC C B M){r:Mach}(hr:Iq C s fuel=r)(h5:r.fin≠5)(fu:Nat)(hfu:(r.steps+1)*C.k<=fu):(JA B s fu).fin=r.fin/\(JA B s fu).out=r.out:=by
 have hne:0<C.funcs.length:=List.length_pos_iff.2 hC.ne;obtain⟨fn,hfn⟩:=Ah (l:=C.funcs) (k:=C.funcs.length-1) Aa;obtain⟨F,hF,hat,hr0,hregs⟩:=hB.fn _ fn hfn;have hfo:=hC.fn _ fn hfn;obtain⟨hwd,hpar⟩:=hC.last fn hfn;have hnl:(C.funcs.length-1+1==C.funcs.length)=true:=by rw[beq_iff_eq];omega
 rw[hnl]at hat;obtain⟨a1,a2,h1,h2,h3⟩:=hat;rw[if_pos rfl]at h1;subst h1;have hX:Hn (d8 C B s fuel M (C.funcs.length-1) (C.funcs.length-1) F):=⟨by show C.words=((C.words.toNat:Nat):Int);have:=hC.w0;omega,by show C.words.toNat<=M;have:=hB.wm;omega,fun fn hfn hw=>by show C.words.toNat<M;have:=hB.told fn hfn hw;have:=hC.w0;omega,hregs,
  fun g' fn' args' c' m0' m' hg' hfn' hl' hw' ho' hr' hm' e1 e2 e3=>have h:=jp hC hB (C.funcs.length-1) Aa g' fn' args' c' m0' m' F hg' hfn' hl' hw' ho' hr' hm' e1 e2 e3;⟨h.le,h.go,h.stop⟩⟩
 have hrl:(((List.replicate F.regs.toNat (0:Int)).length:Nat):Int)=F.regs:=by rw[List.length_replicate];omega
 have hpt:=QF (List.mem_of_getElem? hfn);have hKk:C.k=8*(C.parts+C.words.toNat+1):=rfl;have hCp:C.parts=(C.funcs.map fun f=>CS.partsL f.body).sum:=rfl;have hw0:=hC.w0;have hBw:=hB.words;have hWM:C.words.toNat<=M:=by have:=hB.wm;omega
 have hrel:RelM C.words.toNat M (c0 C).m (m0 B):=by
  refine⟨by show(List.replicate C.words.toNat (0:Int)).length=_;rw[List.length_replicate],by show(List.replicate B.words.toNat (0:Int)).length=_;rw[List.length_replicate];omega,fun j hj=>?_,GH _,rfl,rfl,rfl,rfl⟩;show(List.replicate B.words.toNat (0:Int))[j]?=(List.replicate C.words.toNat (0:Int))[j]?;rw[List.getElem?_replicate,List.getElem?_replicate,if_pos Aa,if_pos Aa]
 have hM:fn.word=true->C.words.toNat<M:=fun e=>by rw[hwd]at e;cases e
 have k1:=Qc (w:=fn.word) (fuel:=fuel) fn.body (fun st _=>Zb hX hM st.parts st (Nat.le_refl _)) (0,0) a2 (List.replicate F.regs.toNat 0) (c0 C) (m0 B) h2 hfo.body (by show _<=C.k;omega) hrl rfl hrel;obtain⟨b1,b2⟩:=Rl hX hM k1 hrl h3;unfold Iq at hr;rw[hfn]at hr;dsimp only at hr;generalize hpe:CS.runL (d8 C B s fuel M (C.funcs.length-1) (C.funcs.length-1) F).call (d8 C B s fuel M (C.funcs.length-1) (C.funcs.length-1) F).s fuel fn.body (c0 C)=p at b1 b2;have hpe2:CS.runL (FM C s fuel (C.funcs.length-1)) s fuel fn.body (c0 C)=p:=hpe;rw[hpe2]at hr;have hst:r.steps=p.m.steps/\r.out=p.m.out:=by
  rw[<-hr]
  cases p.m.fin==0<;>exact⟨rfl,rfl⟩
 have hmul:(r.steps+1)*C.k=C.k*p.m.steps+C.k:=by rw[hst.1,Nat.add_mul,Nat.one_mul,Nat.mul_comm]
 have hmr:JA B s fu=(bif (Ng (fun i m=>El B s fu (C.funcs.length-1) i m) s fu F (0,0) (List.replicate F.regs.toNat 0) (m0 B)).fin==0 then {Ng (fun i m=>El B s fu (C.funcs.length-1) i m) s fu F (0,0) (List.replicate F.regs.toNat 0) (m0 B)with fin:=1}else Ng (fun i m=>El B s fu (C.funcs.length-1) i m) s fu F (0,0) (List.replicate F.regs.toNat 0) (m0 B)):=by
  have e:El B s fu B.funcs.length ((B.funcs.length:Int)-1) (m0 B)=Ng (fun i m=>El B s fu (C.funcs.length-1) i m) s fu F (0,0) (List.replicate F.regs.toNat 0) (m0 B):=by
   obtain⟨n,hn⟩:∃n,C.funcs.length=n+1:=⟨C.funcs.length-1,by omega⟩
   rw[hB.len,hn];rw[hn]at hF;show(match B.funcs[(((n+1:Nat):Int)-1).toNat]? with
    |none=>m0 B
    |some f=>E6 (El B s fu n) s fu f (((fu:Nat):Int).toNat+1) 0 (List.replicate f.regs.toNat 0) (m0 B))=_
   rw[show(((n+1:Nat):Int)-1).toNat=n+1-1 by omega,hF];exact SJ (i:=0) (fun i m=>Fz n i m)
  unfold JA;have hf0:E2 (fu:Int)=(fu:Int):=by unfold E2;rw[decide_eq_false Aa];rfl
  rw[hf0,e]
 have hz:(m0 B).steps=0:=rfl;have hc0:(c0 C).m.steps=0:=rfl
 by_cases hp:p.fin=0
 . obtain⟨m',s1,s2,s3,s4,s5⟩:=b1 hp;have s5':m'.steps+C.k*(c0 C).m.steps<=(m0 B).steps+8*CS.partsL fn.body+3+C.k*p.m.steps:=s5;rw[hc0,hz,Nat.mul_zero]at s5';have hle:m'.steps<=fu:=by
    clear b1 b2 k1 s5 s4 s3 s2 s1 hmr;omega
   have:=s1.eq fu hle;have e2:Ng (fun i m=>El B s fu (C.funcs.length-1) i m) s fu F (0,0) (List.replicate F.regs.toNat 0) (m0 B)=m':=this;have hrf:r.fin=1:=by
    have hp':p.m.fin=0:=hp;rw[<-hr,hp'];rfl
   rw[hmr,e2,s2.fin,hst.2,hrf];exact⟨rfl,s2.out⟩
 . have hrp:r=p.m:=by
    have hp':p.m.fin≠0:=hp;rw[<-hr,show(p.m.fin==0)=false by simpa using hp'];rfl
   have h5':p.fin≠5:=by show p.m.fin≠5;rw[<-hrp];exact h5
   obtain⟨m',s1,s2,s3,s4⟩:=b2 hp h5';have s5':m'.steps+C.k*(c0 C).m.steps<=(m0 B).steps+8*CS.partsL fn.body+3+C.k*p.m.steps:=s4;rw[hc0,hz,Nat.mul_zero]at s5';have hle:m'.steps<=fu:=by
    clear b1 b2 k1 s4 s3 s2 s1 hmr;omega
   have e2:Ng (fun i m=>El B s fu (C.funcs.length-1) i m) s fu F (0,0) (List.replicate F.regs.toNat 0) (m0 B)=m':=s1.eq fu hle;rw[hmr,e2,show(m'.fin==0)=false by rw[s2];simpa using hp,hrp];exact⟨s2,s3⟩
end
def Bd.il(b:Bd):Nat:=((b.blocks[b.now]?).map fun x=>x.ins.length).getD 0
abbrev Bd.pos(b:Bd):BS:=(b.now,b.il)
def Pl(b:Bd):Prop:=∃x,b.blocks[b.now]?=some x/\x.fin=3/\x.v=0/\x.to=0/\x.els=0
structure Fr(b b':Bd):Prop where
  len:b.blocks.length<=b'.blocks.length
  now:b'.now=b.now\/b.blocks.length<=b'.now
  old:∀j x,j≠b.now->b.blocks[j]?=some x->b'.blocks[j]?=some x
  cur:∀x,b.blocks[b.now]?=some x->∃y,b'.blocks[b.now]?=some y/\x.ins<+:y.ins
def Fit(b:Bd)(G:List Block)(P:Nat->Prop):Prop:=∀j x,b.blocks[j]?=some x->∃y,G[j]?=some y/\x.ins<+:y.ins/\(¬P j->y=x)
structure Op(P:Nat->Prop)(b b':Bd):Prop where
  now:P b'.now
  new:∀j,b.blocks.length<=j->j<b'.blocks.length->j≠b'.now->¬P j
  cur:b'.now≠b.now->¬P b.now
structure Codes(R:List Block->BS->BS->Prop)(b b':Bd):Prop where
  fr:Fr b b'
  pl:Pl b'
  code:∀G P,Fit b' G P->Op P b b'->R G b.pos b'.pos
theorem Pl.lt{b:Bd}(h:Pl b):b.now<b.blocks.length:=by
 obtain⟨x,h,_⟩:=h;exact(List.getElem?_eq_some_iff.1 h).1
theorem Fr.refl(b:Bd):Fr b b:=⟨Nat.le_refl _,.inl rfl,fun _ _ _ h=>h,fun x h=>⟨x,h,List.prefix_refl _⟩⟩
theorem Fr.trans{b b1 b2:Bd}(h1:Fr b b1)(h2:Fr b1 b2)(hb:b.now<b.blocks.length):Fr b b2:=by
 refine⟨Nat.le_trans h1.len h2.len,?_,fun j x hj hx=>?_,fun x hx=>?_⟩
 . rcases h2.now with e|e
   . rw[e];exact h1.now
   . exact .inr (Nat.le_trans h1.len e)
 . have hjl:=(List.getElem?_eq_some_iff.1 hx).1;refine h2.old j x (fun e=>?_) (h1.old j x hj hx);rcases h1.now with e2|e2
   . exact hj (e.trans e2)
   . omega
 . obtain⟨y,hy,hp⟩:=h1.cur x hx
   by_cases e:b.now=b1.now
   . obtain⟨z,hz,hq⟩:=h2.cur y (by rw[<-e];exact hy);exact⟨z,by rw[e];exact hz,hp.trans hq⟩
   . exact⟨y,h2.old _ y e hy,hp⟩
theorem Fit.back{b1 b2:Bd}{G:List Block}{P:Nat->Prop}(h:Fit b2 G P)(hf:Fr b1 b2):Fit b1 G (fun j=>j=b1.now\/P j):=fun j x hx=>by
 by_cases e:j=b1.now
 . subst e;obtain⟨y,hy,hp⟩:=hf.cur x hx;obtain⟨z,hz,hq,_⟩:=h _ y hy;exact⟨z,hz,hp.trans hq,fun hn=>absurd (.inl rfl) hn⟩
 . obtain⟨z,hz,hq,hr⟩:=h j x (hf.old j x e hx);exact⟨z,hz,hq,fun hn=>hr fun hp=>hn (.inr hp)⟩
theorem Codes.seq{R1 R2:List Block->BS->BS->Prop}{b b1 b2:Bd}(hb:b.now<b.blocks.length)(h1:Codes R1 b b1)(h2:Codes R2 b1 b2):Codes (fun G a c=>∃m,R1 G a m/\R2 G m c) b b2:=by
 refine⟨h1.fr.trans h2.fr hb,h2.pl,fun G P hF hO=>?_⟩;have l1:=h1.pl.lt;have n1:=h1.fr.now;have n2:=h2.fr.now;have k1:=h1.fr.len;have k2:=h2.fr.len;refine⟨b1.pos,h1.code G _ (hF.back h2.fr) ⟨.inl rfl,fun j h1 h2 h3 hn=>?_,fun hne hn=>?_⟩,h2.code G P hF ⟨hO.now,fun j h1 h2 h3=>hO.new j Aa h2 h3,fun hne=>?_⟩⟩
 . rcases hn with hn|hn
   . exact h3 hn
   . exact hO.new j h1 Aa (fun e=>by omega) hn
 . rcases hn with hn|hn
   . exact hne hn.symm
   . exact hO.cur (fun e=>by omega) hn
 . rcases n1 with e|e
   . rw[e];exact hO.cur Aa
   . exact hO.new _ e Aa (Ne.symm hne)
theorem Codes.mono{R R':List Block->BS->BS->Prop}{b b':Bd}(h:Codes R b b')(hR:∀G a c,R G a c->R' G a c):Codes R' b b':=⟨h.fr,h.pl,fun G P hF hO=>hR G _ _ (h.code G P hF hO)⟩
theorem Codes.refl{b:Bd}(h:Pl b):Codes (fun _ a c=>c=a) b b:=⟨Fr.refl b,h,fun _ _ _ _=>rfl⟩
theorem JQ{b:Bd}{g:Block->Block}{x:Block}(h:b.blocks[b.now]?=some x):(b.upd g).blocks[b.now]?=some (g x):=by
 show(b.blocks.modify b.now g)[b.now]?=_;rw[List.getElem?_modify,h];simp
theorem CP{b:Bd}{g:Block->Block}{j:Nat}(h:j≠b.now):(b.upd g).blocks[j]?=b.blocks[j]?:=by
 show(b.blocks.modify b.now g)[j]?=_;rw[List.getElem?_modify]
 cases b.blocks[j]? with
 |none=>rfl
 |some x=>simp[Ne.symm h]
theorem Cg(b:Bd)(g:Block->Block):(b.upd g).blocks.length=b.blocks.length:=List.length_modify ..
theorem FF{b:Bd}{x:Block}(h:b.blocks[b.now]?=some x):b.il=x.ins.length:=by unfold Bd.il;rw[h];rfl
theorem EU{b:Bd}{x:Block}{t:Tac}(h:b.blocks[b.now]?=some x):(b.put t).blocks[b.now]?=some (x.mid (x.ins++[t])):=JQ h
theorem AO{b:Bd}(h:Pl b)(t:Tac):Codes (fun G a c=>InsAt G a t/\c=nx a) b (b.put t):=by
 obtain⟨x,hx,h1⟩:=h;refine⟨⟨Nat.le_of_eq (Cg b _).symm,.inl rfl,fun j y hj hy=>(CP hj).trans hy,fun y hy=>?_⟩,⟨_,EU hx,h1⟩,fun G P hF hO=>?_⟩
 . rw[hx]at hy;cases hy;exact⟨_,EU hx,List.prefix_append _ _⟩
 . obtain⟨y,hy,hp,_⟩:=hF _ _ (EU hx);refine⟨⟨y,hy,?_⟩,?_⟩
   . show y.ins[b.il]?=_;rw[FF hx];obtain⟨l,hl⟩:=hp;rw[<-hl];show(x.ins++[t]++l)[x.ins.length]?=_;rw[List.append_assoc,List.getElem?_append_right (Nat.le_refl _),Nat.sub_self];rfl
   . show((b.put t).now,(b.put t).il)=_;rw[FF (EU hx)];show(b.now,(x.ins++[t]).length)=(b.now,b.il+1);rw[FF hx,List.length_append];rfl
theorem Aq(b:Bd):b.opened.blocks.length=b.blocks.length+1:=by simp[Bd.opened]
theorem C7(b:Bd):b.opened.blocks[b.blocks.length]?=some blk0:=by
 show(b.blocks++[blk0])[_]?=_;rw[List.getElem?_append_right (Nat.le_refl _),Nat.sub_self];rfl
theorem AF{b:Bd}{j:Nat}(h:j<b.blocks.length):b.opened.blocks[j]?=b.blocks[j]?:=List.getElem?_append_left h
structure Yz(R:List Block->BS->BS->Prop)(b b':Bd)(i to:Nat):Prop where
  now:b'.now=b.now
  len:b.blocks.length<=b'.blocks.length
  old:∀j,j≠i->j<b.blocks.length->b'.blocks[j]?=b.blocks[j]?
  code:∀G P,Fit b' G P->¬P i->(∀j,b.blocks.length<=j->j<b'.blocks.length->¬P j)->∃a,R G (i,0) a/\BD G a 1 0 to 0
theorem Fj{R:List Block->BS->BS->Prop}{b:Bd}{i to:Nat}{f:Bd->Bd}(hi:b.blocks[i]?=some blk0)(hf:Codes R (b.go i) (f (b.go i))):Yz R b (b.inside i to f) i to:=by
 unfold Bd.inside;generalize hbi:f (b.go i)=bi at hf;obtain⟨x,hx,e3,ev,et,ee⟩:=hf.pl;have hlen:b.blocks.length<=bi.blocks.length:=hf.fr.len;have hnow:bi.now=i\/b.blocks.length<=bi.now:=hf.fr.now;have hblk:((bi.jump to).go b.now).blocks=(bi.jump to).blocks:=rfl;have hjl:(bi.jump to).blocks.length=bi.blocks.length:=Cg bi _;have hjat:(bi.jump to).blocks[bi.now]?=some {x with fin:=1,to:=(to:Int)}:=JQ hx;refine⟨rfl,by rw[hblk,hjl];exact hlen,fun j hj hjl2=>?_,fun G P hF hP hN=>?_⟩
 . rw[hblk];refine(CP Aa).trans ?_;obtain⟨y,hy⟩:=Ah hjl2;rw[hy];exact hf.fr.old j y hj hy
 . have hF':Fit (bi.jump to) G P:=hF;have hnP:¬P bi.now:=by
    rcases hnow with e|e
    . rw[e];exact hP
    . exact hN _ e (by rw[hblk,hjl];exact hf.pl.lt)
   have hil:(b.go i).il=0:=by unfold Bd.il;rw[show(b.go i).blocks[(b.go i).now]?=some blk0 from hi];rfl
   have hc:=hf.code G (fun j=>j=bi.now\/P j) (fun j y hy=>?_) ⟨.inl rfl,fun j h1 h2 h3 hn=>?_,fun hne hn=>?_⟩
   . refine⟨bi.pos,?_,?_⟩
     . have e:(b.go i).pos=(i,0):=by show(i,(b.go i).il)=_;rw[hil]
       rw[<-e];exact hc
     . obtain⟨z,hz,_,hq⟩:=hF' _ _ hjat;have hz2:=hq hnP;subst hz2;exact⟨_,hz,(FF hx).symm,rfl,ev,rfl,ee⟩
   . by_cases e:j=bi.now
     . subst e;rw[hx]at hy;cases hy;obtain⟨z,hz,hp,_⟩:=hF' _ _ hjat;exact⟨z,hz,hp,fun hn=>absurd (.inl rfl) hn⟩
     . obtain⟨z,hz,hp,hq⟩:=hF' j y ((CP e).trans hy);exact⟨z,hz,hp,fun hn=>hq fun h=>hn (.inr h)⟩
   . rcases hn with hn|hn
     . exact h3 hn
     . exact hN j h1 (by rw[hblk,hjl];exact h2) hn
   . rcases hn with hn|hn
     . exact hne hn.symm
     . exact hP hn
theorem Le{b:Bd}{v to els:Nat}{x:Block}(h:b.blocks[b.now]?=some x):(b.fork v to els).blocks[b.now]?=some {x with fin:=2,v:=(v:Int),to:=(to:Int),els:=(els:Int)}:=JQ h
theorem ZF{b:Bd}{to:Nat}{x:Block}(h:b.blocks[b.now]?=some x):(b.jump to).blocks[b.now]?=some {x with fin:=1,to:=(to:Int)}:=JQ h
theorem Ow{b:Bd}(h:Pl b)(d:Nat):Codes (fun G a c=>Ui G a d c) b (b.not d):=by
 have h1:=AO h (AY (d+1) 0);have h2:=AO h1.pl (AP 15 d d (d+1));exact aU
theorem Di{b:Bd}(h:Pl b)(e:CE)(d:Nat):Codes (fun G a c=>E9 G e a d c) b (b.truth e d):=by
 unfold Bd.truth
 cases he:e.flagged with
 |true=>
  simp only[cond_true];refine(Codes.refl h).mono fun G a c hm=>?_
  unfold E9;rw[he,if_pos rfl];exact hm
 |false=>
  simp only[cond_false];have h1:=Ow h d;have h2:=AO h1.pl (AP 15 d d (d+1));refine(h1.seq h.lt h2).mono fun G a c hm=>?_
  obtain⟨m,i1,i2,rfl⟩:=hm;unfold E9;rw[he,if_neg Ab];exact⟨m,i1,i2,rfl⟩
theorem MO{b:Bd}(h:Pl b)(first:Int)(d:Nat):∀n:Nat,Codes (fun G a c=>(∀i,i<n->InsAt G (a.1,a.2+i) (AL (first+i) (d+i)))/\c=(a.1,a.2+n)) b (b.args first d n)
 |0=>(Codes.refl h).mono fun G a c hm=>⟨fun i hi=>absurd hi Aa,hm⟩
 |n+1=>by
  have ih:=MO h first d n
  have h2:=AO ih.pl (AL (first+n) (d+n));exact cx
theorem Ha{b:Bd}(h:Pl b)(C:Core)(g:Int)(n d:Nat):Codes (fun G a c=>JP G a (C.first g) g n d c) b (b.called C g n d):=by
 have h1:=MO h (C.first g) d n;have h2:=AO h1.pl (E1 g);exact aU
theorem HN{b:Bd}(h:Pl b){k:Int}{d:Nat}{R:List Block->BS->BS->Prop}{f:Bd->Bd}(hf:∀b0,Pl b0->Codes R b0 (f b0)):
 Codes (fun G a c=>∃(r h:Nat) (a2:BS),(if k=8 then BD G a 2 d r h else BD G a 2 d h r)/\R G (r,0) a2/\BD G a2 1 0 h 0/\c=(h,0)) b (((b.either0 k d).inside b.blocks.length (b.blocks.length+1) f).go (b.blocks.length+1)):=by
 obtain⟨x,hx,e3,ev,et,ee⟩:=h;have hlt:=(List.getElem?_eq_some_iff.1 hx).1;generalize hb1:b.either0 k d=b1;have hnow:b1.now=b.now:=by rw[<-hb1];unfold Bd.either0;cases k==8<;>rfl
 have hlen:b1.blocks.length=b.blocks.length+2:=by
  rw[<-hb1];unfold Bd.either0
  cases k==8
  . show(Bd.upd b.opened.opened _).blocks.length=_;rw[Cg,Aq,Aq]
  . show(Bd.upd b.opened.opened _).blocks.length=_;rw[Cg,Aq,Aq]
 have hne:∀j,j≠b.now->b1.blocks[j]?=b.opened.opened.blocks[j]?:=fun j hj=>by
  rw[<-hb1];unfold Bd.either0
  cases k==8
  . exact CP hj
  . exact CP hj
 have hx2:b.opened.opened.blocks[b.now]?=some x:=by
  rw[AF EZ,AF hlt];exact hx
 have hn:b1.blocks[b.blocks.length]?=some blk0:=by
  rw[hne _ Aa,AF EZ];exact C7 b
 have hn1:b1.blocks[b.blocks.length+1]?=some blk0:=by
  rw[hne _ Aa];have:=C7 b.opened;rwa[Aq]at this
 have hcur:∃y:Block,b1.blocks[b.now]?=some y/\y.ins=x.ins/\(if k=8 then(y.fin=2/\y.v=(d:Int)/\y.to=(b.blocks.length:Int)/\y.els=((b.blocks.length+1:Nat):Int))else(y.fin=2/\y.v=(d:Int)/\y.to=((b.blocks.length+1:Nat):Int)/\y.els=(b.blocks.length:Int))):=by
  rw[<-hb1];unfold Bd.either0
  by_cases hk:k=8
  . rw[show(k==8)=true by simpa using hk];refine⟨_,Le (b:=b.opened.opened) hx2,rfl,?_⟩;rw[if_pos hk];exact⟨rfl,rfl,rfl,rfl⟩
  . rw[show(k==8)=false by simpa using hk];refine⟨_,Le (b:=b.opened.opened) hx2,rfl,?_⟩;rw[if_neg hk];exact⟨rfl,rfl,rfl,rfl⟩
 obtain⟨y,hy,hyi,hye⟩:=hcur;have hin:=Fj (to:=b.blocks.length+1) hn (hf (b1.go b.blocks.length) ⟨blk0,hn,rfl,rfl,rfl,rfl⟩);generalize b1.inside b.blocks.length (b.blocks.length+1) f=b2 at hin|-;have hl2:=hin.len;have hgo:(b2.go (b.blocks.length+1)).blocks=b2.blocks:=rfl;refine⟨⟨by rw[hgo];omega,.inr (by show b.blocks.length<=b.blocks.length+1;omega),fun j z hj hz=>?_,fun z hz=>?_⟩,⟨blk0,?_,rfl,rfl,rfl,rfl⟩,fun G P hF hO=>?_⟩
 . have hjl:=(List.getElem?_eq_some_iff.1 hz).1;rw[hgo,hin.old j Aa Aa,hne j hj,AF EZ,AF hjl];exact hz
 . rw[hx]at hz;cases hz;refine⟨y,?_,by rw[hyi];exact List.prefix_refl _⟩;rw[hgo,hin.old _ Aa Aa];exact hy
 . show b2.blocks[b.blocks.length+1]?=_;rw[hin.old _ Aa Aa];exact hn1
 . have hF2:Fit b2 G P:=hF;have hnew:=hO.new;have hnow2:(b2.go (b.blocks.length+1)).now=b.blocks.length+1:=rfl;rw[hnow2,hgo]at hnew;obtain⟨a2,k1,k2⟩:=hin.code G P hF2 (hnew _ (Nat.le_refl _) Aa Aa) (fun j h1 h2=>hnew j Aa h2 Aa);have hPn:¬P b.now:=hO.cur (by rw[hnow2];omega);obtain⟨z,hz,_,hq⟩:=hF2 b.now y (by rw[hin.old _ Aa Aa];exact hy);have hzy:=hq hPn;subst hzy;refine⟨b.blocks.length,b.blocks.length+1,a2,?_,k1,k2,?_⟩
   . have hil:z.ins.length=b.il:=by rw[hyi,FF hx]
     by_cases hk:k=8
     . rw[if_pos hk]at hye|-;exact⟨z,hz,hil,hye⟩
     . rw[if_neg hk]at hye|-;exact⟨z,hz,hil,hye⟩
   . show(b.blocks.length+1,Bd.il _)=(b.blocks.length+1,0);rw[FF (b:=b2.go (b.blocks.length+1)) (x:=blk0) (by show b2.blocks[b.blocks.length+1]?=_;rw[hin.old _ Aa Aa];exact hn1)];rfl
section
variable {C : Core} {n : Nat}
def To(C:Core)(n:Nat)(e:CE):Prop:=e.ok C n->∀(d:Nat) (b:Bd),Pl b->Codes (fun G a c=>e.code C G d a c) b (e.build C d b)
theorem I2:∀(l:List CE),(∀e∈l,To C n e)->CE.okL C n l->∀(d:Nat) (b:Bd),Pl b->Codes (fun G a c=>CE.codeL C G l d a c) b (CE.buildL C l d b)
 | [],_,_,d,b,hb=>by
  rw[CE.buildL];exact(Codes.refl hb).mono fun G a c h=>by rw[CE.codeL];exact h
 |e::l,hI,hok,d,b,hb=>by
  rw[CE.buildL];rw[CE.okL]at hok;have h1:=hI e (List.mem_cons.2 (.inl rfl)) hok.1 d b hb;have h2:=I2 l (fun e he=>hI e (List.mem_cons.2 (.inr he))) hok.2 (d+1) (e.build C d b) h1.pl;refine(h1.seq hb.lt h2).mono fun G a c h=>?_
  rw[CE.codeL];exact h
theorem B2:∀(m:Nat) (e:CE),e.parts<=m->To C n e
 |0,e,h=>by cases e;rw[CE.parts]at h;omega
 |m+1,e,hm=>by
  cases e with
  |mk k o num sl z kids=>
  rw[CE.parts]at hm;have hI:∀e∈kids,To C n e:=fun e he=>B2 m e RJ
  intro hok d b hb;rw[CE.ok]at hok;obtain⟨hkids,hk⟩:=hok;have hL:=I2 kids hI hkids d b hb;rcases hk with⟨rfl,hw⟩|⟨rfl,h0,h1⟩|⟨rfl,h1,z1,z2,s0,s1⟩|⟨rfl,s0,s1,fn,hfn,hwd,hpar,h6⟩|rfl|⟨rfl,h2,o1,o2⟩|⟨rfl,h1⟩|⟨rfl,h2⟩|⟨rfl,h2⟩
  . rw[CE.build,if_pos rfl];exact(AO hb _).mono fun G a c h=>by rw[CE.code,if_pos rfl];exact h
  . rw[CE.build,if_neg Ab,if_pos rfl];exact(AO hb _).mono fun G a c h=>by rw[CE.code,if_neg Ab,if_pos rfl];exact h
  . rw[CE.build,if_neg Ab,if_neg Ab,if_pos rfl];exact(hL.seq hb.lt (AO hL.pl _)).mono fun G a c h=>by rw[CE.code,if_neg Ab,if_neg Ab,if_pos rfl];exact h
  . rw[CE.build,if_neg Ab,if_neg Ab,if_neg Ab,if_pos rfl];have h2:=Ha hL.pl C sl kids.length d;refine(hL.seq hb.lt (h2.seq hL.pl.lt (AO h2.pl _))).mono fun G a c h=>?_
    rw[CE.code,if_neg Ab,if_neg Ab,if_neg Ab,if_pos rfl];obtain⟨a1,i1,a2,i2,i3⟩:=h;exact⟨a1,a2,i1,i2,i3⟩
  . rw[CE.build,if_neg Ab,if_neg Ab,if_neg Ab,if_neg Ab,if_pos rfl];exact(AO hb _).mono fun G a c h=>by rw[CE.code,if_neg Ab,if_neg Ab,if_neg Ab,if_neg Ab,if_pos rfl];exact h
  . rw[CE.build,if_neg Ab,if_neg Ab,if_neg Ab,if_neg Ab,if_neg Ab,if_pos rfl];exact(hL.seq hb.lt (AO hL.pl _)).mono fun G a c h=>by rw[CE.code,if_neg Ab,if_neg Ab,if_neg Ab,if_neg Ab,if_neg Ab,if_pos rfl];exact h
  . rw[CE.build,if_neg Ab,if_neg Ab,if_neg Ab,if_neg Ab,if_neg Ab,if_neg Ab,if_pos rfl];exact(hL.seq hb.lt (Ow hL.pl _)).mono fun G a c h=>by rw[CE.code,if_neg Ab,if_neg Ab,if_neg Ab,if_neg Ab,if_neg Ab,if_neg Ab,if_pos rfl];exact h
  all_goals
   obtain⟨e1,e2,rfl⟩:=FY h2;rw[CE.build,if_neg Ab,if_neg Ab,if_neg Ab,if_neg Ab,if_neg Ab,if_neg Ab,if_neg Ab,if_pos Ab,D5,D4];rw[CE.okL,CE.okL]at hkids;have h1:=hI e1 At hkids.1 d b hb;have h3:=Di h1.pl e1 d;have h4:=h1.seq hb.lt h3;have h5:=HN (k:=8) (d:=d) h4.pl (fun b0 hb0=>(hI e2 At hkids.2.1 d b0 hb0).seq hb0.lt (Di (hI e2 At hkids.2.1 d b0 hb0).pl e2 d));have h6:=HN (k:=9) (d:=d) h4.pl (fun b0 hb0=>(hI e2 At hkids.2.1 d b0 hb0).seq hb0.lt (Di (hI e2 At hkids.2.1 d b0 hb0).pl e2 d))
   first
   |refine(h4.seq hb.lt h5).mono fun G a c h=>?_
   |refine(h4.seq hb.lt h6).mono fun G a c h=>?_
   rw[CE.code,if_neg Ab,if_neg Ab,if_neg Ab,if_neg Ab,if_neg Ab,if_neg Ab,if_neg Ab,if_pos Ab,Nb];obtain⟨m2,⟨m1,i1,i2⟩,r,h,a4,i3,⟨a3,i4,i5⟩,i6,i7⟩:=h;refine⟨m1,m2,i1,i2,?_⟩;rw[Na];exact⟨r,h,a3,a4,i3,i4,i5,i6,i7⟩
end
theorem HO{b:Bd}(h:Pl b){g:Block->Block}{fin v to els:Int}(hg:∀x:Block,x.fin=3->x.v=0->x.to=0->x.els=0->(g x).ins=x.ins/\(g x).fin=fin/\(g x).v=v/\(g x).to=to/\(g x).els=els):
 Codes (fun G a c=>BD G a fin v to els/\c=(b.blocks.length,0)) b ((b.opened.upd g).go b.blocks.length):=by
 obtain⟨x,hx,e3,ev,et,ee⟩:=h;have hlt:=(List.getElem?_eq_some_iff.1 hx).1;obtain⟨g1,g2⟩:=hg x e3 ev et ee;have hx1:b.opened.blocks[b.opened.now]?=some x:=(AF hlt).trans hx;have hcur:(b.opened.upd g).blocks[b.now]?=some (g x):=JQ (b:=b.opened) hx1;have hnew:(b.opened.upd g).blocks[b.blocks.length]?=some blk0:=(CP (b:=b.opened) PR).trans (C7 b);have hl:(b.opened.upd g).blocks.length=b.blocks.length+1:=(Cg b.opened g).trans (Aq b);refine⟨⟨by show _<=(b.opened.upd g).blocks.length;omega,.inr (Nat.le_refl _),fun j y hj hy=>?_,fun y hy=>?_⟩,⟨blk0,hnew,rfl,rfl,rfl,rfl⟩,fun G P hF hO=>?_⟩
 . have hjl:=(List.getElem?_eq_some_iff.1 hy).1;exact((CP (b:=b.opened) hj).trans (AF hjl)).trans hy
 . rw[hx]at hy;cases hy;exact⟨g x,hcur,by rw[g1];exact List.prefix_refl _⟩
 . have hPn:¬P b.now:=hO.cur PR;obtain⟨z,hz,_,hq⟩:=hF b.now (g x) hcur;have:=hq hPn;subst this;refine⟨⟨_,hz,by rw[g1];exact(FF hx).symm,g2⟩,?_⟩;show(b.blocks.length,Bd.il _)=(b.blocks.length,0);rw[FF (b:=(b.opened.upd g).go b.blocks.length) (x:=blk0) hnew];rfl
theorem KI{α:Type}{l:List α}{i:Nat}{x:α}{g:α->α}(h:l[i]?=some x)(hg:g x=x):l.modify i g=l:=by
 refine List.ext_getElem? fun j=>?_
 rw[List.getElem?_modify]
 by_cases e:i=j
 . subst e;rw[h];simp[hg]
 . cases l[j]?<;>simp[e]
theorem Jo{b:Bd}(h:Pl b):b.ret=b:=by
 obtain⟨x,hx,e3,_⟩:=h;unfold Bd.ret Bd.upd;rw[KI hx (by rw[<-e3])]
theorem MN{b:Bd}(h:Pl b):Codes (fun G a c=>BD G a 3 0 0 0) b b.next:=by
 have:=HO h (g:=fun x=>x) (fin:=3) (v:=0) (to:=0) (els:=0) (fun x h1 h2 h3 h4=>⟨rfl,h1,h2,h3,h4⟩);have e:(b.opened.upd fun x=>x).go b.blocks.length=b.next:=by
  obtain⟨x,hx,_⟩:=h;have hlt:=(List.getElem?_eq_some_iff.1 hx).1;have hm:b.opened.blocks.modify b.opened.now (fun x=>x)=b.opened.blocks:=KI (x:=x) ((AF hlt).trans hx) rfl;unfold Bd.next Bd.upd;rw[hm]
 rw[e]at this;exact this.mono fun G a c h=>h.1
theorem KP{b:Bd}(h:Pl b)(C:Core)(w:Bool):Codes (fun G a c=>if w=true then InsAt G a (AY 0 0)/\InsAt G (nx a) (AL C.words 0)/\c=nx (nx a)else c=a) b (b.leave C w):=by
 unfold Bd.leave
 cases w with
 |false=>
  simp only[cond_false];rw[Jo h];exact(Codes.refl h).mono fun G a c e=>by rw[if_neg Ab];exact e
 |true=>
  simp only[cond_true];have h1:=AO h (AY 0 0);have h2:=AO h1.pl (AL C.words 0);rw[Jo h2.pl];refine(h1.seq h.lt h2).mono fun G a c hm=>?_
  obtain⟨m,⟨i1,rfl⟩,i2,rfl⟩:=hm;rw[if_pos trivial];exact⟨i1,i2,rfl⟩
theorem QU{C:Core}{w:Bool}{G:List Block}{a c:BS}(h:if w=true then InsAt G a (AY 0 0)/\InsAt G (nx a) (AL C.words 0)/\c=nx (nx a)else c=a)(he:BD G c 3 0 0 0):Hd C w G a:=by
 unfold Hd
 cases w with
 |false=>rw[if_neg Ab]at h|-;subst h;exact he
 |true=>rw[if_pos rfl]at h|-;obtain⟨h1,h2,rfl⟩:=h;exact⟨h1,h2,he⟩
theorem Pp{b:Bd}(h:Pl b){RT RE:List Block->BS->BS->Prop}{fT fE:Bd->Bd}(hT:∀b0,Pl b0->Codes RT b0 (fT b0))(hE:∀b0,Pl b0->Codes RE b0 (fE b0)):
 Codes (fun G a c=>∃(t h o:Nat) (a2 a3:BS),BD G a 2 0 t o/\RT G (t,0) a2/\BD G a2 1 0 h 0/\(RE G (o,0) a3/\BD G a3 1 0 h 0)/\c=(h,0)) b
  (((((b.opened.opened.opened).inside (b.blocks.length+2) (b.blocks.length+1) fE).fork 0 b.blocks.length (b.blocks.length+2)).inside b.blocks.length (b.blocks.length+1) fT).go (b.blocks.length+1)):=by
 obtain⟨x,hx,e3,ev,et,ee⟩:=h;have hlt:=(List.getElem?_eq_some_iff.1 hx).1;have l3:b.opened.opened.opened.blocks.length=b.blocks.length+3:=by rw[Aq,Aq,Aq]
 have o3:∀j,j<b.blocks.length->b.opened.opened.opened.blocks[j]?=b.blocks[j]?:=fun j hj=>by
  exact aI
 have n0:b.opened.opened.opened.blocks[b.blocks.length]?=some blk0:=by
  exact YG
 have n1:b.opened.opened.opened.blocks[b.blocks.length+1]?=some blk0:=by
  exact Wf
 have n2:b.opened.opened.opened.blocks[b.blocks.length+2]?=some blk0:=by
  exact Tu
 have hnow3:b.opened.opened.opened.now=b.now:=rfl;generalize b.opened.opened.opened=b3 at l3 o3 n0 n1 n2 hnow3|-;have iE:=Fj (to:=b.blocks.length+1) n2 (hE (b3.go (b.blocks.length+2)) ⟨blk0,n2,rfl,rfl,rfl,rfl⟩);generalize b3.inside (b.blocks.length+2) (b.blocks.length+1) fE=b4 at iE|-;have hl4:=iE.len;have hnow4:b4.now=b.now:=iE.now.trans hnow3;have x4:b4.blocks[b.now]?=some x:=by rw[iE.old _ Aa Aa,o3 _ hlt];exact hx
 have x5:(b4.fork 0 b.blocks.length (b.blocks.length+2)).blocks[b.now]?=some {x with fin:=2,v:=0,to:=(b.blocks.length:Int),els:=((b.blocks.length+2:Nat):Int)}:=by
  have:=Le (b:=b4) (v:=0) (to:=b.blocks.length) (els:=b.blocks.length+2) (x:=x) (by rw[hnow4];exact x4);rw[hnow4]at this;exact this
 have o5:∀j,j≠b.now->(b4.fork 0 b.blocks.length (b.blocks.length+2)).blocks[j]?=b4.blocks[j]?:=fun j hj=>CP (by rw[hnow4];exact hj)
 have l5:(b4.fork 0 b.blocks.length (b.blocks.length+2)).blocks.length=b4.blocks.length:=Cg b4 _;have hnow5:(b4.fork 0 b.blocks.length (b.blocks.length+2)).now=b.now:=hnow4;generalize b4.fork 0 b.blocks.length (b.blocks.length+2)=b5 at x5 o5 l5 hnow5|-;have n5:b5.blocks[b.blocks.length]?=some blk0:=by rw[o5 _ Aa,iE.old _ Aa Aa];exact n0
 have iT:=Fj (to:=b.blocks.length+1) n5 (hT (b5.go b.blocks.length) ⟨blk0,n5,rfl,rfl,rfl,rfl⟩);generalize b5.inside b.blocks.length (b.blocks.length+1) fT=b6 at iT|-;have hl6:=iT.len;have hgo:(b6.go (b.blocks.length+1)).blocks=b6.blocks:=rfl;have n6:b6.blocks[b.blocks.length+1]?=some blk0:=by rw[iT.old _ Aa Aa,o5 _ Aa,iE.old _ Aa Aa];exact n1
 refine⟨⟨by rw[hgo];omega,.inr (by show b.blocks.length<=b.blocks.length+1;omega),fun j z hj hz=>?_,fun z hz=>?_⟩,⟨blk0,n6,rfl,rfl,rfl,rfl⟩,fun G P hF hO=>?_⟩
 . have hjl:=(List.getElem?_eq_some_iff.1 hz).1;rw[hgo,iT.old j Aa Aa,o5 j hj,iE.old j Aa Aa,o3 j hjl];exact hz
 . rw[hx]at hz;cases hz;have h6:=iT.old b.now Aa Aa;rw[x5]at h6;exact⟨_,h6,List.prefix_refl _⟩
 . have hF6:Fit b6 G P:=hF;have hnew:=hO.new;have hnow2:(b6.go (b.blocks.length+1)).now=b.blocks.length+1:=rfl;rw[hnow2,hgo]at hnew;have hPn:¬P b.now:=hO.cur (by rw[hnow2];omega);obtain⟨a2,k1,k2⟩:=iT.code G P hF6 (hnew _ (Nat.le_refl _) Aa Aa) (fun j h1 h2=>hnew j Aa h2 Aa);have hF4:Fit b4 G (fun j=>j=b.now\/(j=b.blocks.length\/P j)):=fun j y hy=>by
    have hjl:=(List.getElem?_eq_some_iff.1 hy).1
    by_cases e1:j=b.now
    . subst e1;rw[x4]at hy;cases hy;obtain⟨z,hz,hp,_⟩:=hF6 b.now _ (by rw[iT.old _ Aa Aa];exact x5);exact⟨z,hz,hp,fun hn=>absurd (.inl rfl) hn⟩
    . by_cases e2:j=b.blocks.length
      . subst e2;have:y=blk0:=by
         rw[iE.old _ Aa Aa,n0]at hy;exact(Option.some.inj hy).symm
        subst this;obtain⟨u,hu⟩:=Ah (l:=b6.blocks) (k:=b.blocks.length) Aa;exact ba
      . obtain⟨z,hz,hp,hq⟩:=hF6 j y (by rw[iT.old _ e2 Aa,o5 _ e1];exact hy);exact⟨z,hz,hp,fun hn=>hq fun h=>hn (.inr (.inr h))⟩
   obtain⟨a3,j1,j2⟩:=iE.code G _ hF4 (fun hn=>by
    rcases hn with hn|hn|hn
    . omega
    . omega
    . exact hnew _ Aa Aa Aa hn) (fun j h1 h2 hn=>by
    rcases hn with hn|hn|hn
    . omega
    . omega
    . exact hnew j Aa Aa Aa hn)
   obtain⟨z,hz,_,hq⟩:=hF6 b.now _ (by rw[iT.old _ Aa Aa];exact x5);have:=hq hPn;subst this;refine⟨b.blocks.length,b.blocks.length+1,b.blocks.length+2,a2,a3,⟨_,hz,(FF hx).symm,rfl,rfl,rfl,rfl⟩,k1,k2,⟨j1,j2⟩,?_⟩;show(b.blocks.length+1,Bd.il _)=(b.blocks.length+1,0);rw[FF (b:=b6.go (b.blocks.length+1)) (x:=blk0) n6];rfl
theorem S2{b:Bd}(h:Pl b){RC RT:List Block->BS->BS->Prop}{fC fT:Bd->Bd}(hC:∀b0,Pl b0->Codes RC b0 (fC b0))(hT:∀b0,Pl b0->Codes RT b0 (fT b0)):
 Codes (fun G a c=>∃(g t h:Nat) (a1 a2:BS),BD G a 1 0 g 0/\RC G (g,0) a1/\BD G a1 2 0 t h/\RT G (t,0) a2/\BD G a2 1 0 g 0/\c=(h,0)) b
  ((((fC (((b.opened.opened.opened).inside b.now b.blocks.length fun x=>x).go b.blocks.length)).fork 0 (b.blocks.length+1) (b.blocks.length+2)).inside (b.blocks.length+1) b.blocks.length fT).go (b.blocks.length+2)):=by
 obtain⟨x,hx,e3,ev,et,ee⟩:=h;have hlt:=(List.getElem?_eq_some_iff.1 hx).1;have l3:b.opened.opened.opened.blocks.length=b.blocks.length+3:=by rw[Aq,Aq,Aq]
 have o3:∀j,j<b.blocks.length->b.opened.opened.opened.blocks[j]?=b.blocks[j]?:=fun j hj=>by
  exact aI
 have n0:b.opened.opened.opened.blocks[b.blocks.length]?=some blk0:=by
  exact YG
 have n1:b.opened.opened.opened.blocks[b.blocks.length+1]?=some blk0:=by
  exact Wf
 have n2:b.opened.opened.opened.blocks[b.blocks.length+2]?=some blk0:=by
  exact Tu
 have eB:((b.opened.opened.opened).inside b.now b.blocks.length fun x=>x).go b.blocks.length=(b.opened.opened.opened.jump b.blocks.length).go b.blocks.length:=rfl;rw[eB];have hnow3:b.opened.opened.opened.now=b.now:=rfl;have xj:(b.opened.opened.opened.jump b.blocks.length).blocks[b.now]?=some {x with fin:=1,to:=(b.blocks.length:Int)}:=ZF (b:=b.opened.opened.opened) ((o3 _ hlt).trans hx);have oj:∀j,j≠b.now->(b.opened.opened.opened.jump b.blocks.length).blocks[j]?=b.opened.opened.opened.blocks[j]?:=fun j hj=>CP hj
 have lj:(b.opened.opened.opened.jump b.blocks.length).blocks.length=b.blocks.length+3:=(Cg _ _).trans l3;generalize b.opened.opened.opened.jump b.blocks.length=bj at xj oj lj|-;have j0:bj.blocks[b.blocks.length]?=some blk0:=by rw[oj _ Aa];exact n0
 have j1:bj.blocks[b.blocks.length+1]?=some blk0:=by rw[oj _ Aa];exact n1
 have j2:bj.blocks[b.blocks.length+2]?=some blk0:=by rw[oj _ Aa];exact n2
 have oj2:∀j,j≠b.now->j<b.blocks.length->bj.blocks[j]?=b.blocks[j]?:=fun j h1 h2=>by rw[oj j h1,o3 j h2]
 have cC:=hC (bj.go b.blocks.length) ⟨blk0,j0,rfl,rfl,rfl,rfl⟩;generalize fC (bj.go b.blocks.length)=bc at cC|-;obtain⟨y,hy,y3,yv,yt,ye⟩:=cC.pl;have lc:b.blocks.length+3<=bc.blocks.length:=by have:=cC.fr.len;have e:(bj.go b.blocks.length).blocks.length=bj.blocks.length:=rfl;omega
 have hcn:bc.now=b.blocks.length\/b.blocks.length+3<=bc.now:=by
  have:=cC.fr.now;have e:(bj.go b.blocks.length).blocks.length=bj.blocks.length:=rfl;rw[e,lj]at this;exact this
 have hcl:=(List.getElem?_eq_some_iff.1 hy).1;have oc:∀j,j≠b.blocks.length->j<b.blocks.length+3->bc.blocks[j]?=bj.blocks[j]?:=fun j h1 h2=>by
  obtain⟨z,hz⟩:=Ah (l:=bj.blocks) (k:=j) Aa;rw[hz];exact cC.fr.old j z h1 hz
 have yf:(bc.fork 0 (b.blocks.length+1) (b.blocks.length+2)).blocks[bc.now]?=some {y with fin:=2,v:=0,to:=((b.blocks.length+1:Nat):Int),els:=((b.blocks.length+2:Nat):Int)}:=Le hy;have of_:∀j,j≠bc.now->(bc.fork 0 (b.blocks.length+1) (b.blocks.length+2)).blocks[j]?=bc.blocks[j]?:=fun j hj=>CP hj
 have lf:(bc.fork 0 (b.blocks.length+1) (b.blocks.length+2)).blocks.length=bc.blocks.length:=Cg bc _;generalize bc.fork 0 (b.blocks.length+1) (b.blocks.length+2)=bf at yf of_ lf|-;have f1:bf.blocks[b.blocks.length+1]?=some blk0:=by rw[of_ _ Aa,oc _ Aa Aa];exact j1
 have f2:bf.blocks[b.blocks.length+2]?=some blk0:=by rw[of_ _ Aa,oc _ Aa Aa];exact j2
 have iT:=Fj (to:=b.blocks.length) f1 (hT (bf.go (b.blocks.length+1)) ⟨blk0,f1,rfl,rfl,rfl,rfl⟩);generalize bf.inside (b.blocks.length+1) b.blocks.length fT=b6 at iT|-;have hl6:=iT.len;have hgo:(b6.go (b.blocks.length+2)).blocks=b6.blocks:=rfl;have n6:b6.blocks[b.blocks.length+2]?=some blk0:=by rw[iT.old _ Aa Aa];exact f2
 have x6:b6.blocks[b.now]?=some {x with fin:=1,to:=(b.blocks.length:Int)}:=by rw[iT.old _ Aa Aa,of_ _ Aa,oc _ Aa Aa];exact xj
 refine⟨⟨by rw[hgo];omega,.inr (by show b.blocks.length<=b.blocks.length+2;omega),fun j z hj hz=>?_,fun z hz=>?_⟩,⟨blk0,n6,rfl,rfl,rfl,rfl⟩,fun G P hF hO=>?_⟩
 . have hjl:=(List.getElem?_eq_some_iff.1 hz).1;rw[hgo,iT.old j Aa Aa,of_ j Aa,oc j Aa Aa,oj2 j hj hjl];exact hz
 . rw[hx]at hz;cases hz;exact⟨_,x6,List.prefix_refl _⟩
 . have hF6:Fit b6 G P:=hF;have hnew:=hO.new;have hnow2:(b6.go (b.blocks.length+2)).now=b.blocks.length+2:=rfl;rw[hnow2,hgo]at hnew;have hPn:¬P b.now:=hO.cur (by rw[hnow2];omega);obtain⟨a2,k1,k2⟩:=iT.code G P hF6 (hnew _ Aa Aa Aa) (fun j h1 h2=>hnew j Aa h2 Aa);have hPc:¬P bc.now:=hnew _ Aa Aa Aa;have y6:b6.blocks[bc.now]?=some {y with fin:=2,v:=0,to:=((b.blocks.length+1:Nat):Int),els:=((b.blocks.length+2:Nat):Int)}:=by rw[iT.old _ Aa Aa];exact yf
   have hFc:Fit bc G (fun j=>j=bc.now\/(j=b.blocks.length+1\/P j)):=fun j u hu=>by
    have hjl:=(List.getElem?_eq_some_iff.1 hu).1
    by_cases e1:j=bc.now
    . subst e1;rw[hy]at hu;cases hu;obtain⟨z,hz,hp,_⟩:=hF6 bc.now _ y6;exact⟨z,hz,hp,fun hn=>absurd (.inl rfl) hn⟩
    . by_cases e2:j=b.blocks.length+1
      . subst e2;have:u=blk0:=by
         rw[oc _ Aa Aa,j1]at hu;exact(Option.some.inj hu).symm
        subst this;obtain⟨u,hu⟩:=Ah (l:=b6.blocks) (k:=b.blocks.length+1) Aa;exact ba
      . obtain⟨z,hz,hp,hq⟩:=hF6 j u (by rw[iT.old _ e2 Aa,of_ _ e1];exact hu);exact⟨z,hz,hp,fun hn=>hq fun h=>hn (.inr (.inr h))⟩
   have lgo:(bj.go b.blocks.length).blocks.length=b.blocks.length+3:=lj;have kc:=cC.code G _ hFc ⟨.inl rfl,fun j h1 h2 h3 hn=>by
    rw[lgo]at h1;rcases hn with hn|hn|hn
    . exact h3 hn
    . omega
    . exact hnew j Aa Aa Aa hn,fun hne hn=>by
    have hne2:bc.now≠b.blocks.length:=hne;have hn2:b.blocks.length=bc.now\/(b.blocks.length=b.blocks.length+1\/P b.blocks.length):=hn;rcases hn2 with hn|hn|hn
    . omega
    . omega
    . exact hnew _ (Nat.le_refl _) Aa Aa hn⟩
   have ilj:(bj.go b.blocks.length).il=0:=(FF (b:=bj.go b.blocks.length) (x:=blk0) j0).trans rfl;have epos:(bj.go b.blocks.length).pos=(b.blocks.length,0):=by show(b.blocks.length,Bd.il _)=_;rw[ilj]
   rw[epos]at kc;obtain⟨z,hz,_,hq⟩:=hF6 b.now _ x6;have:=hq hPn;subst this;obtain⟨z2,hz2,_,hq2⟩:=hF6 bc.now _ y6;have:=hq2 hPc;subst this;refine⟨b.blocks.length,b.blocks.length+1,b.blocks.length+2,bc.pos,a2,⟨_,hz,(FF hx).symm,rfl,ev,rfl,ee⟩,kc,⟨_,hz2,(FF hy).symm,rfl,rfl,rfl,rfl⟩,k1,k2,?_⟩;show(b.blocks.length+2,Bd.il _)=(b.blocks.length+2,0);rw[FF (b:=b6.go (b.blocks.length+2)) (x:=blk0) n6];rfl
section
variable {C : Core} {n : Nat} {w : Bool}
def PB(C:Core)(n:Nat)(w:Bool)(st:CS):Prop:=st.ok C n w->∀(b:Bd),Pl b->Codes (fun G a c=>st.code C w G a c) b (st.build C w b)
theorem B7:∀(l:List CS),(∀st∈l,PB C n w st)->CS.okL C n w l->∀(b:Bd),Pl b->Codes (fun G a c=>CS.codeL C w G l a c) b (CS.buildL C w l b)
 | [],_,_,b,hb=>by
  rw[CS.buildL];exact(Codes.refl hb).mono fun G a c h=>by rw[CS.codeL];exact h
 |st::l,hI,hok,b,hb=>by
  rw[CS.buildL];rw[CS.okL]at hok;have h1:=hI st (List.mem_cons.2 (.inl rfl)) hok.1 b hb;have h2:=B7 l (fun st he=>hI st (List.mem_cons.2 (.inr he))) hok.2 (st.build C w b) h1.pl;refine(h1.seq hb.lt h2).mono fun G a c h=>?_
  rw[CS.codeL];exact h
theorem Dj{l:List CE}(hok:CE.okL C n l)(d:Nat)(b:Bd)(hb:Pl b):Codes (fun G a c=>CE.codeL C G l d a c) b (CE.buildL C l d b):=
 I2 l (fun e _=>B2 e.parts e (Nat.le_refl _)) hok d b hb
theorem CF:∀(m:Nat) (st:CS),st.parts<=m->PB C n w st
 |0,st,h=>by cases st;rw[CS.parts]at h;omega
 |m+1,st,hm=>by
  cases st with
  |mk k s z es thn els=>
  rw[CS.parts]at hm;have hT:∀st∈thn,PB C n w st:=fun st hs=>CF m st Us
  have hL:∀st∈els,PB C n w st:=fun st hs=>CF m st Us
  intro hok b hb;rw[CS.ok]at hok;obtain⟨hes,hthn,hels,hk⟩:=hok;have hE:=Dj hes 0 b hb;rcases hk with⟨rfl,h1,s0,s1⟩|⟨rfl,h2,z1,z2,s0,s1⟩|⟨rfl,h1⟩|⟨rfl,h1⟩|⟨rfl,h1⟩|⟨rfl,s0,s1,fn,hfn,hwd,hpar,h6⟩|⟨rfl,h1⟩
  . rw[CS.build,if_pos rfl];exact(hE.seq hb.lt (AO hE.pl _)).mono fun G a c h=>by rw[CS.code,if_pos rfl];exact h
  . rw[CS.build,if_neg Ab,if_pos rfl];exact(hE.seq hb.lt (AO hE.pl _)).mono fun G a c h=>by rw[CS.code,if_neg Ab,if_pos rfl];exact h
  . rw[CS.build,if_neg Ab,if_neg Ab,if_pos rfl];exact(hE.seq hb.lt (AO hE.pl _)).mono fun G a c h=>by rw[CS.code,if_neg Ab,if_neg Ab,if_pos rfl];exact h
  . rw[CS.build,if_neg Ab,if_neg Ab,if_neg Ab,if_neg Ab,if_neg Ab,if_pos rfl];dsimp only;have fT:∀b0,Pl b0->Codes (fun G a c=>CS.codeL C w G thn a c) b0 (CS.buildL C w thn b0):=fun b0 h0=>B7 thn hT hthn b0 h0
    have fE:∀b0,Pl b0->Codes (fun G a c=>CS.codeL C w G els a c) b0 (CS.buildL C w els b0):=fun b0 h0=>B7 els hL hels b0 h0
    by_cases he:els=[]
    . rw[if_pos he];have h2:=HN (k:=8) (d:=0) hE.pl fT;refine(hE.seq hb.lt h2).mono fun G a c h=>?_
      rw[CS.code,if_neg Ab,if_neg Ab,if_neg Ab,if_neg Ab,if_neg Ab,if_pos rfl];obtain⟨a1,i1,r,h,a2,i2,i3,i4,i5⟩:=h;rw[if_pos rfl]at i2;exact⟨a1,r,h,h,a2,a2,i1,i2,i3,i4,by rw[if_pos he],i5⟩
    . rw[if_neg he];have h2:=Pp hE.pl fT fE;refine(hE.seq hb.lt h2).mono fun G a c h=>?_
      rw[CS.code,if_neg Ab,if_neg Ab,if_neg Ab,if_neg Ab,if_neg Ab,if_pos rfl];obtain⟨a1,i1,t,h,o,a2,a3,i2,i3,i4,i5,i6⟩:=h;exact⟨a1,t,h,o,a2,a3,i1,i2,i3,i4,by rw[if_neg he];exact i5,i6⟩
  . rw[CS.build,if_neg Ab,if_neg Ab,if_neg Ab,if_neg Ab,if_neg Ab,if_neg Ab,if_pos rfl];dsimp only;have h2:=S2 hb (fun b0 h0=>Dj hes 0 b0 h0) (fun b0 h0=>B7 thn hT hthn b0 h0);refine h2.mono fun G a c h=>?_
    rw[CS.code,if_neg Ab,if_neg Ab,if_neg Ab,if_neg Ab,if_neg Ab,if_neg Ab,if_pos rfl];exact h
  . rw[CS.build,if_neg Ab,if_neg Ab,if_neg Ab,if_pos rfl];refine(hE.seq hb.lt (Ha hE.pl C s es.length 0)).mono fun G a c h=>?_
    rw[CS.code,if_neg Ab,if_neg Ab,if_neg Ab,if_pos rfl];exact h
  . rw[CS.build,if_neg Ab,if_neg Ab,if_neg Ab,if_neg Ab,if_pos rfl]
    by_cases he:es=[]
    . rw[if_pos he];have h2:=KP hb C w;refine(h2.seq hb.lt (MN h2.pl)).mono fun G a c h=>?_
      rw[CS.code,if_neg Ab,if_neg Ab,if_neg Ab,if_neg Ab,if_pos rfl,if_pos he];obtain⟨m,i1,i2⟩:=h;exact QU i1 i2
    . rw[if_neg he];have h2:=AO hE.pl (AL C.words 0);refine(hE.seq hb.lt (h2.seq hE.pl.lt (MN h2.pl))).mono fun G a c h=>?_
      rw[CS.code,if_neg Ab,if_neg Ab,if_neg Ab,if_neg Ab,if_pos rfl,if_neg he];obtain⟨a1,i1,a2,⟨i2,rfl⟩,i3⟩:=h;exact⟨a1,i1,i2,i3⟩
theorem KO{b:Bd}(h:Pl b)(first:Int):∀n:Nat,Codes (fun G a c=>Uf G a first n c) b (b.zeros first n)
 |0=>(Codes.refl h).mono fun G a c hm=>⟨fun i hi=>absurd hi Aa,hm⟩
 |n+1=>by
  have ih:=KO h first n
  have h2:=AO ih.pl (AL (first+n) 0);exact cx
theorem ID{b:Bd}(h:Pl b)(first z:Int):∀n:Nat,Codes (fun G a c=>(∀i,i<n->InsAt G (a.1,a.2+i) (BN 1 0 (first+i) z))/\c=(a.1,a.2+n)) b (b.astores first z n)
 |0=>(Codes.refl h).mono fun G a c hm=>⟨fun i hi=>absurd hi Aa,hm⟩
 |n+1=>by
  have ih:=ID h first z n
  have h2:=AO ih.pl (BN 1 0 (first+n) z);exact cx
theorem KQ{b:Bd}(h:Pl b)(first:Int)(n:Nat):Codes (fun G a c=>PF G a first n c) b (b.chunk first n):=by
 have p1:=AO h (AY 1 0);have p2:=AO p1.pl (AY 2 8);have p3:=AO p2.pl (AY 3 n);have p4:=HO p3.pl (g:=fun x=>{x with fin:=1,to:=((b.chunk1 n).blocks.length:Int)}) (fin:=1) (v:=0) (to:=((b.chunk1 n).blocks.length:Int)) (els:=0) (fun x h1 h2 h3 h4=>⟨rfl,rfl,h2,rfl,h4⟩);have p5:=ID p4.pl first (n-7) 8
 have p6:=AO p5.pl (AP 4 1 1 2);have p7:=AO p6.pl (AP 14 4 1 3);have p8:=HO p7.pl (g:=fun x=>{x with fin:=2,v:=((4:Nat):Int),to:=((b.chunk1 n).blocks.length:Int),els:=((((((b.chunk1 n).chunk2.astores first (n-7) 8).put (AP 4 1 1 2)).put (AP 14 4 1 3)).blocks.length:Nat):Int)}) (fin:=2) (v:=((4:Nat):Int)) (to:=((b.chunk1 n).blocks.length:Int)) (els:=((((((b.chunk1 n).chunk2.astores first (n-7) 8).put (AP 4 1 1 2)).put (AP 14 4 1 3)).blocks.length:Nat):Int)) (fun x h1 h2 h3 h4=>⟨rfl,rfl,rfl,rfl,rfl⟩);have q:=p1.seq h.lt (p2.seq p1.pl.lt (p3.seq p2.pl.lt (p4.seq p3.pl.lt (p5.seq p4.pl.lt (p6.seq p5.pl.lt (p7.seq p6.pl.lt p8))))));refine Codes.mono (b:=b) (b':=b.chunk first n) q fun G a c hm=>?_
 obtain⟨m1,⟨i1,rfl⟩,m2,⟨i2,rfl⟩,m3,⟨i3,rfl⟩,m4,⟨i4,rfl⟩,m5,⟨i5,rfl⟩,m6,⟨i6,rfl⟩,m7,⟨i7,rfl⟩,i8,rfl⟩:=hm;exact⟨i1,i2,i3,_,_,i4,fun k hk=>by have:=i5 k hk;rw[Nat.zero_add]at this;exact this,i6,i7,i8,rfl⟩
theorem IC:∀(g:Nat) {b:Bd} (h:Pl b) (first:Int) (n:Nat),Codes (fun G a c=>Fa G g a first n c) b (Bm g b first n)
 |0,b,h,first,n=>by
  rw[Bm];exact(Codes.refl h).mono fun G a c e=>by rw[Fa];exact e
 |g+1,b,h,first,n=>by
  rw[Bm]
  by_cases hn:64<n
  . rw[if_pos hn];have h1:=KQ h first (chunkN n)
    exact(h1.seq h.lt (IC g h1.pl _ _)).mono fun G a c e=>by rw[Fa,if_pos hn];exact e
  . rw[if_neg hn];exact(KO h first n).mono fun G a c e=>by rw[Fa,if_neg hn];exact e
theorem G9{b:Bd}(h:Pl b)(first:Int)(n:Nat):Codes (fun G a c=>FR G a first n c) b (b.nought first n):=by
 unfold Bd.nought
 by_cases hn:n=0
 . rw[if_pos hn];exact(Codes.refl h).mono fun G a c e=>by unfold FR;rw[if_pos hn];exact e
 . rw[if_neg hn];have h1:=AO h (AY 0 0);refine(h1.seq h.lt (IC n h1.pl first n)).mono fun G a c e=>?_
   unfold FR;rw[if_neg hn];obtain⟨m,⟨i1,rfl⟩,i2⟩:=e;exact⟨i1,i2⟩
end
def bd0:Bd:=⟨0,[blk0],0⟩
def I0(C:Core)(fn:CFn)(last:Bool):Bd:=(CS.buildL C fn.word fn.body (bif last then bd0 else bd0.nought (fn.first+fn.params) (fn.slots-fn.params).toNat)).leave C fn.word
def CL(C:Core)(fn:CFn)(last:Bool):BFunc:=⟨(I0 C fn last).regs,(I0 C fn last).blocks⟩
def Core.m(C:Core):Int:=if C.funcs.any CFn.word then C.words+1 else C.words
def Core.build(C:Core):Blocks:=⟨C.m,C.funcs.zipIdx.map fun p=>CL C p.1 (p.2+1==C.funcs.length)⟩
theorem pl0:Pl bd0:=⟨blk0,rfl,rfl,rfl,rfl,rfl⟩
theorem Re{C:Core}{n:Nat}{fn:CFn}(hok:CS.okL C n fn.word fn.body)(last:Bool):Pl (I0 C fn last)/\ko C (I0 C fn last).blocks fn last:=by
 have h1:Codes (fun G a c=>if last=true then c=a else FR G a (fn.first+fn.params) (fn.slots-fn.params).toNat c) bd0 (bif last then bd0 else bd0.nought (fn.first+fn.params) (fn.slots-fn.params).toNat):=by
  cases last with
  |true=>exact(Codes.refl pl0).mono fun G a c e=>by rw[if_pos rfl];exact e
  |false=>exact(G9 pl0 _ _).mono fun G a c e=>by rw[if_neg Ab];exact e
 have h2:=B7 (C:=C) (n:=n) (w:=fn.word) fn.body (fun st _=>CF st.parts st (Nat.le_refl _)) hok _ h1.pl;have h3:=KP h2.pl C fn.word;have q:=h1.seq pl0.lt (h2.seq h1.pl.lt h3);refine⟨h3.pl,?_⟩;have hpl:Pl (I0 C fn last):=h3.pl;obtain⟨x,hx,e3,ev,et,ee⟩:=hpl;have hc:=q.code (I0 C fn last).blocks (fun j=>j=(I0 C fn last).now) (fun j y hy=>⟨y,hy,List.prefix_refl _,fun _=>rfl⟩) ⟨rfl,fun j _ _ h=>h,fun h e=>h e.symm⟩;obtain⟨a1,i1,a2,i2,i3⟩:=hc;have hp:bd0.pos=(0,0):=rfl;rw[hp]at i1;refine⟨a1,a2,?_,i2,QU i3 ⟨x,hx,(FF hx).symm,e3,ev,et,ee⟩⟩
 cases last with
 |true=>rw[if_pos rfl]at i1|-;exact i1
 |false=>rw[if_neg Ab]at i1|-;exact i1
theorem Cs{t:Tac}{i regs M:Int}(ho:(decide (1<=t.op)&&decide (t.op<=10))=true)(hd:setsOp t.op=true->0<=t.d/\t.d<regs)(hu:∀u∈t.uses,0<=u/\u<regs)(hr:t.rest i M=true)(hs:t=t.want):t.fits i regs M=true:=by
 unfold Tac.fits;rw[Bool.and_eq_true]at ho;rw[ho.1,ho.2,hr,(Py t t.want).2 hs];have h1:(!setsOp t.op||A4 t.d regs)=true:=by
  cases e:setsOp t.op with
  |false=>rfl
  |true=>
   have:=hd e;simp[A4,this.1,this.2]
 have h2:(t.uses.all fun r=>A4 r regs)=true:=List.all_eq_true.2 fun u hu'=>by
  have:=hu u hu';simp[A4,this.1,this.2]
 rw[h1,h2];rfl
theorem Ol{t:Tac}{i regs regs' M:Int}(h:t.fits i regs M=true)(hr:regs<=regs'):t.fits i regs' M=true:=by
 simp only[Tac.fits,Bool.and_eq_true,Bool.or_eq_true,Bool.not_eq_true',List.all_eq_true,A4,decide_eq_true_eq]at h|-;obtain⟨h1,h2,h3,h4,h5⟩:=h;refine⟨h1,h2,h3.imp id fun h=>⟨h.1,by omega⟩,fun u hu=>⟨(h4 u hu).1,by have:=(h4 u hu).2;omega⟩,h5⟩
theorem Kc{x:Block}{n n' r r':Int}(h:x.ends n r=true)(hn:n<=n')(hr:r<=r'):x.ends n' r'=true:=by
 unfold Block.ends at h|-
 cases e1:x.fin==1 with
 |true=>
  rw[e1]at h;simp only[cond_true,Bool.and_eq_true,A4,decide_eq_true_eq]at h|-;exact⟨⟨h.1.1,by omega⟩,h.2⟩
 |false=>
  cases e2:x.fin==2 with
  |true=>
   rw[e1,e2]at h;simp only[cond_true,cond_false,Bool.and_eq_true,A4,decide_eq_true_eq]at h|-;exact⟨⟨h.1.1,by omega⟩,⟨h.2.1.1,by omega⟩,h.2.2.1,by omega⟩
  |false=>
   rw[e1,e2]at h;simpa using h
structure EQ(i M:Int)(b:Bd):Prop where
  r0:0<=b.regs
  ins:∀x∈b.blocks,∀t∈x.ins,t.fits i b.regs M=true
  ends:∀x∈b.blocks,x.ends b.blocks.length b.regs=true
structure Res(i M lo hi:Int)(b b':Bd):Prop where
  inv:EQ i M b'
  regs:b.regs<=b'.regs
  lo:lo<=b'.regs
  hi:b'.regs<=max b.regs hi
  len:b.blocks.length<=b'.blocks.length
section
variable {i M : Int} {C : Core} {n : Nat}
theorem Ev{b:Bd}{g:Block->Block}{y:Block}(h:y∈(b.upd g).blocks):(∃x,b.blocks[b.now]?=some x/\y=g x)\/y∈b.blocks:=by
 obtain⟨j,hj⟩:=List.mem_iff_getElem?.1 h
 by_cases e:j=b.now
 . subst e;have hl:=(List.getElem?_eq_some_iff.1 hj).1;rw[Cg]at hl;obtain⟨x,hx⟩:=Ah hl;rw[JQ hx]at hj;exact .inl ⟨x,hx,(Option.some.inj hj).symm⟩
 . rw[CP e]at hj;exact .inr (List.mem_of_getElem? hj)
theorem DJ{b:Bd}{t:Tac}(h:EQ i M b)(hd:0<=t.d)(ht:t.fits i (max b.regs (t.d+1)) M=true):Res i M (t.d+1) (t.d+1) b (b.put t):=by
 have hr:(b.put t).regs=max b.regs (t.d+1):=rfl;have hl:(b.put t).blocks.length=b.blocks.length:=Cg b _;have hb:=h.r0;refine⟨⟨by rw[hr];omega,fun y hy u hu=>?_,fun y hy=>?_⟩,by rw[hr];omega,by rw[hr];omega,by rw[hr];omega,by rw[hl];exact Nat.le_refl _⟩
 . rw[hr];rcases Ev (b:=b) hy with⟨x,hx,rfl⟩|hy
   . rcases List.mem_append.1 (show u∈x.ins++[t]from hu)with hu|hu
     . exact Ol (h.ins x (List.mem_of_getElem? hx) u hu) Aa
     . rw[List.mem_singleton.1 hu];exact ht
   . exact Ol (h.ins y hy u hu) Aa
 . rw[hr,hl];rcases Ev (b:=b) hy with⟨x,hx,rfl⟩|hy
   . exact Kc (x:=x) (h.ends x (List.mem_of_getElem? hx)) Aa Aa
   . exact Kc (h.ends y hy) Aa Aa
theorem Cq{b:Bd}(h:EQ i M b):EQ i M b.opened:=by
 refine⟨h.r0,fun y hy u hu=>?_,fun y hy=>?_⟩
 . rcases List.mem_append.1 (show y∈b.blocks++[blk0]from hy)with hy|hy
   . exact h.ins y hy u hu
   . rw[List.mem_singleton.1 hy]at hu;cases hu
 . rw[Aq];rcases List.mem_append.1 (show y∈b.blocks++[blk0]from hy)with hy|hy
   . exact Kc (h.ends y hy) Aa (Int.le_refl _)
   . rw[List.mem_singleton.1 hy];rfl
theorem T0{b:Bd}{g:Block->Block}(h:EQ i M b)(hi:∀x,b.blocks[b.now]?=some x->(g x).ins=x.ins)(he:∀x,b.blocks[b.now]?=some x->(g x).ends b.blocks.length b.regs=true):EQ i M (b.upd g):=by
 refine⟨h.r0,fun y hy u hu=>?_,fun y hy=>?_⟩
 . rcases Ev hy with⟨x,hx,rfl⟩|hy
   . rw[hi x hx]at hu;exact h.ins x (List.mem_of_getElem? hx) u hu
   . exact h.ins y hy u hu
 . rw[Cg];rcases Ev hy with⟨x,hx,rfl⟩|hy
   . exact he x hx
   . exact h.ends y hy
theorem Mt{b:Bd}(h:EQ i M b)(hp:Pl b){to:Nat}(ht:to<b.blocks.length):EQ i M (b.jump to):=by
 obtain⟨x0,hx0,e3,ev,et,ee⟩:=hp;refine T0 h (fun x hx=>rfl) fun x hx=>?_
 rw[hx0]at hx;cases hx;unfold Block.ends;simp only[show((1:Int)==1)=true from rfl,cond_true,ev,ee,A4]
 simp;omega
theorem HI{b:Bd}(h:EQ i M b){v to els:Nat}(hv:(v:Int)<b.regs)(ht:to<b.blocks.length)(he:els<b.blocks.length):EQ i M (b.fork v to els):=by
 refine T0 h (fun x hx=>rfl) fun x hx=>?_
 unfold Block.ends;simp only[show((2:Int)==1)=false from rfl,show((2:Int)==2)=true from rfl,cond_true,cond_false,A4]
 simp;omega
theorem FD{b:Bd}(h:EQ i M b)(k:Nat):EQ i M (b.go k):=⟨h.r0,h.ins,h.ends⟩
theorem Res.refl{b:Bd}(h:EQ i M b){lo hi:Int}(hl:lo<=b.regs):Res i M lo hi b b:=⟨h,Int.le_refl _,hl,by omega,Nat.le_refl _⟩
theorem Res.trans{lo1 hi1 lo2 hi2 lo hi:Int}{b b1 b2:Bd}(h1:Res i M lo1 hi1 b b1)(h2:Res i M lo2 hi2 b1 b2)(hl:lo<=b2.regs)(h:hi1<=hi)(h':hi2<=hi):Res i M lo hi b b2:=by
 have a1:=h1.regs;have a2:=h2.regs;have a3:=h1.hi;have a4:=h2.hi;exact⟨h2.inv,by omega,hl,by omega,Nat.le_trans h1.len h2.len⟩
theorem TJ{b:Bd}(h:EQ i M b)(d:Nat)(hd:(d:Int)<b.regs):Res i M (d+1) (d+2) b (b.not d):=by
 have r1:=DJ (t:=AY (d+1) 0) h (by show(0:Int)<=((d+1:Nat):Int);omega) (Cs rfl (fun _=>by show(0:Int)<=((d+1:Nat):Int)/\((d+1:Nat):Int)<max b.regs (((d+1:Nat):Int)+1);omega) It rfl rfl);have l1:=r1.lo;have l1':((d+1:Nat):Int)+1<=(b.put (AY (d+1) 0)).regs:=l1;have r2:=DJ (t:=AP 15 d d (d+1)) r1.inv YU (Cs rfl Ni (fun u hu=>by
  have hu2:u=(d:Int)\/u=((d+1:Nat):Int):=by
   have:u∈[(d:Int),((d+1:Nat):Int)]:=hu;simpa using this
  show 0<=u/\u<max _ ((d:Int)+1);omega) rfl rfl)
 have l2:=r2.lo;exact r1.trans r2 (by have:(d:Int)+1<=_:=l2;exact this) (by show((d+1:Nat):Int)+1<=(d:Int)+2;omega) (by show(d:Int)+1<=(d:Int)+2;omega)
theorem TL{b:Bd}(h:EQ i M b){op:Int}(d:Nat)(ho:4<=op/\op<=15)(hd:(d:Int)+1<b.regs):Res i M (d+1) (d+1) b (b.put (AP op d d (d+1))):=
 DJ (t:=AP op d d (d+1)) h YU (Cs rfl Ni (fun u hu=>by
  have hu2:u=(d:Int)\/u=((d+1:Nat):Int):=by
   have:u∈[(d:Int),((d+1:Nat):Int)]:=hu;simpa using this
  show 0<=u/\u<max _ ((d:Int)+1);omega) (by
  show(decide (4<=op)&&decide (op<=15))=true;rw[decide_eq_true ho.1,decide_eq_true ho.2];rfl) rfl)
theorem Xk{b:Bd}(d:Nat)(h:(d:Int)<b.regs):(d:Int)+1<(b.not d).regs:=by
 show(d:Int)+1<max (max b.regs (((d+1:Nat):Int)+1)) ((d:Int)+1);omega
theorem NN{b:Bd}(h:EQ i M b)(e:CE)(d:Nat)(hd:(d:Int)<b.regs):Res i M (d+1) (d+2) b (b.truth e d):=by
 unfold Bd.truth
 cases e.flagged with
 |true=>simp only[cond_true];exact Res.refl h Aa
 |false=>
  simp only[cond_false];have r1:=TJ h d hd;have r2:=TL (op:=15) r1.inv d ⟨by decide,by decide⟩ (Xk d hd);exact r1.trans r2 r2.lo (Int.le_refl _) Aa
theorem Gq{b:Bd}(h:EQ i M b){w:Int}{a:Nat}(hw:0<=w/\w<M)(ha:(a:Int)<b.regs):Res i M 0 1 b (b.put (AL w a)):=by
 have:=DJ (t:=AL w a) h PW (Cs rfl No (fun u hu=>by
  have hu2:u=(a:Int):=by
   have:u∈[(a:Int)]:=hu;simpa using this
  show 0<=u/\u<max _ ((0:Int)+1);omega) (by
  show A4 w M=true;simp[A4,hw.1,hw.2]) rfl)
 exact⟨this.inv,this.regs,by have:=this.inv.r0;exact this,this.hi,this.len⟩
theorem Qm{b:Bd}(h:EQ i M b){first:Int}(d:Nat):∀(n:Nat),0<=first->first+n<=M->(d+n:Nat)<=b.regs->Res i M 0 1 b (b.args first d n)
 |0,_,_,_=>Res.refl h h.r0
 |n+1,h0,h1,h2=>by
  have ih:=Qm h d n h0 Aa Aa;have hr:=ih.regs;have r2:=Gq (w:=first+n) (a:=d+n) ih.inv ⟨by omega,by omega⟩ Aa;exact ih.trans r2 r2.lo (Int.le_refl _) (Int.le_refl _)
theorem LR{b:Bd}(h:EQ i M b){g:Int}{k d:Nat}(hg:0<=g/\g<i)(h0:0<=C.first g)(h1:C.first g+k<=M)(h2:(d+k:Nat)<=b.regs):Res i M 0 1 b (b.called C g k d):=by
 have r1:=Qm h d k h0 h1 h2;have r2:=DJ (t:=E1 g) r1.inv PW (Cs rfl No It (by
  show A4 g i=true;simp[A4,hg.1,hg.2]) rfl)
 exact r1.trans r2 r2.inv.r0 (Int.le_refl _) (by show(0:Int)+1<=1;omega)
theorem GP{b:Bd}{k to:Nat}{f:Bd->Bd}{hi:Int}(hb:EQ i M b)(hf:Res i M 0 hi (b.go k) (f (b.go k)))(hp:Pl (f (b.go k)))(ht:to<b.blocks.length):Res i M 0 hi b (b.inside k to f):=by
 have hl:=hf.len;have hr:=hf.regs;have h2:=hf.hi;have hgl:(b.go k).blocks.length=b.blocks.length:=rfl;have hgr:(b.go k).regs=b.regs:=rfl;have:=Mt hf.inv hp (to:=to) Aa;have hll:((f (b.go k)).jump to).blocks.length=(f (b.go k)).blocks.length:=Cg _ _;exact⟨FD this _,hr,hf.inv.r0,h2,by show _<=((f (b.go k)).jump to).blocks.length;omega⟩
structure Rx(C:Core)(n:Nat)(M:Int):Prop where
  w0:0<=C.words
  wm:C.words<=M
  told:∀fn∈C.funcs,fn.word=true->C.words<M
  fn:∀(g:Nat) (fn:CFn),C.funcs[g]?=some fn->0<=fn.first/\fn.first+fn.params<=C.words
theorem res_right{b:Bd}(h:EQ i M b)(hp:Pl b){k:Int}{d:Nat}{hi:Int}(hd:(d:Int)<b.regs)(hhi:(d:Int)+1<=hi){f:Bd->Bd}(hf:∀b0,Pl b0->EQ i M b0->b.regs<=b0.regs->Res i M 0 hi b0 (f b0)/\Pl (f b0)):
 Res i M (d+1) hi b (((b.either0 k d).inside b.blocks.length (b.blocks.length+1) f).go (b.blocks.length+1)):=by
 have i2:=Cq (Cq h);have l2:b.opened.opened.blocks.length=b.blocks.length+2:=by rw[Aq,Aq]
 have hb1:EQ i M (b.either0 k d):=by
  unfold Bd.either0
  cases k==8
  . exact HI i2 (v:=d) hd Aa Aa
  . exact HI i2 (v:=d) hd Aa Aa
 have l1:(b.either0 k d).blocks.length=b.blocks.length+2:=by
  unfold Bd.either0
  cases k==8
  . exact(Cg b.opened.opened _).trans l2
  . exact(Cg b.opened.opened _).trans l2
 have hr1:(b.either0 k d).regs=b.regs:=by unfold Bd.either0;cases k==8<;>rfl
 have hlt:=hp.lt;have n1:(b.either0 k d).blocks[b.blocks.length]?=some blk0:=by
  have e:b.opened.opened.blocks[b.blocks.length]?=some blk0:=(AF EZ).trans (C7 b);unfold Bd.either0
  cases k==8
  . exact(CP (b:=b.opened.opened) PR).trans e
  . exact(CP (b:=b.opened.opened) PR).trans e
 obtain⟨f1,f2⟩:=hf ((b.either0 k d).go b.blocks.length) ⟨blk0,n1,rfl,rfl,rfl,rfl⟩ (FD hb1 _) (by show b.regs<=(b.either0 k d).regs;omega);have r:=GP hb1 f1 f2 (to:=b.blocks.length+1) Aa;have a1:=r.regs;have a2:=r.hi;have a3:=r.len;exact⟨FD r.inv _,by show b.regs<=_;exact(show b.regs<=((b.either0 k d).inside b.blocks.length (b.blocks.length+1) f).regs from by omega),by show(d:Int)+1<=((b.either0 k d).inside b.blocks.length (b.blocks.length+1) f).regs;omega,by show((b.either0 k d).inside b.blocks.length (b.blocks.length+1) f).regs<=_;omega,by show b.blocks.length<=((b.either0 k d).inside b.blocks.length (b.blocks.length+1) f).blocks.length;omega⟩
def eO(C:Core)(n:Nat)(M:Int)(e:CE):Prop:=e.ok C n->∀(d:Nat) (b:Bd),Pl b->EQ n M b->Res n M (d+1) (d+e.parts+1) b (e.build C d b)
theorem LQ:∀(l:List CE),(∀e∈l,eO C n M e)->CE.okL C n l->∀(d:Nat) (b:Bd),Pl b->EQ n M b->Res n M (if l=[]then 0 else d+l.length) (d+CE.partsL l+1) b (CE.buildL C l d b)
 | [],_,_,d,b,hp,hb=>by
  rw[CE.buildL,if_pos rfl];exact Res.refl hb hb.r0
 |e::l,hI,hok,d,b,hp,hb=>by
  rw[CE.buildL,if_neg At];rw[CE.okL]at hok;rw[CE.partsL];have r1:=hI e (List.mem_cons.2 (.inl rfl)) hok.1 d b hp hb;have p1:=(B2 e.parts e (Nat.le_refl _) hok.1 d b hp).pl;have r2:=LQ l (fun e he=>hI e (List.mem_cons.2 (.inr he))) hok.2 (d+1) (e.build C d b) p1 r1.inv;have a1:=r1.lo;have a2:=r2.regs;have a3:=r2.lo;refine r1.trans r2 ?_ Aa ?_
  . rw[List.length_cons]
    by_cases hl:l=[]
    . subst hl;simp at a2|-;omega
    . rw[if_neg hl]at a3;omega
  . have:∀e:CE,1<=e.parts:=fun e=>by cases e;rw[CE.parts];omega
    have:=this e;omega
theorem Qk(hN:Rx C n M):∀(m:Nat) (e:CE),e.parts<=m->eO C n M e
 |0,e,h=>by cases e;rw[CE.parts]at h;omega
 |m+1,e,hm=>by
  cases e with
  |mk k o num sl z kids=>
  rw[CE.parts]at hm;have hI:∀e∈kids,eO C n M e:=fun e he=>Qk hN m e RJ
  intro hok d b hp hb;rw[CE.ok]at hok;rw[CE.parts];obtain⟨hkids,hk⟩:=hok;have w0:=hN.w0;have wm:=hN.wm;have hL:=LQ kids hI hkids d b hp hb;have pL:=(Dj hkids d b hp).pl;have hone:∀(b:Bd) (t:Tac),EQ n M b->t.d=(d:Int)->t.fits n (max b.regs (t.d+1)) M=true->Res n M (d+1) (d+1) b (b.put t):=fun b t h1 h2 h3=>by
   have:=DJ h1 Aa h3;rw[h2]at this;exact this
  rcases hk with⟨rfl,hw⟩|⟨rfl,h0,h1⟩|⟨rfl,h1,z1,z2,s0,s1⟩|⟨rfl,s0,s1,fn,hfn,hwd,hpar,h6⟩|rfl|⟨rfl,h2,o1,o2⟩|⟨rfl,h1⟩|⟨rfl,h2⟩|⟨rfl,h2⟩
  . rw[CE.build,if_pos rfl];have r:=hone b (AY d num) hb rfl (Cs rfl Ni It rfl rfl);exact V9
  . rw[CE.build,if_neg Ab,if_pos rfl];have r:=hone b (Dx d sl) hb rfl (Cs rfl Ni It (by show A4 sl M=true;simp[A4,h0];omega) rfl);exact V9
  . rw[CE.build,if_neg Ab,if_neg Ab,if_pos rfl];obtain⟨e,rfl⟩:=Dd h1;have a1:=hL.lo;rw[if_neg At]at a1;have r:=hone _ (GZ d d sl z) hL.inv rfl (Cs rfl Ni (fun u hu=>by
     have hu2:u=(d:Int):=by
      have:u∈[(d:Int)]:=hu;simpa using this
     show 0<=u/\u<max _ ((d:Int)+1);omega) (by
     show(decide (1<=z)&&(decide (z<=4096)&&(decide (0<=sl)&&decide (sl<=M-z))))=true;rw[decide_eq_true z1,decide_eq_true z2,decide_eq_true s0,decide_eq_true Aa];rfl) rfl)
    exact hL.trans r r.lo Aa Aa
  . rw[CE.build,if_neg Ab,if_neg Ab,if_neg Ab,if_pos rfl];have a1:=hL.lo;have f1:=hN.fn sl.toNat fn hfn;have ef:C.first sl=fn.first:=JF hfn
    have htold:=hN.told fn (List.mem_of_getElem? hfn) hwd;have hlen:(d+kids.length:Nat)<=(CE.buildL C kids d b).regs\/kids.length=0:=by
     by_cases hkn:kids=[]
     . subst hkn;exact .inr rfl
     . rw[if_neg hkn]at a1;left;omega
    have hb0:=hL.inv.r0
    by_cases hz:kids.length=0
    . have hk0:kids=[]:=List.length_eq_zero_iff.1 hz;subst hk0;have r2:Res n M 0 1 (CE.buildL C [] d b) ((CE.buildL C [] d b).called C sl 0 d):=by
       have r3:=DJ (t:=E1 sl) hL.inv PW (Cs rfl No It (by
        show A4 sl n=true;simp[A4,s0,s1]) rfl)
       exact⟨r3.inv,r3.regs,r3.inv.r0,by have:=r3.hi;exact this,r3.len⟩
      have r:=hone _ (Dx d C.words) r2.inv rfl (Cs rfl Ni It (by show A4 C.words M=true;simp[A4,w0,htold]) rfl);exact(hL.trans r2 r2.lo (hi:=d+1+1) (by rw[CE.partsL];omega) Aa).trans r r.lo (by rw[CE.partsL];omega) Aa
    . have h3:=hlen.resolve_right hz;have r2:=LR (C:=C) (g:=sl) (k:=kids.length) (d:=d) hL.inv ⟨s0,s1⟩ (by rw[ef];exact f1.1) (by rw[ef];omega) h3;have r:=hone _ (Dx d C.words) r2.inv rfl (Cs rfl Ni It (by show A4 C.words M=true;simp[A4,w0,htold]) rfl);exact(hL.trans r2 r2.lo (hi:=d+CE.partsL kids+1) Aa Aa).trans r r.lo Aa Aa
  . rw[CE.build,if_neg Ab,if_neg Ab,if_neg Ab,if_neg Ab,if_pos rfl];have r:=hone b (Mv d) hb rfl (Cs rfl Ni It rfl rfl);exact V9
  . rw[CE.build,if_neg Ab,if_neg Ab,if_neg Ab,if_neg Ab,if_neg Ab,if_pos rfl];obtain⟨e1,e2,rfl⟩:=FY h2;have a1:=hL.lo;rw[if_neg At]at a1;have a2:(d:Int)+2<=(CE.buildL C [e1,e2] d b).regs:=a1;have r:=TL (op:=o) hL.inv d ⟨o1,o2⟩ Aa;exact hL.trans r r.lo Aa Aa
  . rw[CE.build,if_neg Ab,if_neg Ab,if_neg Ab,if_neg Ab,if_neg Ab,if_neg Ab,if_pos rfl];obtain⟨e,rfl⟩:=Dd h1;have a1:=hL.lo;rw[if_neg At]at a1;have a2:(d:Int)+1<=(CE.buildL C [e] d b).regs:=a1;have he:1<=CE.partsL [e]:=by rw[CE.partsL];cases e;rw[CE.parts];omega
    have r:=TJ hL.inv d Aa;exact hL.trans r r.lo Aa Aa
  all_goals
   obtain⟨e1,e2,rfl⟩:=FY h2;rw[CE.build,if_neg Ab,if_neg Ab,if_neg Ab,if_neg Ab,if_neg Ab,if_neg Ab,if_neg Ab,if_pos Ab,D5,D4];rw[CE.okL,CE.okL]at hkids;have q1:1<=e1.parts:=by cases e1;rw[CE.parts];omega
   have q2:1<=e2.parts:=by cases e2;rw[CE.parts];omega
   have r1:=hI e1 At hkids.1 d b hp hb;have p1:=(B2 e1.parts e1 (Nat.le_refl _) hkids.1 d b hp).pl;have lo1:=r1.lo;have r2:=NN r1.inv e1 d Aa;have p2:=(Di p1 e1 d).pl;have lo2:=r2.lo;have hR:∀b0,Pl b0->EQ n M b0->_->Res n M 0 (d+e2.parts+2) b0 ((e2.build C d b0).truth e2 d)/\Pl ((e2.build C d b0).truth e2 d):=fun b0 hp0 hb0 (_:True)=>by
    have s1:=hI e2 At hkids.2.1 d b0 hp0 hb0;have lo3:=s1.lo;have s2:=NN s1.inv e2 d Aa;have pl2:=(B2 e2.parts e2 (Nat.le_refl _) hkids.2.1 d b0 hp0).pl;exact⟨s1.trans s2 s2.inv.r0 Aa Aa,(Di pl2 e2 d).pl⟩
   simp only[CE.partsL]
   first
   |(have r3:=res_right (k:=8) (d:=d) (hi:=d+e2.parts+2) r2.inv p2 Aa Aa (f:=fun x=>(e2.build C d x).truth e2 d) (fun b0 h1 h2 _=>hR b0 h1 h2 trivial);exact(r1.trans r2 lo2 (hi:=d+e1.parts+2) Aa Aa).trans r3 r3.lo Aa Aa)
   |(have r3:=res_right (k:=9) (d:=d) (hi:=d+e2.parts+2) r2.inv p2 Aa Aa (f:=fun x=>(e2.build C d x).truth e2 d) (fun b0 h1 h2 _=>hR b0 h1 h2 trivial);exact(r1.trans r2 lo2 (hi:=d+e1.parts+2) Aa Aa).trans r3 r3.lo Aa Aa)
end
section
variable {M : Int} {C : Core} {n : Nat} {w : Bool}
theorem NQ(hN:Rx C n M){l:List CE}(hok:CE.okL C n l)(d:Nat)(b:Bd)(hp:Pl b)(hb:EQ n M b):Res n M (if l=[]then 0 else d+l.length) (d+CE.partsL l+1) b (CE.buildL C l d b):=
 LQ l (fun e _=>Qk hN e.parts e (Nat.le_refl _)) hok d b hp hb
theorem U1(st:CS):1<=st.parts:=by cases st;rw[CS.parts];omega
theorem NP{b:Bd}(hN:Rx C n M)(hw:w=true->C.words<M)(hp:Pl b)(hb:EQ n M b):Res n M 0 1 b (b.leave C w):=by
 unfold Bd.leave
 cases w with
 |false=>
  simp only[cond_false];rw[Jo hp];exact Res.refl hb hb.r0
 |true=>
  simp only[cond_true];have h1:=AO hp (AY 0 0);have h2:=AO h1.pl (AL C.words 0);rw[Jo h2.pl];have r1:=DJ (t:=AY 0 0) hb PW (Cs rfl (fun _=>by show(0:Int)<=0/\(0:Int)<max _ ((0:Int)+1);omega) It rfl rfl);have l1:(0:Int)+1<=(b.put (AY 0 0)).regs:=r1.lo;have r2:=Gq (w:=C.words) (a:=0) r1.inv ⟨hN.w0,hw rfl⟩ Lo;exact r1.trans r2 r2.lo (by show(0:Int)+1<=1;omega) (Int.le_refl _)
theorem Qj{b:Bd}(hb:EQ n M b):Res n M 0 0 b b.next:=⟨FD (Cq hb) _,Int.le_refl _,hb.r0,by show b.regs<=_;omega,by show _<=b.opened.blocks.length;rw[Aq];omega⟩
theorem UN{b:Blocks}(h1:0<=b.words)(h2:b.words<=1048576)(h3:b.funcs≠[])(h4:∀(i:Nat) (f:BFunc),b.funcs[i]?=some f->f.one (i:Int) b.words=true):b.right=true:=by
 unfold Blocks.right;rw[decide_eq_true h1,decide_eq_true h2];have:b.funcs.isEmpty=false:=by simpa using h3
 rw[this];simp only[Bool.not_false,Bool.true_and];refine List.all_eq_true.2 fun p hp=>?_
 obtain⟨i,hi⟩:=List.mem_iff_getElem?.1 hp;rw[List.getElem?_zipIdx]at hi
 cases e:b.funcs[i]? with
 |none=>rw[e]at hi;simp at hi
 |some f=>
  rw[e]at hi;simp at hi;subst hi;exact h4 i f e
def aC(C:Core)(n:Nat)(M:Int)(w:Bool)(st:CS):Prop:=st.ok C n w->∀(b:Bd),Pl b->EQ n M b->Res n M 0 (st.parts+1) b (st.build C w b)
theorem Gr(B:Int):∀(l:List CS),(∀st∈l,aC C n M w st)->(∀st∈l,(st.parts:Int)+1<=B)->CS.okL C n w l->∀(b:Bd),Pl b->EQ n M b->Res n M 0 B b (CS.buildL C w l b)
 | [],_,_,_,b,hp,hb=>by
  rw[CS.buildL];exact Res.refl hb hb.r0
 |st::l,hI,hB,hok,b,hp,hb=>by
  rw[CS.buildL];rw[CS.okL]at hok;have r1:=hI st (List.mem_cons.2 (.inl rfl)) hok.1 b hp hb;have p1:=(CF st.parts st (Nat.le_refl _) hok.1 b hp).pl;have r2:=Gr B l (fun st he=>hI st (List.mem_cons.2 (.inr he))) (fun st he=>hB st (List.mem_cons.2 (.inr he))) hok.2 (st.build C w b) p1 r1.inv;exact r1.trans r2 r2.lo (hB st (List.mem_cons.2 (.inl rfl))) (Int.le_refl _)
theorem Sd{b:Bd}(hb:EQ n M b)(hp:Pl b){hi:Int}(h0:0<b.regs){RT RE:List Block->BS->BS->Prop}{fT fE:Bd->Bd}(hT:∀b0,Pl b0->Codes RT b0 (fT b0))(hE:∀b0,Pl b0->Codes RE b0 (fE b0))(rT:∀b0,Pl b0->EQ n M b0->Res n M 0 hi b0 (fT b0))(rE:∀b0,Pl b0->EQ n M b0->Res n M 0 hi b0 (fE b0)):
 Res n M 0 hi b (((((b.opened.opened.opened).inside (b.blocks.length+2) (b.blocks.length+1) fE).fork 0 b.blocks.length (b.blocks.length+2)).inside b.blocks.length (b.blocks.length+1) fT).go (b.blocks.length+1)):=by
 have hlt:=hp.lt;have i3:=Cq (Cq (Cq hb));have l3:b.opened.opened.opened.blocks.length=b.blocks.length+3:=by rw[Aq,Aq,Aq]
 have n0:b.opened.opened.opened.blocks[b.blocks.length]?=some blk0:=by
  exact YG
 have n2:b.opened.opened.opened.blocks[b.blocks.length+2]?=some blk0:=by
  exact Tu
 have hr3:b.opened.opened.opened.regs=b.regs:=rfl;have hn3:b.opened.opened.opened.now=b.now:=rfl;generalize b.opened.opened.opened=b3 at i3 l3 n0 n2 hr3 hn3|-;have pl2:Pl (b3.go (b.blocks.length+2)):=⟨blk0,n2,rfl,rfl,rfl,rfl⟩;have cE:=hE _ pl2;have r4:=GP i3 (rE _ pl2 (FD i3 _)) cE.pl (to:=b.blocks.length+1) Aa;have iE:=Fj (to:=b.blocks.length+1) n2 cE;generalize b3.inside (b.blocks.length+2) (b.blocks.length+1) fE=b4 at r4 iE|-;have l4:=r4.len;have g4:=r4.regs;have k4:=r4.hi;have hn4:b4.now=b.now:=iE.now.trans hn3;have i5:=HI r4.inv (v:=0) (to:=b.blocks.length) (els:=b.blocks.length+2) Lo Aa Aa;have n5:(b4.fork 0 b.blocks.length (b.blocks.length+2)).blocks[b.blocks.length]?=some blk0:=(CP (b:=b4) (by rw[hn4];omega)).trans ((iE.old _ Aa Aa).trans n0);have l5:(b4.fork 0 b.blocks.length (b.blocks.length+2)).blocks.length=b4.blocks.length:=Cg b4 _
 have g5:(b4.fork 0 b.blocks.length (b.blocks.length+2)).regs=b4.regs:=rfl;generalize b4.fork 0 b.blocks.length (b.blocks.length+2)=b5 at i5 n5 l5 g5|-;have pl5:Pl (b5.go b.blocks.length):=⟨blk0,n5,rfl,rfl,rfl,rfl⟩;have cT:=hT _ pl5;have r6:=GP i5 (rT _ pl5 (FD i5 _)) cT.pl (to:=b.blocks.length+1) Aa;generalize b5.inside b.blocks.length (b.blocks.length+1) fT=b6 at r6|-;exact bI
theorem WP{b:Bd}(hb:EQ n M b)(hp:Pl b){hi:Int}{RC RT:List Block->BS->BS->Prop}{fC fT:Bd->Bd}(hC:∀b0,Pl b0->Codes RC b0 (fC b0))(hT:∀b0,Pl b0->Codes RT b0 (fT b0))(rC:∀b0,Pl b0->EQ n M b0->Res n M 1 hi b0 (fC b0))(rT:∀b0,Pl b0->EQ n M b0->Res n M 0 hi b0 (fT b0)):
 Res n M 0 hi b ((((fC (((b.opened.opened.opened).inside b.now b.blocks.length fun x=>x).go b.blocks.length)).fork 0 (b.blocks.length+1) (b.blocks.length+2)).inside (b.blocks.length+1) b.blocks.length fT).go (b.blocks.length+2)):=by
 obtain⟨x,hx,e3,ev,et,ee⟩:=hp;have hlt:=(List.getElem?_eq_some_iff.1 hx).1;have i3:=Cq (Cq (Cq hb));have l3:b.opened.opened.opened.blocks.length=b.blocks.length+3:=by rw[Aq,Aq,Aq]
 have n0:b.opened.opened.opened.blocks[b.blocks.length]?=some blk0:=by
  exact YG
 have n1:b.opened.opened.opened.blocks[b.blocks.length+1]?=some blk0:=by
  exact Wf
 have x3:b.opened.opened.opened.blocks[b.now]?=some x:=by
  rw[AF PQ,AF EZ,AF hlt];exact hx
 have eB:((b.opened.opened.opened).inside b.now b.blocks.length fun x=>x).go b.blocks.length=(b.opened.opened.opened.jump b.blocks.length).go b.blocks.length:=rfl;rw[eB];have ij:=Mt i3 ⟨x,x3,e3,ev,et,ee⟩ (to:=b.blocks.length) Aa;have j0:(b.opened.opened.opened.jump b.blocks.length).blocks[b.blocks.length]?=some blk0:=(CP (b:=b.opened.opened.opened) PR).trans n0;have j1:(b.opened.opened.opened.jump b.blocks.length).blocks[b.blocks.length+1]?=some blk0:=(CP (b:=b.opened.opened.opened) (by show b.blocks.length+1≠b.now;omega)).trans n1;have lj:(b.opened.opened.opened.jump b.blocks.length).blocks.length=b.blocks.length+3:=(Cg _ _).trans l3;have gj:(b.opened.opened.opened.jump b.blocks.length).regs=b.regs:=rfl;generalize b.opened.opened.opened.jump b.blocks.length=bj at ij j0 j1 lj gj|-;have plj:Pl (bj.go b.blocks.length):=⟨blk0,j0,rfl,rfl,rfl,rfl⟩
 have cC:=hC _ plj;have rc:=rC _ plj (FD ij _);have lgo:(bj.go b.blocks.length).blocks.length=b.blocks.length+3:=lj;have ggo:(bj.go b.blocks.length).regs=b.regs:=gj;generalize fC (bj.go b.blocks.length)=bc at cC rc|-;have c1:=rc.len;have c2:=rc.regs;have c3:=rc.hi;have c4:=rc.lo;have hcn:bc.now=b.blocks.length\/b.blocks.length+3<=bc.now:=by
  have:=cC.fr.now;rw[lgo]at this;exact this
 have ic:=HI rc.inv (v:=0) (to:=b.blocks.length+1) (els:=b.blocks.length+2) Lo Aa Aa;have f1:(bc.fork 0 (b.blocks.length+1) (b.blocks.length+2)).blocks[b.blocks.length+1]?=some blk0:=(CP (b:=bc) Aa).trans (cC.fr.old _ _ (by show b.blocks.length+1≠b.blocks.length;omega) j1);have lf:(bc.fork 0 (b.blocks.length+1) (b.blocks.length+2)).blocks.length=bc.blocks.length:=Cg bc _;have gf:(bc.fork 0 (b.blocks.length+1) (b.blocks.length+2)).regs=bc.regs:=rfl;generalize bc.fork 0 (b.blocks.length+1) (b.blocks.length+2)=bf at ic f1 lf gf|-;have plf:Pl (bf.go (b.blocks.length+1)):=⟨blk0,f1,rfl,rfl,rfl,rfl⟩;have cT:=hT _ plf;have r6:=GP ic (rT _ plf (FD ic _)) cT.pl (to:=b.blocks.length) Aa;generalize bf.inside (b.blocks.length+1) b.blocks.length fT=b6 at r6|-;exact bI
theorem LP(hN:Rx C n M)(hw:w=true->C.words<M):∀(m:Nat) (st:CS),st.parts<=m->aC C n M w st
 |0,st,h=>by have:=U1 st;omega
 |m+1,st,hm=>by
  cases st with
  |mk k s z es thn els=>
  rw[CS.parts]at hm;have hT:∀st∈thn,aC C n M w st:=fun st hs=>LP hN hw m st Us
  have hL:∀st∈els,aC C n M w st:=fun st hs=>LP hN hw m st Us
  intro hok b hp hb;rw[CS.ok]at hok;rw[CS.parts];obtain⟨hes,hthn,hels,hk⟩:=hok;have hE:=NQ hN hes 0 b hp hb;have pE:=(Dj hes 0 b hp).pl;have w0:=hN.w0;have wm:=hN.wm;have lo1:=hE.lo;have Ar:∀(b:Bd) (t:Tac),EQ n M b->t.d=0->t.fits n (max b.regs (t.d+1)) M=true->Res n M 0 1 b (b.put t):=fun b t h1 h2 h3=>by
   have:=DJ h1 Aa h3;exact⟨this.inv,this.regs,this.inv.r0,by have h4:=this.hi;rw[h2]at h4;exact h4,this.len⟩
  rcases hk with⟨rfl,h1,s0,s1⟩|⟨rfl,h2,z1,z2,s0,s1⟩|⟨rfl,h1⟩|⟨rfl,h1⟩|⟨rfl,h1⟩|⟨rfl,s0,s1,fn,hfn,hwd,hpar,h6⟩|⟨rfl,h1⟩
  . rw[CS.build,if_pos rfl];obtain⟨e,rfl⟩:=Dd h1;rw[if_neg At]at lo1;have lo2:(1:Int)<=(CE.buildL C [e] 0 b).regs:=lo1;have r2:=Gq (w:=s) (a:=0) hE.inv ⟨s0,by omega⟩ Lo;exact Ts
  . rw[CS.build,if_neg Ab,if_pos rfl];obtain⟨e1,e2,rfl⟩:=FY h2;rw[if_neg At]at lo1;have lo2:(2:Int)<=(CE.buildL C [e1,e2] 0 b).regs:=lo1;have r2:=Ar _ (BN 0 1 s z) hE.inv rfl (Cs rfl No (fun u hu=>by
     have hu2:u=0\/u=1:=by
      have:u∈[(0:Int),1]:=hu;simpa using this
     show 0<=u/\u<max _ ((0:Int)+1);omega) (by
     show(decide (1<=z)&&(decide (z<=4096)&&(decide (0<=s)&&decide (s<=M-z))))=true;rw[decide_eq_true z1,decide_eq_true z2,decide_eq_true s0,decide_eq_true Aa];rfl) rfl)
    exact Ts
  . rw[CS.build,if_neg Ab,if_neg Ab,if_pos rfl];obtain⟨e,rfl⟩:=Dd h1;rw[if_neg At]at lo1;have lo2:(1:Int)<=(CE.buildL C [e] 0 b).regs:=lo1;have r2:=Ar _ (J8 0) hE.inv rfl (Cs rfl No (fun u hu=>by
     have hu2:u=0:=by
      have:u∈[(0:Int)]:=hu;simpa using this
     show 0<=u/\u<max _ ((0:Int)+1);omega) rfl rfl)
    exact Ts
  . rw[CS.build,if_neg Ab,if_neg Ab,if_neg Ab,if_neg Ab,if_neg Ab,if_pos rfl];dsimp only;obtain⟨e,rfl⟩:=Dd h1;rw[if_neg At]at lo1;have lo2:(1:Int)<=(CE.buildL C [e] 0 b).regs:=lo1;have fT:∀b0,Pl b0->Codes (fun G a c=>CS.codeL C w G thn a c) b0 (CS.buildL C w thn b0):=fun b0 h0=>B7 thn (fun st _=>CF st.parts st (Nat.le_refl _)) hthn b0 h0
    have fE:∀b0,Pl b0->Codes (fun G a c=>CS.codeL C w G els a c) b0 (CS.buildL C w els b0):=fun b0 h0=>B7 els (fun st _=>CF st.parts st (Nat.le_refl _)) hels b0 h0
    have rT:∀b0,Pl b0->EQ n M b0->Res n M 0 ((1+CE.partsL [e]+CS.partsL thn+CS.partsL els:Nat)+1) b0 (CS.buildL C w thn b0):=fun b0 h0 h1=>Gr _ thn hT cS hthn b0 h0 h1
    have rE:∀b0,Pl b0->EQ n M b0->Res n M 0 ((1+CE.partsL [e]+CS.partsL thn+CS.partsL els:Nat)+1) b0 (CS.buildL C w els b0):=fun b0 h0 h1=>Gr _ els hL cS hels b0 h0 h1
    by_cases he:els=[]
    . rw[if_pos he];have r2:=res_right (k:=8) (d:=0) (hi:=((1+CE.partsL [e]+CS.partsL thn+CS.partsL els:Nat)+1)) hE.inv pE Lo Aa (f:=fun x=>CS.buildL C w thn x) (fun b0 h0 h1 _=>⟨rT b0 h0 h1,(fT b0 h0).pl⟩);exact hE.trans r2 r2.inv.r0 Aa (Int.le_refl _)
    . rw[if_neg he];have r2:=Sd hE.inv pE Aa fT fE rT rE;exact hE.trans r2 r2.lo Aa (Int.le_refl _)
  . rw[CS.build,if_neg Ab,if_neg Ab,if_neg Ab,if_neg Ab,if_neg Ab,if_neg Ab,if_pos rfl];dsimp only;obtain⟨e,rfl⟩:=Dd h1;have rT:∀b0,Pl b0->EQ n M b0->Res n M 0 ((1+CE.partsL [e]+CS.partsL thn+CS.partsL els:Nat)+1) b0 (CS.buildL C w thn b0):=fun b0 h0 h1=>Gr _ thn hT cS hthn b0 h0 h1
    have rC:∀b0,Pl b0->EQ n M b0->Res n M 1 ((1+CE.partsL [e]+CS.partsL thn+CS.partsL els:Nat)+1) b0 (CE.buildL C [e] 0 b0):=fun b0 h0 h1=>by
     have r:=NQ hN hes 0 b0 h0 h1;have l1:=r.lo;rw[if_neg At]at l1;have l2:(1:Int)<=(CE.buildL C [e] 0 b0).regs:=l1;have l3:=r.hi;exact⟨r.inv,r.regs,l2,by omega,r.len⟩
    exact WP hb hp (fun b0 h0=>Dj hes 0 b0 h0) (fun b0 h0=>B7 thn (fun st _=>CF st.parts st (Nat.le_refl _)) hthn b0 h0) rC rT
  . rw[CS.build,if_neg Ab,if_neg Ab,if_neg Ab,if_pos rfl];have f1:=hN.fn s.toNat fn hfn;have ef:C.first s=fn.first:=JF hfn
    have hb0:=hE.inv.r0;have h3:(0+es.length:Nat)<=(CE.buildL C es 0 b).regs:=by
     by_cases hkn:es=[]
     . subst hkn;show((0:Nat):Int)<=_;omega
     . rw[if_neg hkn]at lo1;omega
    have r2:=LR (C:=C) (g:=s) (k:=es.length) (d:=0) hE.inv ⟨s0,s1⟩ (by rw[ef];exact f1.1) (by rw[ef];omega) h3;exact Ts
  . rw[CS.build,if_neg Ab,if_neg Ab,if_neg Ab,if_neg Ab,if_pos rfl]
    by_cases he:es=[]
    . rw[if_pos he];have r1:=NP hN hw hp hb;have r2:=Qj r1.inv;exact r1.trans r2 r2.lo Aa Aa
    . rw[if_neg he];obtain⟨h1,hwt⟩:=h1.resolve_left he;rw[if_neg he]at lo1;have r2:=Gq (w:=C.words) (a:=0) hE.inv ⟨w0,hw hwt⟩ Lo;have r3:=Qj r2.inv;exact(hE.trans r2 r2.lo (hi:=((0:Nat):Int)+CE.partsL es+1) (Int.le_refl _) Aa).trans r3 r3.lo Aa Aa
theorem NM{b:Bd}(h:EQ n M b){first:Int}(h0:0<=first)(hr:0<b.regs):∀(k:Nat),first+k<=M->Res n M 0 1 b (b.zeros first k)
 |0,_=>Res.refl h h.r0
 |k+1,h1=>by
  have ih:=NM h h0 hr k Aa;have hg:=ih.regs;have r2:=Gq (w:=first+k) (a:=0) ih.inv ⟨by omega,by omega⟩ Lo;exact ih.trans r2 r2.lo (Int.le_refl _) (Int.le_refl _)
theorem KB{b:Bd}(h:EQ n M b){first z:Int}(h0:0<=first)(z1:1<=z/\z<=4096)(hr:1<b.regs):∀(k:Nat),first+k+z<=M+1->Res n M 0 1 b (b.astores first z k)
 |0,_=>Res.refl h h.r0
 |k+1,h1=>by
  have ih:=KB h h0 z1 hr k Aa;have hg:=ih.regs;have r2:=DJ (t:=BN 1 0 (first+k) z) ih.inv PW (Cs rfl No (fun u hu=>by
   have hu2:u=1\/u=0:=by
    have:u∈[(1:Int),0]:=hu;simpa using this
   show 0<=u/\u<max _ ((0:Int)+1);omega) (by
   show(decide (1<=z)&&(decide (z<=4096)&&(decide (0<=first+k)&&decide (first+k<=M-z))))=true;rw[decide_eq_true z1.1,decide_eq_true z1.2,decide_eq_true Aa,decide_eq_true Aa];rfl) rfl)
  exact ih.trans r2 r2.inv.r0 (Int.le_refl _) (by show(0:Int)+1<=1;omega)
theorem K7{b:Bd}(h:EQ n M b)(d:Nat)(v:Int):Res n M (d+1) (d+1) b (b.put (AY d v)):=
 DJ (t:=AY d v) h YU (Cs rfl Ni It rfl rfl)
theorem Ql{b:Bd}(h:EQ n M b){op:Int}(d x y:Nat)(ho:4<=op/\op<=15)(hx:(x:Int)<b.regs)(hy:(y:Int)<b.regs):Res n M (d+1) (d+1) b (b.put (AP op d x y)):=
 DJ (t:=AP op d x y) h YU (Cs rfl Ni (fun u hu=>by
  have hu2:u=(x:Int)\/u=(y:Int):=by
   have:u∈[(x:Int),(y:Int)]:=hu;simpa using this
  show 0<=u/\u<max _ ((d:Int)+1);omega) (by
  show(decide (4<=op)&&decide (op<=15))=true;rw[decide_eq_true ho.1,decide_eq_true ho.2];rfl) rfl)
theorem UQ{b:Bd}(h:EQ n M b)(hp:Pl b)(hr:0<b.regs){first:Int}{k:Nat}(h0:0<=first)(hk:8<=k/\k<=4096)(h1:first+k<=M):Res n M 0 5 b (b.chunk first k):=by
 have r1:=K7 h 1 0;have r2:=K7 r1.inv 2 8;have r3:=K7 r2.inv 3 k;have p3:Pl (b.chunk1 k):=(AO (AO (AO hp _).pl _).pl _).pl;have r3':Res n M 4 4 b (b.chunk1 k):=(r1.trans r2 r2.lo (hi:=3) Aa Aa).trans r3 (by have:((3:Nat):Int)+1<=_:=r3.lo;exact this) Aa Aa;unfold Bd.chunk;generalize b.chunk1 k=b1 at r3' p3|-;have g1:=r3'.lo;have x1:=p3.lt;have i4:EQ n M b1.chunk2:=by
  obtain⟨x,hx,e3,ev,et,ee⟩:=p3;exact FD (Mt (Cq r3'.inv) ⟨x,(AF x1).trans hx,e3,ev,et,ee⟩ EZ) _
 have l4:b1.chunk2.blocks.length=b1.blocks.length+1:=(Cg b1.opened _).trans (Aq b1);have g4:b1.chunk2.regs=b1.regs:=rfl;have r5:=KB i4 (first:=first) (z:=k-7) h0 Aa Aa 8 Aa;have a5:=r5.regs;have r6:=Ql r5.inv (op:=4) 1 1 2 ⟨by decide,by decide⟩ (by show(1:Int)<_;omega) (by show(2:Int)<_;omega);have a6:=r6.regs;have r7:=Ql r6.inv (op:=14) 4 1 3 ⟨by decide,by decide⟩ (by show(1:Int)<_;omega) (by show(3:Int)<_;omega);have a7:((4:Nat):Int)+1<=_:=r7.lo;have b5:=r5.hi;have b6:=r6.hi;have b7:=r7.hi;have c5:=r5.len;have c6:=r6.len;have c7:=r7.len;have d7:=r7.regs;generalize((b1.chunk2.astores first (k-7) 8).put (AP 4 1 1 2)).put (AP 14 4 1 3)=b7' at r7 a7 b7 c7 d7|-;have i8:=HI (Cq r7.inv) (v:=4) (to:=b1.blocks.length) (els:=b7'.blocks.length) (by show((4:Nat):Int)<b7'.regs;omega) EZ EZ;have l8:(b7'.opened.fork 4 b1.blocks.length b7'.blocks.length).blocks.length=b7'.blocks.length+1:=(Cg b7'.opened _).trans (Aq b7')
 have h3:=r3'.hi;have h3r:=r3'.regs;have h3l:=r3'.len;exact⟨FD i8 _,by show b.regs<=b7'.regs;omega,i8.r0,by show b7'.regs<=_;omega,by show _<=(b7'.opened.fork 4 b1.blocks.length b7'.blocks.length).blocks.length;omega⟩
theorem KA:∀(g:Nat) {b:Bd} (h:EQ n M b) (hp:Pl b) (hr:0<b.regs) {first:Int} (k:Nat),0<=first->first+k<=M->Res n M 0 5 b (Bm g b first k)
 |0,b,h,hp,hr,first,k,_,_=>by rw[Bm];exact Res.refl h h.r0
 |g+1,b,h,hp,hr,first,k,h0,h1=>by
  rw[Bm]
  by_cases hk:64<k
  . rw[if_pos hk];obtain⟨c1,c2,c3,c4⟩:=Fl hk;have r1:=UQ h hp hr h0 (k:=chunkN k) ⟨by omega,c3⟩ Aa;have g1:=r1.regs;have r2:=KA g r1.inv (KQ hp _ _).pl Aa (first:=first+chunkN k) (k-chunkN k) Aa Aa;exact r1.trans r2 r2.lo (Int.le_refl _) (Int.le_refl _)
  . rw[if_neg hk];have r:=NM h h0 hr k h1;have h4:=r.hi;exact⟨r.inv,r.regs,r.lo,by omega,r.len⟩
theorem Sb{b:Bd}(h:EQ n M b)(hp:Pl b){first:Int}{k:Nat}(h0:0<=first)(h1:first+k<=M):Res n M 0 5 b (b.nought first k):=by
 unfold Bd.nought
 by_cases hk:k=0
 . rw[if_pos hk];exact Res.refl h h.r0
 . rw[if_neg hk];have r1:=K7 h 0 0;have l1:((0:Nat):Int)+1<=_:=r1.lo;have r2:=KA k r1.inv (AO hp _).pl Aa k h0 h1;exact r1.trans r2 r2.lo (by show((0:Nat):Int)+1<=5;omega) (Int.le_refl _)
end
structure In(C:Core):Prop where
  ok:M7 C
  words:C.words<=1000000
  parts:∀fn∈C.funcs,∀st∈fn.body,st.parts<=3000
theorem jW{i M:Int}:EQ i M bd0:=by
 have key:∀x∈bd0.blocks,x=blk0:=fun x hx=>by simpa[bd0]using hx
 refine⟨Int.le_refl _,fun x hx t ht=>?_,fun x hx=>?_⟩
 . rw[key x hx]at ht;cases ht
 . rw[key x hx];rfl
theorem S1{C:Core}(h:0<=C.words):C.words<=C.m/\C.m<=C.words+1/\∀fn∈C.funcs,fn.word=true->C.words<C.m:=by
 unfold Core.m;refine⟨by split<;>omega,by split<;>omega,fun fn hfn hw=>?_⟩;rw[if_pos (List.any_eq_true.2 ⟨fn,hfn,hw⟩)];omega
theorem Zz{C:Core}(h:M7 C)(n:Nat):Rx C n C.m:=by
 obtain⟨h1,h2,h3⟩:=S1 h.w0;exact⟨h.w0,h1,h3,fun g fn hfn=>⟨(h.fn g fn hfn).f0,by have:=(h.fn g fn hfn).f1;have:=(h.fn g fn hfn).ps;omega⟩⟩
theorem Sc{C:Core}(h:In C){g:Nat}{fn:CFn}(hfn:C.funcs[g]?=some fn)(last:Bool):EQ g C.m (I0 C fn last)/\(I0 C fn last).regs<=4000:=by
 have hN:=Zz h.ok g;have hfo:=h.ok.fn g fn hfn;have hw:fn.word=true->C.words<C.m:=hN.told fn (List.mem_of_getElem? hfn);have f0:=hfo.f0;have f1:=hfo.f1;have ps:=hfo.ps;have p0:=hfo.p0;have wm:=hN.wm;have r1:Res g C.m 0 5 bd0 (bif last then bd0 else bd0.nought (fn.first+fn.params) (fn.slots-fn.params).toNat):=by
  cases last with
  |true=>exact Res.refl jW (Int.le_refl _)
  |false=>exact Sb jW pl0 Aa Aa
 have p1:Pl (bif last then bd0 else bd0.nought (fn.first+fn.params) (fn.slots-fn.params).toNat):=by
  cases last with
  |true=>exact pl0
  |false=>exact(G9 pl0 _ _).pl
 have r2:=Gr (w:=fn.word) 3001 fn.body (fun st _=>LP hN hw st.parts st (Nat.le_refl _)) (fun st hs=>by have:=h.parts fn (List.mem_of_getElem? hfn) st hs;omega) hfo.body _ p1 r1.inv;have p2:=(B7 (C:=C) (n:=g) (w:=fn.word) fn.body (fun st _=>CF st.parts st (Nat.le_refl _)) hfo.body _ p1).pl;have r3:=NP hN hw p2 r2.inv;have a1:=r1.hi;have a2:=r2.hi;have a3:=r3.hi;have e0:bd0.regs=0:=rfl;refine⟨r3.inv,?_⟩;show(Bd.leave _ C fn.word).regs<=4000;omega
theorem Kh{C:Core}{g:Nat}{fn:CFn}(h:C.funcs[g]?=some fn):C.build.funcs[g]?=some (CL C fn (g+1==C.funcs.length)):=by
 show(C.funcs.zipIdx.map _)[g]?=_;rw[List.getElem?_map,BK h];rfl
theorem MV{C:Core}{g:Nat}{F:BFunc}(h:C.build.funcs[g]?=some F):∃fn,C.funcs[g]?=some fn/\F=CL C fn (g+1==C.funcs.length):=by
 have hl:=(List.getElem?_eq_some_iff.1 h).1;have hl2:g<C.funcs.length:=by
  have e:C.build.funcs.length=C.funcs.length:=by show(C.funcs.zipIdx.map _).length=_;simp
  omega
 obtain⟨fn,hfn⟩:=Ah hl2;rw[Kh hfn]at h;exact⟨fn,hfn,(Option.some.inj h).symm⟩
theorem Rh{C:Core}(h:In C):C.build.right=true:=by
 obtain⟨h1,h2,h3⟩:=S1 h.ok.w0;have w0:=h.ok.w0;have w1:=h.words;refine UN (show 0<=C.m by omega) (show C.m<=1048576 by omega) ?_ fun g F hF=>?_
 . intro e;have:C.funcs.length=0:=by
    have:=congrArg List.length e;have e2:C.build.funcs.length=C.funcs.length:=by show(C.funcs.zipIdx.map _).length=_;simp
    rw[e2]at this;exact this
   exact h.ok.ne (List.length_eq_zero_iff.1 this)
 . obtain⟨fn,hfn,rfl⟩:=MV hF;obtain⟨i1,i2⟩:=Sc h hfn (g+1==C.funcs.length);have hpl:=(Re (h.ok.fn g fn hfn).body (g+1==C.funcs.length)).1;unfold BFunc.one;rw[decide_eq_true (show 0<=(CL C fn (g+1==C.funcs.length)).regs from i1.r0),decide_eq_true (show(CL C fn (g+1==C.funcs.length)).regs<=4000 from i2)];have hne:(CL C fn (g+1==C.funcs.length)).blocks≠[]:=fun e=>by
    have:=hpl.lt;have e2:(I0 C fn (g+1==C.funcs.length)).blocks=[]:=e;rw[e2]at this;simp at this
   have hall:((CL C fn (g+1==C.funcs.length)).blocks.all fun x=>x.ok (CL C fn (g+1==C.funcs.length)).blocks.length (CL C fn (g+1==C.funcs.length)).regs g C.m)=true:=List.all_eq_true.2 fun x hx=>by
    unfold Block.ok;rw[Bool.and_eq_true];exact⟨i1.ends x hx,List.all_eq_true.2 fun t ht=>i1.ins x hx t ht⟩
   show(true&&(true&&(!List.isEmpty (CL C fn (g+1==C.funcs.length)).blocks&&((CL C fn (g+1==C.funcs.length)).blocks.all fun x=>x.ok (CL C fn (g+1==C.funcs.length)).blocks.length (CL C fn (g+1==C.funcs.length)).regs g C.m))))=true;rw[hall]
   cases hb:(CL C fn (g+1==C.funcs.length)).blocks with
   |nil=>exact absurd hb hne
   |cons x l=>rfl
theorem Ri{C:Core}(h:In C):YC C C.build C.m.toNat:=by
 obtain⟨h1,h2,h3⟩:=S1 h.ok.w0;have w0:=h.ok.w0;refine⟨by show C.m=_;omega,by omega,fun fn hfn hw=>by have:=h3 fn hfn hw;omega,by show(C.funcs.zipIdx.map _).length=_;simp,fun g fn hfn=>⟨_,Kh hfn,(Re (h.ok.fn g fn hfn).body _).2,(Sc h hfn _).1.r0,fun x hx t ht hs=>?_⟩⟩;have:=(Sc h hfn (g+1==C.funcs.length)).1.ins x hx t ht;have ht2:=(XP this).1 hs;exact ht2
theorem Vw{C:Core}(h:In C){s:ByteArray}{fuel:Int}{r:Mach}(hr:Iq C s fuel=r)(h5:r.fin≠5)(fu:Nat)(hfu:(r.steps+1)*C.k<=fu):(JA C.build s fu).fin=r.fin/\(JA C.build s fu).out=r.out:=
 Vv h.ok (Ri h) hr h5 fu hfu
end Go.Proofs.YtmfihmkopmgelaaGreat.Sv
namespace Go.Proofs.YtmfihmkopmgelaaGreat.Sv
open Go Go.ChangeShapes Go.WideShapes Go.ChangeAt Go.RowKit
mutual
def CE.cells:CE->List AV
  | .mk k o n s z kids=>[.int .i64 k,.int .i64 o,.int .u32 n,.int .i64 s,.int .i64 z,.lst false (CE.cellsL kids)]
def CE.cellsL:List CE->List (List AV)
  | []=>[]
  |e::l=>e.cells::CE.cellsL l
end
mutual
def CS.cells:CS->List AV
  | .mk k s z es thn els=>[.int .i64 k,.int .i64 s,.int .i64 z,.lst false (es.map CE.cells),.lst false (CS.cellsL thn),.lst false (CS.cellsL els)]
def CS.cellsL:List CS->List (List AV)
  | []=>[]
  |e::l=>e.cells::CS.cellsL l
end
def CFn.cells(f:CFn):List AV:=[.int .i64 f.params,.int .i64 f.slots,.int .i64 f.first,.bool f.word,.lst false (f.body.map CS.cells)]
def Core.cells(c:Core):List AV:=[.int .i64 c.words,.lst false (c.funcs.map CFn.cells)]
theorem CE.cellsL_map:∀l:List CE,CE.cellsL l=l.map CE.cells
 | []=>by rw[CE.cellsL];rfl
 |e::l=>by rw[CE.cellsL,CE.cellsL_map l];rfl
theorem CS.cellsL_map:∀l:List CS,CS.cellsL l=l.map CS.cells
 | []=>by rw[CS.cellsL];rfl
 |e::l=>by rw[CS.cellsL,CS.cellsL_map l];rfl
theorem CE.cells_eq(e:CE):e.cells=[.int .i64 e.kind,.int .i64 e.op,.int .u32 e.num,.int .i64 e.slot,.int .i64 e.size,.lst false (e.kids.map CE.cells)]:=by
 cases e;rw[CE.cells,CE.cellsL_map];rfl
theorem CS.cells_eq(e:CS):e.cells=[.int .i64 e.kind,.int .i64 e.slot,.int .i64 e.size,.lst false (e.es.map CE.cells),.lst false (e.thn.map CS.cells),.lst false (e.els.map CS.cells)]:=by
 cases e;rw[CS.cells,CS.cellsL_map,CS.cellsL_map];rfl
inductive CE.Ok:CE->Prop
  |mk {k o n s z:Int} {kids:List CE}:GJ k->GJ o->CW n->GJ s->GJ z->kids.length*64<=reachBytes->(∀e∈kids,CE.Ok e)->CE.Ok (.mk k o n s z kids)
inductive CS.Ok:CS->Prop
  |mk {k s z:Int} {es:List CE} {thn els:List CS}:GJ k->GJ s->GJ z->es.length*64<=reachBytes->(∀e∈es,CE.Ok e)->thn.length*96<=reachBytes->(∀e∈thn,CS.Ok e)->els.length*96<=reachBytes->(∀e∈els,CS.Ok e)->CS.Ok (.mk k s z es thn els)
structure CFn.Ok(f:CFn):Prop where
  params:GJ f.params
  slots:GJ f.slots
  first:GJ f.first
  len:f.body.length*96<=reachBytes
  body:∀s∈f.body,s.Ok
structure Core.Ok(c:Core):Prop where
  words:GJ c.words
  len:c.funcs.length*56<=reachBytes
  funcs:∀f∈c.funcs,f.Ok
section
variable {H : Type} {enc : TypeId × Value -> H} {P : Program} {W : World} {T : Nat -> Option AD}
end
end Go.Proofs.YtmfihmkopmgelaaGreat.Sv
namespace Go.Proofs.YtmfihmkopmgelaaGreat.Sv
open Go
section
variable {C : Core} {n : Nat}
end
theorem GT{C:Core}{fn:CFn}(h:fn∈C.funcs):CS.partsL fn.body<=C.parts:=SL (p:=fun f:CFn=>CS.partsL f.body) h
structure CM.good(W:Nat)(c:CM):Prop where
  m:c.m.good W
  val:CW c.val
def DH(W:Nat)(call:Cr):Prop:=∀f args c,CM.good W c->Dc args->(call f args c).2.good W/\CW (call f args c).1
theorem CM.good.fin{W:Nat}{c:CM}(h:c.good W)(n:Int):(c.put {c.m with fin:=n}).good W:=⟨⟨h.m.len,h.m.words,h.m.out⟩,h.val⟩
theorem CM.good.set{W:Nat}{c:CM}(h:c.good W)(z:Int){v:Int}(hv:CW v):(c.put {c.m with words:=rset c.m.words z v}).good W:=⟨⟨by show(rset c.m.words z v).length=W;rw[Bf];exact h.m.len,DB h.m.words z hv,h.m.out⟩,h.val⟩
theorem isW_one:CW 1:=⟨by decide,by decide⟩
theorem cQ(b:Bool):CW (zf b):=by cases b;exact isW_zero;exact isW_one
section
variable {W : Nat} {call : Cr} {s : ByteArray}
def Km(W:Nat)(call:Cr)(s:ByteArray)(e:CE):Prop:=∀c,CM.good W c->(e.ev call s c).2.good W/\CW (e.ev call s c).1
theorem XX{sl z:Int}{l:List CE}(hI:∀e∈l,Km W call s e){c:CM}(hc:c.good W):(CE.evI call s sl z l c).2.good W/\CW (CE.evI call s sl z l c).1:=by
 cases l with
 |nil=>rw[CE.evI];exact⟨hc,isW_zero⟩
 |cons e l=>
  rw[CE.evI];have h:=hI e (List.mem_cons.2 (.inl rfl)) c hc;generalize e.ev call s c=p at h|-;obtain⟨i,c1⟩:=p;dsimp only at h|-
  cases c1.fin==0 with
  |false=>exact⟨h.1,isW_zero⟩
  |true=>
   cases decide (i>=z)with
   |true=>exact⟨h.1.fin 3,isW_zero⟩
   |false=>exact⟨h.1,DC h.1.m.words _⟩
theorem MH(hcall:DH W call){f:Int}:∀{l:List CE},(∀e∈l,Km W call s e)->∀(args:List Int) {c:CM},Dc args->c.good W->(CE.evC call s f l args c).2.good W/\CW (CE.evC call s f l args c).1
 | [],_,args,c,ha,hc=>by rw[CE.evC];exact hcall _ _ _ hc ha
 |e::l,hI,args,c,ha,hc=>by
  rw[CE.evC];have h:=hI e (List.mem_cons.2 (.inl rfl)) c hc;generalize e.ev call s c=p at h|-;obtain⟨x,c1⟩:=p;dsimp only at h|-
  cases c1.fin==0 with
  |false=>exact⟨h.1,isW_zero⟩
  |true=>exact MH hcall (fun e he=>hI e (List.mem_cons.2 (.inr he))) _ (fun v hv=>by
   rcases List.mem_append.1 hv with hv|hv
   . exact ha v hv
   . rw[List.mem_singleton.1 hv];exact h.2) h.1
theorem XV{k o:Int}{l:List CE}(hI:∀e∈l,Km W call s e){x:Int}(hx:CW x){c:CM}(hc:c.good W):(CE.evR call s k o l x c).2.good W/\CW (CE.evR call s k o l x c).1:=by
 cases l with
 |nil=>rw[CE.evR];exact⟨hc,isW_zero⟩
 |cons e l=>
  rw[CE.evR];have h:=hI e (List.mem_cons.2 (.inl rfl)) c hc;generalize e.ev call s c=p at h|-;obtain⟨y,c1⟩:=p;dsimp only at h|-
  cases (k==8||k==9)with
  |true=>exact⟨h.1,cQ _⟩
  |false=>
   cases c1.fin==0 with
   |false=>exact⟨h.1,isW_zero⟩
   |true=>
    cases (BG o x y).2==0 with
    |true=>exact⟨h.1,Fd hx h.2⟩
    |false=>exact⟨h.1.fin 2,Fd hx h.2⟩
theorem XW{k o:Int}{l:List CE}(hI:∀e∈l,Km W call s e){c:CM}(hc:c.good W):(Dm call s k o l c).2.good W/\CW (Dm call s k o l c).1:=by
 cases l with
 |nil=>rw[Dm];exact⟨hc,isW_zero⟩
 |cons e l=>
  rw[Dm];have h:=hI e (List.mem_cons.2 (.inl rfl)) c hc;generalize e.ev call s c=p at h|-;obtain⟨x,c1⟩:=p;dsimp only at h|-
  cases c1.fin==0 with
  |false=>exact⟨h.1,isW_zero⟩
  |true=>
   cases k==7 with
   |true=>exact⟨h.1,cQ _⟩
   |false=>
    cases (k==8&&x==0)with
    |true=>exact⟨h.1,isW_zero⟩
    |false=>
     cases (k==9&& !(x==0))with
     |true=>exact⟨h.1,isW_one⟩
     |false=>exact XV (fun e he=>hI e (List.mem_cons.2 (.inr he))) h.2 h.1
theorem Ic(hcall:DH W call):∀(m:Nat) (e:CE),e.parts<=m->e.Ok->Km W call s e
 |0,e,hm,_=>by cases e;rw[CE.parts]at hm;omega
 |m+1,.mk k o n sl z kids,hm,hok=>by
  rw[CE.parts]at hm
  cases hok with
  |mk i1 i2 i3 i4 i5 i6 i7=>
  have hI:∀e∈kids,Km W call s e:=fun e he=>Ic hcall m e RJ (i7 e he)
  intro c hc;rw[CE.ev]
  by_cases k1:k=1
  . rw[if_pos k1];exact⟨hc,i3⟩
  rw[if_neg k1]
  by_cases k2:k=2
  . rw[if_pos k2];exact⟨hc,DC hc.m.words _⟩
  rw[if_neg k2]
  by_cases k3:k=3
  . rw[if_pos k3];exact XX hI hc
  rw[if_neg k3]
  by_cases k4:k=4
  . rw[if_pos k4];exact MH hcall hI [] Kr hc
  rw[if_neg k4]
  by_cases k5:k=5
  . rw[if_pos k5]
    cases decide (c.m.read<s.size)with
    |true=>exact⟨⟨⟨hc.m.len,hc.m.words,hc.m.out⟩,hc.val⟩,MU _⟩
    |false=>exact⟨hc,show CW 256 from⟨by decide,by decide⟩⟩
  rw[if_neg k5];exact XW hI hc
theorem MG(hcall:DH W call){l:List CE}(hl:∀e∈l,e.Ok){c:CM}(hc:c.good W):(Cu call s l c).2.good W/\CW (Cu call s l c).1:=by
 cases l with
 |nil=>exact⟨hc,isW_zero⟩
 |cons e l=>exact Ic hcall e.parts e (Nat.le_refl _) (hl e (List.mem_cons.2 (.inl rfl))) c hc
theorem GM{fuel:Int}{c:CM}(hc:c.good W):(BH fuel c).2.good W:=⟨DN hc.m,hc.val⟩
theorem Ku{fuel:Int}{cond:CM->Int×CM}{body:CM->CM}(h1:∀c,CM.good W c->(cond c).2.good W)(h2:∀c,CM.good W c->(body c).good W):∀(g:Nat) {c:CM},c.good W->(De fuel cond body g c).good W
 |0,c,hc=>hc.fin 5
 |g+1,c,hc=>by
  rw[De]
  cases (c.fin==0&& !c.over)with
  |false=>exact hc
  |true=>
   cases (BH fuel c).1 with
   |false=>exact GM hc
   |true=>
    have h:=h1 _ (GM (fuel:=fuel) hc);simp only[cond_true];generalize cond (BH fuel c).2=p at h|-;obtain⟨x,c1⟩:=p;dsimp only at h|-
    cases (c1.fin==0&& !(x==0))with
    |false=>exact h
    |true=>exact Ku h1 h2 g (h2 _ h)
def Hb(W:Nat)(call:Cr)(s:ByteArray)(fuel:Int)(st:CS):Prop:=∀c,CM.good W c->(st.run call s fuel c).good W
theorem Fg{fuel:Int}:∀{l:List CS},(∀st∈l,Hb W call s fuel st)->∀{c:CM},c.good W->(CS.runL call s fuel l c).good W
 | [],_,c,hc=>by rw[CS.runL];exact hc
 |st::l,hI,c,hc=>by
  rw[CS.runL]
  cases (c.fin==0&& !c.over)with
  |false=>exact hc
  |true=>exact Fg (fun e he=>hI e (List.mem_cons.2 (.inr he))) (hI st (List.mem_cons.2 (.inl rfl)) c hc)
theorem Fv(hcall:DH W call){fuel:Int}:∀(m:Nat) (st:CS),st.parts<=m->st.Ok->Hb W call s fuel st
 |0,st,hm,_=>by cases st;rw[CS.parts]at hm;omega
 |m+1,.mk k sl z es thn els,hm,hok=>by
  rw[CS.parts]at hm
  cases hok with
  |mk i1 i2 i3 i4 i5 i6 i7 i8 i9=>
  have hT:∀e∈thn,Hb W call s fuel e:=fun e he=>Fv hcall m e Y0 (i7 e he)
  have hL:∀e∈els,Hb W call s fuel e:=fun e he=>Fv hcall m e YZ (i9 e he)
  intro c hc;rw[CS.run]
  by_cases k6:k=6
  . rw[if_pos k6];exact(MH hcall (fun e he=>Ic hcall e.parts e (Nat.le_refl _) (i5 e he)) [] Kr hc).1
  rw[if_neg k6]
  by_cases k5:k=5
  . rw[if_pos k5];exact Ku (fun c hc=>(MG hcall i5 hc).1) (fun c hc=>Fg hT hc) _ hc
  rw[if_neg k5];have h:=MG (s:=s) hcall i5 hc;generalize Cu call s es c=p at h|-;obtain⟨x,c1⟩:=p;dsimp only at h|-
  cases c1.fin==0 with
  |false=>exact h.1
  |true=>
   simp only[cond_true]
   by_cases k7:k=7
   . rw[if_pos k7];exact⟨h.1.m,h.2⟩
   rw[if_neg k7]
   by_cases k1:k=1
   . rw[if_pos k1];exact h.1.set _ h.2
   rw[if_neg k1]
   by_cases k2:k=2
   . rw[if_pos k2];have h3:=MG (s:=s) hcall (l:=es.drop 1) (fun e he=>i5 e (List.mem_of_mem_drop he)) h.1;generalize Cu call s (es.drop 1) c1=q at h3|-;obtain⟨y,c2⟩:=q;dsimp only at h3|-
     cases c2.fin==0 with
     |false=>exact h3.1
     |true=>
      cases decide (x>=z)with
      |true=>exact h3.1.fin 3
      |false=>exact h3.1.set _ h3.2
   rw[if_neg k2]
   by_cases k3:k=3
   . rw[if_pos k3]
     by_cases ho:c1.m.out.length>=65536
     . rw[decide_eq_true ho];exact h.1.fin 4
     . rw[decide_eq_false ho];exact⟨⟨h.1.m.len,h.1.m.words,by show(c1.m.out++[Ef x]).length<=65536;rw[List.length_append];simp;omega⟩,h.1.val⟩
   rw[if_neg k3]
   cases x==0 with
   |true=>exact Fg hL h.1
   |false=>exact Fg hT h.1
end
theorem GD{C:Core}(hC:C.Ok){s:ByteArray}{fuel:Int}{W:Nat}:∀n,DH W (FM C s fuel n)
 |0=>fun f args c hc ha=>by rw[FM];exact⟨hc,isW_zero⟩
 |n+1=>fun f args c hc ha=>by
  rw[FM]
  cases (BH fuel c).1 with
  |false=>exact⟨GM hc,isW_zero⟩
  |true=>
   simp only[cond_true]
   cases e:C.funcs[f.toNat]? with
   |none=>exact⟨hc,isW_zero⟩
   |some g=>
    have hg:=hC.funcs g (List.mem_of_getElem? e);have ht:=GM (fuel:=fuel) hc;dsimp only;have h:=Fg (W:=W) (call:=FM C s fuel n) (s:=s) (fuel:=fuel) (l:=g.body) (fun st hs=>Fv (GD hC n) st.parts st (Nat.le_refl _) (hg.body st hs)) (c:=(BH fuel c).2.put {(BH fuel c).2.m with words:=CT (Bt c.m.words g.first g.slots.toNat) g.first args args.length})
     ⟨⟨by show(CT (Bt c.m.words g.first g.slots.toNat) g.first args args.length).length=W;rw[EC,DQ];exact hc.m.len,Li (K2 hc.m.words _ _) _ ha _,ht.m.out⟩,ht.val⟩
    generalize CS.runL (FM C s fuel n) s fuel g.body _=c1 at h|-
    cases c1.over with
    |true=>exact⟨⟨h.m,h.val⟩,h.val⟩
    |false=>exact⟨h,isW_zero⟩
mutual
def PE.parts:PE->Nat
  | .mk _ _ _ _ kids=>1+PE.partsL kids
def PE.partsL:List PE->Nat
  | []=>0
  |e::l=>e.parts+PE.partsL l
end
theorem PE.parts_mem{e:PE}:∀{l:List PE},e∈l->e.parts<=PE.partsL l
 | [],h=>by cases h
 |x::l,h=>by
  rcases List.mem_cons.1 h with rfl|h
  . simp[PE.partsL]
  . have:=PE.parts_mem h;simp only[PE.partsL];omega
theorem C0(s:ByteArray):∀(l:List ByteArray) (k:Nat),placeOf s l k= -1\/((k:Int)<=placeOf s l k/\placeOf s l k<k+l.length)
 | [],k=>.inl rfl
 |x::l,k=>by
  unfold placeOf
  cases decide (x=s)with
  |true=>exact .inr ⟨Int.le_refl _,by simp only[cond_true,List.length_cons];omega⟩
  |false=>
   rcases C0 s l (k+1)with h|h
   . exact .inl h
   . exact .inr ⟨by simp only[cond_false];omega,by simp only[cond_false,List.length_cons];omega⟩
theorem BQ(p:PProg)(f:Nat)(s:ByteArray):((p.find f s).1=1->∃g,p.funcs[f]?=some g/\0<=(p.find f s).2/\(p.find f s).2<g.names.length)/\((p.find f s).1=2->0<=(p.find f s).2/\(p.find f s).2<p.vars.length)/\
 ((p.find f s).1=3->0<=(p.find f s).2/\(p.find f s).2<p.arrays.length)/\((p.find f s).1=4->0<=(p.find f s).2/\(p.find f s).2<p.funcs.length):=by
 obtain⟨o,ho,hs⟩:∃o:Int,(o= -1\/∃g,p.funcs[f]?=some g/\0<=o/\o<g.names.length)/\p.find f s=(bif decide (0<=o)then(1,o)else(bif decide (placeOf s p.globals 0<0)then(0,-1)
  else bif decide (placeOf s p.globals 0<p.vars.length)then(2,placeOf s p.globals 0)else bif decide (placeOf s p.globals 0-p.vars.length<p.arrays.length)then(3,placeOf s p.globals 0-p.vars.length)else(4,placeOf s p.globals 0-p.vars.length-p.arrays.length))):=by
  cases hf:p.funcs[f]? with
  |none=>exact⟨-1,.inl rfl,by unfold PProg.find;rw[hf]⟩
  |some g=>
   refine⟨placeOf s g.names 0,?_,by unfold PProg.find;rw[hf]⟩;rcases C0 s g.names 0 with h|h
   . exact .inl h
   . exact .inr ⟨g,rfl,by omega,by omega⟩
 have hg:=C0 s p.globals 0;have hl:p.globals.length=p.vars.length+p.arrays.length+p.funcs.length:=by simp[PProg.globals,Nat.add_assoc]
 rw[hs];generalize placeOf s p.globals 0=k at hg
 by_cases h0:0<=o
 . rcases ho with rfl|⟨g,hf,h1,h2⟩
   . omega
   . simp[h0];exact⟨g,hf,h2⟩
 . by_cases h1:k<0
   . simp[h0,h1]
   . by_cases h2:k<p.vars.length
     . simp[h0,h1,h2];omega
     . by_cases h3:k-p.vars.length<p.arrays.length
       . simp[h0,h1,h2,h3];omega
       . simp[h0,h1,h2,h3];omega
mutual
def PE.fit(p:PProg)(f:Nat):PE->Bool->Prop
  | .mk k o n nm kids,b=>PE.fitL p f kids (k==7||(k==8||k==9))/\
     ((k=1/\b=false/\nm.size=0/\kids=[])\/(k=2/\b=false/\nm.size≠0/\((p.find f nm).1=1\/(p.find f nm).1=2)/\kids=[])\/(k=3/\b=false/\nm.size≠0/\(p.find f nm).1=3/\kids.length=1)\/
      (k=4/\b=false/\nm.size≠0/\(p.find f nm).1=4/\(p.find f nm).2<f/\∃G,p.funcs[(p.find f nm).2.toNat]?=some G/\kids.length=G.params.length/\G.word=true)\/(k=5/\b=false/\nm.size=0/\kids=[])\/
      (k=6/\nm.size=0/\kids.length=2/\(4<=o/\o<=15)/\b=(o==14||o==15))\/(k=7/\b=true/\nm.size=0/\kids.length=1)\/((k=8\/k=9)/\b=true/\nm.size=0/\kids.length=2))
def PE.fitL(p:PProg)(f:Nat):List PE->Bool->Prop
  | [],_=>True
  |e::l,b=>e.fit p f b/\PE.fitL p f l b
end
theorem PE.fitL_mem{p:PProg}{f:Nat}{b:Bool}:∀{l:List PE},PE.fitL p f l b->∀e∈l,e.fit p f b
 | [],_,e,h=>by cases h
 |x::l,h,e,he=>by
  rcases List.mem_cons.1 he with rfl|he
  . exact h.1
  . exact PE.fitL_mem h.2 e he
def PProg.aoff(p:PProg)(i:Nat):Int:=p.vars.length+((p.arrays.take i).map (·.2)).sum
structure Full(p:PProg)(r:PM)(c:CM):Prop where
  out:c.m.out=r.m.out
  read:c.m.read=r.m.read
  steps:c.m.steps=r.m.steps
  vl:r.m.words.length=p.vars.length
  al:r.arrs.length=p.arrays.length
  az:∀(i:Nat) (x:ByteArray×Int),p.arrays[i]?=some x->((r.arr i).length:Int)=x.2
  v:∀j:Int,0<=j->j<p.vars.length->Ak c.m.words j=Ak r.m.words j
  a:∀(i:Nat) (x:ByteArray×Int) (j:Int),p.arrays[i]?=some x->0<=j->j<x.2->Ak c.m.words (p.aoff i+j)=Ak (r.arr i) j
structure PSame(p:PProg)(r:PM)(c:CM):Prop where
  fin:c.m.fin=r.m.fin
  full:r.m.fin=0->Full p r c
  over:r.m.fin≠0->r.m.fin≠5->c.m.out=r.m.out/\c.m.steps=r.m.steps
def Area(p:PProg)(f:Nat)(ws:List Int)(c:CM):Prop:=∀j:Int,0<=j->j<ws.length->Ak c.m.words (p.first f+j)=Ak ws j
def Kept(z0:Int)(c c':CM):Prop:=∀z,z0<=z->Ak c'.m.words z=Ak c.m.words z
theorem Kept.refl(z0:Int)(c:CM):Kept z0 c c:=fun _ _=>rfl
theorem Kept.trans{z0:Int}{a b c:CM}(h1:Kept z0 a b)(h2:Kept z0 b c):Kept z0 a c:=fun z hz=>(h2 z hz).trans (h1 z hz)
theorem Area.kept{p:PProg}{f:Nat}{ws:List Int}{a b:CM}(h:Area p f ws a)(hk:Kept (p.first f) a b):Area p f ws b:=fun j h0 h1=>(hk _ Aa).trans (h j h0 h1)
structure Nc(p:PProg)(W:Nat)(r:PM)(c:CM):Prop where
  r0:r.m.fin=0
  c0:c.m.fin=0
  o:c.over=false
  full:Full p r c
  good:c.good W
structure Went(p:PProg)(z0:Int)(c:CM)(b:Bool)(R:Int×PM)(C:Int×CM):Prop where
  alike:PSame p R.2 C.2
  o:C.2.over=false
  v:R.2.m.fin=0->R.1=C.1
  b:b=true->R.2.m.fin=0->R.1=0\/R.1=1
  keep:R.2.m.fin=0->Kept z0 c C.2
def CallsAlike(p:PProg)(W:Nat)(callP:Ct)(callC:Cr)(lim:Nat):Prop:=(∀g args r,r.m.fin≠0->callP g args r=(0,r))/\
  ∀(g:Nat) (G:PFn),g<lim->p.funcs[g]?=some G->∀args r c,args.length=G.params.length->Dc args->Nc p W r c->Went p (p.first (g+1)) c false (callP g args r) (callC (g:Int) args c)
section
variable {p : PProg} {W : Nat} {callP : Ct} {callC : Cr} {s : ByteArray} {f : Nat} {ws : List Int}
theorem MF(e:PE){r:PM}(h:r.m.fin≠0):e.ev p callP s f ws r=(0,r):=by
 cases e
 have:(r.fin==0)=false:=by simpa[PM.fin]using h
 unfold PE.ev;rw[this];rfl
theorem T7(g:Nat)(hc:∀g args r,r.m.fin≠0->callP g args r=(0,r)):∀(l:List PE) (args:List Int) {r:PM},r.m.fin≠0->PE.evC p callP s f ws g l args r=(0,r)
 | [],args,r,h=>by unfold PE.evC;exact hc _ _ _ h
 |e::l,args,r,h=>by
  unfold PE.evC;rw[MF e h];exact T7 g hc l _ h
def I8(p:PProg)(W:Nat)(callP:Ct)(callC:Cr)(s:ByteArray)(f:Nat)(ws:List Int)(e:PE)(b:Bool):Prop:=∀r c,Nc p W r c->Area p f ws c->Went p (p.first f) c b (e.ev p callP s f ws r) ((e.core p f).ev callC s c)
theorem Went.same{z0:Int}{r:PM}{c:CM}(h:Nc p W r c){v:Int}{b:Bool}(hb:b=false):Went p z0 c b (v,r) (v,c):=
 ⟨⟨h.c0.trans h.r0.symm,fun _=>h.full,fun h1=>absurd h.r0 h1⟩,h.o,fun _=>rfl,fun e=>absurd (hb.symm.trans e) Ab,fun _=>Kept.refl _ _⟩
theorem Went.stop{z0:Int}{r:PM}{c c0:CM}(h:Nc p W r c){v w:Int}{b:Bool}{n:Int}(hn:n≠0):Went p z0 c0 b (v,r.put {r.m with fin:=n}) (w,c.put {c.m with fin:=n}):=
 ⟨⟨rfl,fun e=>absurd e hn,fun _ _=>⟨h.full.out,h.full.steps⟩⟩,h.o,fun e=>absurd e hn,fun _ e=>absurd e hn,fun e=>absurd e hn⟩
theorem Went.off{z0 z1:Int}{c c':CM}{b b':Bool}{R:Int×PM}{C:Int×CM}(h:Went p z0 c b R C)(h0:R.2.m.fin≠0)(v w:Int):Went p z1 c' b' (v,R.2) (w,C.2):=
 ⟨h.alike,h.o,fun e=>absurd e h0,fun _ e=>absurd e h0,fun e=>absurd e h0⟩
theorem Went.on{z0:Int}{c:CM}{b:Bool}{R:Int×PM}{C:Int×CM}(h:Went p z0 c b R C)(h0:R.2.m.fin=0)(hg:C.2.good W):Nc p W R.2 C.2:=⟨h0,h.alike.fin.trans h0,h.o,h.alike.full h0,hg⟩
theorem Went.more{z0:Int}{c c1:CM}{b:Bool}{R:Int×PM}{C:Int×CM}(h:Went p z0 c1 b R C)(hk:Kept z0 c c1):Went p z0 c b R C:=⟨h.alike,h.o,h.v,h.b,fun e=>hk.trans (h.keep e)⟩
end
theorem Kl{p:PProg}{f:Nat}{s:ByteArray}{x:ByteArray×Int}{i:Int}(h:p.find f s=(3,i))(hx:p.arrays[i.toNat]?=some x):p.slot f s=(p.aoff i.toNat,x.2):=by
 unfold PProg.slot PProg.aoff;rw[h];dsimp only;rw[hx];rfl
theorem G5(p:PProg){a b:Nat}(h:a<=b):p.first a<=p.first b:=by
 induction h with
 |refl=>exact Int.le_refl _
 | @step b _ ih=>
  refine Int.le_trans ih ?_;unfold PProg.first
  by_cases hb:b<p.funcs.length
  . rw[List.take_succ_eq_append_getElem hb,List.map_append,List.sum_append]
    simp;omega
  . rw[List.take_of_length_le Aa,List.take_of_length_le Aa];exact Int.le_refl _
theorem UA{o a b:Int}(h:(o==14||o==15)=true):(BG o a b).1=0\/(BG o a b).1=1:=by
 have e:BG o a b=(Ea o a b,0):=by
  simp at h;rcases h with rfl|rfl<;>rfl
 rw[e];unfold Ea
 cases ((o==14&&decide (a<b))||(o==15&&a==b))<;>simp
section
variable {p : PProg} {W : Nat} {callP : Ct} {callC : Cr} {s : ByteArray} {f : Nat} {ws : List Int}
theorem ke{k o n:Int}{nm:ByteArray}{kids:List PE}{r:PM}(h:r.m.fin=0):PE.ev p callP s f ws (.mk k o n nm kids) r=
 if k=1 then(n,r)
 else if k=2 then(bif (p.find f nm).1==1 then Ak ws (p.find f nm).2 else Ak r.m.words (p.find f nm).2,r)
 else if k=3 then PE.evI p callP s f ws (p.find f nm).2 kids r
 else if k=4 then PE.evC p callP s f ws (p.find f nm).2.toNat kids [] r
 else if k=5 then(bif decide (r.m.read<s.size)then(((FE s r.m.read).toNat:Int),r.put {r.m with read:=r.m.read+1})else(256,r))
 else if k=6 then I6 p callP s f ws o kids r
 else if k=7 then I7 p callP s f ws kids r
 else PE.evL p callP s f ws (k==8) kids r:=by
 have:(r.fin==0)=true:=by simpa[PM.fin]using h
 rw[PE.ev,this];rfl
theorem Kb(hc:CallsAlike p W callP callC f)(hg:DH W callC){g:Nat}{G:PFn}(hgf:g<f)(hG:p.funcs[g]?=some G):
 ∀(l:List PE),(∀e∈l,I8 p W callP callC s f ws e false/\(e.core p f).Ok)->∀(args:List Int) r c,args.length+l.length=G.params.length->Dc args->Nc p W r c->Area p f ws c->
  Went p (p.first f) c false (PE.evC p callP s f ws g l args r) (CE.evC callC s (g:Int) (PE.coreL p f l) args c)
 | [],_,args,r,c,hl,ha,hb,hA=>by
  rw[PE.evC,PE.coreL,CE.evC];have h:=hc.2 g G hgf hG args r c (by simpa using hl) ha hb;have hm:=G5 p (show g+1<=f from hgf);exact⟨h.alike,h.o,h.v,h.b,fun e z hz=>h.keep e z Aa⟩
 |e::l,hI,args,r,c,hl,ha,hb,hA=>by
  have he:=hI e At;have h:=he.1 r c hb hA;have hgd:=Ic (s:=s) hg _ (e.core p f) (Nat.le_refl _) he.2 c hb.good;rw[PE.evC,PE.coreL,CE.evC];generalize e.ev p callP s f ws r=R at h;generalize(e.core p f).ev callC s c=C at h hgd;obtain⟨x,r1⟩:=R;obtain⟨x',c1⟩:=C;dsimp only
  by_cases h0:r1.m.fin=0
  . have hb1:=h.on h0 hgd.1;have hx:x=x':=h.v h0;subst hx;rw[show(c1.fin==0)=true by simpa[CM.fin]using hb1.c0];exact(Kb hc hg hgf hG l (fun u hu=>hI u Hq) (args++[x]) r1 c1 (by simp at hl|-;omega) (fun v hv=>(List.mem_append.1 hv).elim (ha v) (fun hv=>by rw[List.mem_singleton.1 hv];exact hgd.2)) hb1 (hA.kept (h.keep h0))).more (h.keep h0)
  . have h1:c1.m.fin≠0:=by rw[h.alike.fin];exact h0
    rw[show(c1.fin==0)=false by simpa[CM.fin]using h1,T7 g hc.1 l _ h0];exact h.off h0 0 0
end
theorem PE.coreL_map(p:PProg)(f:Nat):∀l:List PE,PE.coreL p f l=l.map (PE.core p f)
 | []=>by rw[PE.coreL];rfl
 |e::l=>by rw[PE.coreL,PE.coreL_map p f l];rfl
theorem PE.core_eq(p:PProg)(f:Nat)(k o n:Int)(nm:ByteArray)(kids:List PE):
 PE.core p f (.mk k o n nm kids)=.mk k o n (bif nm.size==0 then 0 else(p.slot f nm).1) (bif nm.size==0 then 0 else(p.slot f nm).2) (PE.coreL p f kids):=by
 rw[PE.core]
 cases nm.size==0<;>rfl
theorem Vp{p:PProg}{f:Nat}{k o n:Int}{nm:ByteArray}{kids:List PE}(h:(PE.core p f (.mk k o n nm kids)).Ok):CW n/\∀e∈kids,(e.core p f).Ok:=by
 rw[PE.core_eq]at h
 cases h with
 |mk i1 i2 i3 i4 i5 i6 i7=>
  refine⟨i3,fun e he=>i7 _ ?_⟩;rw[PE.coreL_map];exact List.mem_map.2 ⟨e,he,rfl⟩
section
variable {p : PProg} {W : Nat} {callP : Ct} {callC : Cr} {s : ByteArray} {f : Nat} {ws : List Int}
theorem ej(hg:DH W callC){e:PE}{b:Bool}(hE:I8 p W callP callC s f ws e b)(hok:(e.core p f).Ok){r:PM}{c:CM}(hb:Nc p W r c)(hA:Area p f ws c):
 ∃x r1 x' c1,e.ev p callP s f ws r=(x,r1)/\(e.core p f).ev callC s c=(x',c1)/\Went p (p.first f) c b (x,r1) (x',c1)/\
  ((r1.m.fin=0/\x=x'/\Nc p W r1 c1/\Area p f ws c1/\CW x/\(c1.fin==0)=true/\(r1.fin==0)=true)\/(r1.m.fin≠0/\(c1.fin==0)=false/\(r1.fin==0)=false)):=by
 have h:=hE r c hb hA;have hgd:=Ic (s:=s) hg _ (e.core p f) (Nat.le_refl _) hok c hb.good;generalize e.ev p callP s f ws r=R at h;generalize(e.core p f).ev callC s c=C at h hgd;obtain⟨x,r1⟩:=R;obtain⟨x',c1⟩:=C;refine⟨x,r1,x',c1,rfl,rfl,h,?_⟩
 by_cases h0:r1.m.fin=0
 . have hb1:=h.on h0 hgd.1;have hx:x=x':=h.v h0;exact .inl ⟨h0,hx,hb1,hA.kept (h.keep h0),hx▸hgd.2,by simpa[CM.fin]using hb1.c0,by simpa[PM.fin]using h0⟩
 . have h1:c1.m.fin≠0:=by rw[h.alike.fin];exact h0
   exact .inr ⟨h0,by simpa[CM.fin]using h1,by simpa[PM.fin]using h0⟩
theorem Went.vals{z0:Int}{c:CM}{b b':Bool}{v v' w w':Int}{r:PM}{c1:CM}(h:Went p z0 c b (v,r) (v',c1))(h1:r.m.fin=0->w=w')(h2:b'=true->r.m.fin=0->w=0\/w=1):Went p z0 c b' (w,r) (w',c1):=
 ⟨h.alike,h.o,h1,h2,h.keep⟩
theorem SK{α:Type}{l:List α}(h:l.length=1):∃a,l=[a]:=by
 match l,h with
 | [a],_=>exact⟨a,rfl⟩
theorem eh{α:Type}{l:List α}(h:l.length=2):∃a b,l=[a,b]:=by
 match l,h with
 | [a,b],_=>exact⟨a,b,rfl⟩
theorem YO(b:Bool):zf b=0\/zf b=1:=by cases b;exact .inl rfl;exact .inr rfl
theorem fU{x:Int}(h:x=0\/x=1):zf (!(x==0))=x:=by rcases h with rfl|rfl<;>rfl
theorem Ra(hc:CallsAlike p W callP callC f)(hg:DH W callC)(hw:∀G,p.funcs[f]?=some G->ws.length=G.names.length):
 ∀(m:Nat) (e:PE) (b:Bool),e.parts<=m->e.fit p f b->(e.core p f).Ok->I8 p W callP callC s f ws e b
 |0,e,b,hm,_,_=>by cases e;rw[PE.parts]at hm;omega
 |m+1,.mk k o n nm kids,b,hm,hf,hok=>by
  rw[PE.parts]at hm;obtain⟨hn,hK⟩:=Vp hok;rw[PE.fit]at hf;obtain⟨hfk,hf⟩:=hf;have hI:∀e∈kids,I8 p W callP callC s f ws e (k==7||(k==8||k==9)):=fun e he=>Ra hc hg hw m e _ Wh (PE.fitL_mem hfk e he) (hK e he)
  intro r c hb hA;rw[ke hb.r0,PE.core_eq,CE.ev];have hsp:=BQ p f nm;rcases hf with⟨rfl,hb0,_,_⟩|⟨rfl,hb0,hnm,hfd,_⟩|⟨rfl,hb0,hnm,hfd,hl⟩|⟨rfl,hb0,hnm,hfd,hlt,G,hG,hl,_⟩|⟨rfl,hb0,_,_⟩|⟨rfl,hnm,hl,ho,hbo⟩|⟨rfl,hb1,hnm,hl⟩|⟨hk,hb1,hnm,hl⟩
  . exact Went.same hb hb0
  . have hz:(nm.size==0)=false:=by simpa using hnm
    rw[hz];rw[if_neg Ab,if_pos rfl,if_neg Ab,if_pos rfl];generalize hi:p.find f nm=K at hfd hsp|-;obtain⟨kd,i⟩:=K;dsimp only at hfd hsp|-;rcases hfd with rfl|rfl
    . obtain⟨G,hG,h1,h2⟩:=hsp.1 rfl;have:=hA i h1 (by rw[hw G hG];exact h2);unfold PProg.slot;rw[hi];show Went _ _ _ _ (Ak ws i,r) (Ak c.m.words (p.first f+i),c);rw[this];exact Went.same hb hb0
    . obtain⟨h1,h2⟩:=hsp.2.1 rfl;have:=hb.full.v i h1 h2;unfold PProg.slot;rw[hi];show Went _ _ _ _ (Ak r.m.words i,r) (Ak c.m.words i,c);rw[this];exact Went.same hb hb0
  . have hz:(nm.size==0)=false:=by simpa using hnm
    rw[hz];rw[if_neg Ab,if_neg Ab,if_pos rfl,if_neg Ab,if_neg Ab,if_pos rfl];generalize hi:p.find f nm=K at hfd hsp|-;obtain⟨kd,i⟩:=K;dsimp only at hfd hsp|-;subst hfd;obtain⟨h1,h2⟩:=hsp.2.2.1 rfl;have hx:p.arrays[i.toNat]?=some (p.arrays[i.toNat]'(Aa)):=List.getElem?_eq_getElem _;generalize p.arrays[i.toNat]'(Aa)=X at hx;rw[Kl hi hx];obtain⟨e,rfl⟩:=SK hl;obtain⟨x,r1,x',c1,e1,e2,h,h'⟩:=ej hg (hI e At) (hK e At) hb hA;rw[PE.coreL,PE.evI,CE.evI,e1,e2];dsimp only[cond_false];rcases h' with⟨h0,rfl,hb1,hA1,hxw,z1,z2⟩|⟨h0,z1,z2⟩
    . rw[z1,z2];have haz:((r1.arr i).length:Int)=X.2:=hb1.full.az i.toNat X hx;rw[haz];simp only[cond_true]
      by_cases hge:x>=X.2
      . rw[decide_eq_true hge];exact Went.stop hb1 Ab
      . rw[decide_eq_false hge];simp only[cond_false];have:=hb1.full.a i.toNat X x hx hxw.1 Aa;exact h.vals (fun _=>this.symm) (fun h=>absurd (hb0.symm.trans h) Ab)
    . rw[z1,z2];exact h.off h0 0 0
  . have hz:(nm.size==0)=false:=by simpa using hnm
    rw[hz];rw[if_neg Ab,if_neg Ab,if_neg Ab,if_pos rfl,if_neg Ab,if_neg Ab,if_neg Ab,if_pos rfl];generalize hi:p.find f nm=K at hfd hsp hlt hG|-;obtain⟨kd,i⟩:=K;dsimp only at hfd hsp hlt hG|-;subst hfd;obtain⟨h1,h2⟩:=hsp.2.2.2 rfl;have hs:(p.slot f nm).1=((i.toNat:Nat):Int):=by
     unfold PProg.slot;rw[hi];show i=_;omega
    rw[hs,hb0];exact Kb hc hg Aa hG kids (fun e he=>⟨hI e he,hK e he⟩) [] r c (by simpa using hl) Kr hb hA
  . rw[if_neg Ab,if_neg Ab,if_neg Ab,if_neg Ab,if_pos rfl,if_neg Ab,if_neg Ab,if_neg Ab,if_neg Ab,if_pos rfl];have hr:=hb.full.read;rw[hr]
    cases hd:decide (r.m.read<s.size)with
    |false=>exact Went.same hb hb0
    |true=>
     exact⟨⟨hb.c0.trans hb.r0.symm,fun _=>⟨hb.full.out,by show r.m.read+1=r.m.read+1;rfl,hb.full.steps,hb.full.vl,hb.full.al,hb.full.az,hb.full.v,hb.full.a⟩,fun h1=>absurd hb.r0 h1⟩,hb.o,fun _=>rfl,fun e=>absurd (hb0.symm.trans e) Ab,fun _ _ _=>rfl⟩
  . rw[if_neg Ab,if_neg Ab,if_neg Ab,if_neg Ab,if_neg Ab,if_pos rfl,if_neg Ab,if_neg Ab,if_neg Ab,if_neg Ab,if_neg Ab];obtain⟨u,v,rfl⟩:=eh hl;obtain⟨x,r1,x',c1,e1,e2,h,h'⟩:=ej hg (hI u At) (hK u At) hb hA;rw[PE.coreL,PE.coreL,I6,Dm,e1,e2];dsimp only;rw[PE.evR,CE.evR];rcases h' with⟨h0,rfl,hb1,hA1,hxw,z1,z2⟩|⟨h0,z1,z2⟩
    . obtain⟨y,r2,y',c2,e3,e4,g,g'⟩:=ej hg (hI v At) (hK v At) hb1 hA1;rw[z1,e3,e4];have hk:=h.keep h0;rcases g' with⟨g0,rfl,hb2,hA2,hyw,y1,y2⟩|⟨g0,y1,y2⟩
      . simp only[y1,y2,cond_true]
        cases hz:(BG o x y).2==0 with
        |true=>exact(g.vals (fun _=>rfl) (fun hbt _=>UA (hbo▸hbt))).more hk
        |false=>exact Went.stop hb2 Ab
      . dsimp only;rw[y1,y2];show Went _ _ _ _ (0,r2) (0,c2);exact g.off g0 0 0
    . rw[z1,MF v h0];simp only[z2,cond_false];exact h.off h0 0 0
  . rw[if_neg Ab,if_neg Ab,if_neg Ab,if_neg Ab,if_neg Ab,if_neg Ab,if_pos rfl,if_neg Ab,if_neg Ab,if_neg Ab,if_neg Ab,if_neg Ab];obtain⟨u,rfl⟩:=SK hl;obtain⟨x,r1,x',c1,e1,e2,h,h'⟩:=ej hg (hI u At) (hK u At) hb hA;rw[PE.coreL,I7,Dm,e1,e2];dsimp only;rcases h' with⟨h0,rfl,hb1,hA1,hxw,z1,z2⟩|⟨h0,z1,z2⟩
    . rw[z1];exact h.vals (fun _=>rfl) (fun _ _=>YO _)
    . rw[z1];exact h.off h0 _ _
  . have k1:k≠1:=by omega
    have k2:k≠2:=by omega
    have k3:k≠3:=by omega
    have k4:k≠4:=by omega
    have k5:k≠5:=by omega
    have k6:k≠6:=by omega
    have k7:k≠7:=by omega
    rw[if_neg k1,if_neg k2,if_neg k3,if_neg k4,if_neg k5,if_neg k6,if_neg k7,if_neg k1,if_neg k2,if_neg k3,if_neg k4,if_neg k5];obtain⟨u,v,rfl⟩:=eh hl;have hI1:∀e∈[u,v],I8 p W callP callC s f ws e true:=by
     have:(k==7||(k==8||k==9))=true:=by rcases hk with rfl|rfl<;>rfl
     rw[this]at hI;exact hI
    obtain⟨x,r1,x',c1,e1,e2,h,h'⟩:=ej hg (hI1 u At) (hK u At) hb hA;rw[PE.coreL,PE.coreL,PE.evL,Dm,e1,e2];dsimp only;rw[CU,CE.evR];have k7':(k==7)=false:=by simpa using k7
    have k89:(k==8||k==9)=true:=by rcases hk with rfl|rfl<;>rfl
    rcases h' with⟨h0,rfl,hb1,hA1,hxw,z1,z2⟩|⟨h0,z1,z2⟩
    . obtain⟨y,r2,y',c2,e3,e4,g,g'⟩:=ej hg (hI1 v At) (hK v At) hb1 hA1;have hx:=h.b rfl h0;have hk0:=h.keep h0;have key:Went p (p.first f) c b (y,r2) (zf (!(y'==0)),c2):=by
       refine(g.vals (fun h2=>?_) (fun _ h2=>g.b rfl h2)).more hk0;have hy:y=y':=g.v h2;rw[<-hy];exact(fU (g.b rfl h2)).symm
      rw[z1,e3,e4,k7',k89];simp only[cond_true,cond_false];rcases hk with rfl|rfl<;>rcases hx with rfl|rfl
      . exact h.vals (fun _=>rfl) (fun _ _=>.inl rfl)
      . exact key
      . exact key
      . exact h.vals (fun _=>rfl) (fun _ _=>.inr rfl)
    . rw[z1,MF v h0];simp only[cond_false]
      cases k==8<;>cases x==0<;>exact h.off h0 _ _
end
section
variable {call : Int -> Mach -> Mach} {s : ByteArray} {fuel : Int}
theorem A9{l:List Int}{z y v:Int}(hz:0<=z)(hy:0<=y)(h:y≠z):Ak (rset l z v) y=Ak l y:=by
 grind[Ak,rset]
theorem Dp{l:List Int}{z v:Int}(hz:0<=z/\z<l.length):Ak (rset l z v) z=v:=by
 grind[Ak,rset]
end
structure Uk(p:PProg)(W:Nat):Prop where
  z:∀(i:Nat) (x:ByteArray×Int),p.arrays[i]?=some x->0<=x.2
  w:p.words<=W
section
variable {p : PProg} {W : Nat}
theorem Du{i:Nat}{x:ByteArray×Int}(h:p.arrays[i]?=some x):p.aoff (i+1)=p.aoff i+x.2:=by
 obtain⟨hi,e⟩:=List.getElem?_eq_some_iff.1 h;unfold PProg.aoff;rw[List.take_succ_eq_append_getElem hi,List.map_append,List.sum_append,e]
 simp;omega
theorem Im(hG:Uk p W){a b:Nat}(h:a<=b):p.aoff a<=p.aoff b:=by
 induction h with
 |refl=>exact Int.le_refl _
 | @step b _ ih=>
  refine Int.le_trans ih ?_
  cases hb:p.arrays[b]? with
  |some x=>rw[Du hb];have:=hG.z b x hb;omega
  |none=>
   have:=List.getElem?_eq_none_iff.1 hb;unfold PProg.aoff;rw[List.take_of_length_le Aa,List.take_of_length_le Aa];exact Int.le_refl _
theorem Fo(hG:Uk p W)(i:Nat):p.aoff i<=p.base:=by
 have h:=Im hG (Nat.le_max_left i p.arrays.length);have e:p.aoff (max i p.arrays.length)=p.base:=by
  unfold PProg.aoff PProg.base;rw[List.take_of_length_le (Nat.le_max_right _ _)]
 omega
theorem D1(hG:Uk p W)(i:Nat):(p.vars.length:Int)<=p.aoff i:=by
 have h:=Im hG (Nat.zero_le i);have e:p.aoff 0=p.vars.length:=by simp[PProg.aoff]
 omega
theorem Ex{f:Nat}{G:PFn}(h:p.funcs[f]?=some G):p.first (f+1)=p.first f+G.names.length:=by
 obtain⟨hi,e⟩:=List.getElem?_eq_some_iff.1 h;unfold PProg.first
 rw[List.take_succ_eq_append_getElem hi,List.map_append,List.sum_append,e]
 simp;omega
theorem Ce(f:Nat):p.base<=p.first f:=by
 have h:=G5 p (Nat.zero_le f);have e:p.first 0=p.base:=by simp[PProg.first]
 omega
theorem Ck{f:Nat}(hf:f<=p.funcs.length):p.first f<=p.words:=G5 p hf
theorem Dt(hG:Uk p W):(p.vars.length:Int)<=p.base:=Int.le_trans (D1 hG 0) (Fo hG 0)
theorem Full.own(hG:Uk p W){r:PM}{c:CM}(h:Full p r c){z:Int}(hz:p.base<=z)(v:Int):Full p r (c.put {c.m with words:=rset c.m.words z v}):=by
 have hb:=Dt hG;refine⟨h.out,h.read,h.steps,h.vl,h.al,h.az,fun j h0 h1=>?_,fun i x j hx h0 h1=>?_⟩
 . show Ak (rset c.m.words z v) j=_;rw[A9 Aa h0 Aa];exact h.v j h0 h1
 . have e1:=Du hx;have e2:=Fo hG (i+1);have e3:=D1 hG i;show Ak (rset c.m.words z v) _=_;rw[A9 Aa Aa Aa];exact h.a i x j hx h0 h1
theorem Full.var(hG:Uk p W){r:PM}{c:CM}(h:Full p r c)(hl:c.m.words.length=W){z:Int}(h0:0<=z)(hz:z<p.vars.length)(v:Int):
 Full p (r.put {r.m with words:=rset r.m.words z v}) (c.put {c.m with words:=rset c.m.words z v}):=by
 have hb:=Dt hG;have hf:=Ck (p:=p) (Nat.zero_le _);have hf0:=Ce (p:=p) 0;have hw:=hG.w;refine⟨h.out,h.read,h.steps,?_,h.al,h.az,fun j h1 h2=>?_,fun i x j hx h1 h2=>?_⟩
 . show(rset r.m.words z v).length=_;rw[Bf];exact h.vl
 . show Ak (rset c.m.words z v) j=Ak (rset r.m.words z v) j
   by_cases e:j=z
   . subst e;rw[Dp ⟨h0,by omega⟩,Dp ⟨h0,by rw[h.vl];exact hz⟩]
   . rw[A9 h0 h1 e,A9 h0 h1 e];exact h.v j h1 h2
 . have e3:=D1 hG i;show Ak (rset c.m.words z v) _=_;rw[A9 h0 Aa Aa];exact h.a i x j hx h1 h2
theorem Full.store(hG:Uk p W){r:PM}{c:CM}(h:Full p r c)(hl:c.m.words.length=W){i:Int}{X:ByteArray×Int}(hi:0<=i)(hX:p.arrays[i.toNat]?=some X){a:Int}(h0:0<=a)(ha:a<X.2)(v:Int):
 Full p {r with arrs:=r.arrs.set i.toNat (rset (r.arr i) a v)} (c.put {c.m with words:=rset c.m.words (p.aoff i.toNat+a) v}):=by
 have hw:=hG.w;have hf:=Ck (p:=p) (Nat.zero_le _);have hf0:=Ce (p:=p) 0;have hx1:=Du hX;have hx2:=Fo hG (i.toNat+1);have hx3:=D1 hG i.toNat;have hil:i.toNat<r.arrs.length:=by
  rw[h.al];exact(List.getElem?_eq_some_iff.1 hX).1
 have key:∀n:Nat,PM.arr {r with arrs:=r.arrs.set i.toNat (rset (r.arr i) a v)} (n:Int)=if n=i.toNat then rset (r.arr i) a v else r.arr n:=fun n=>by
  unfold PM.arr;dsimp only;rw[Int.toNat_natCast,List.getElem?_set]
  by_cases e:i.toNat=n
  . subst e;rw[if_pos rfl,if_pos rfl,if_pos hil];rfl
  . rw[if_neg e,if_neg (fun e'=>e e'.symm)]
 have hri:r.arr i=r.arr ((i.toNat:Nat):Int):=by unfold PM.arr;rw[Int.toNat_natCast]
 refine⟨h.out,h.read,h.steps,h.vl,by show(r.arrs.set _ _).length=_;rw[List.length_set];exact h.al,fun n x hx=>?_,fun j h1 h2=>?_,fun n x j hx h1 h2=>?_⟩
 . rw[key]
   by_cases e:n=i.toNat
   . rw[if_pos e,Bf,hri,<-e];exact h.az n x hx
   . rw[if_neg e];exact h.az n x hx
 . show Ak (rset c.m.words _ v) j=_;rw[A9 Aa h1 Aa];exact h.v j h1 h2
 . show Ak (rset c.m.words (p.aoff i.toNat+a) v) (p.aoff n+j)=_;rw[key];have hn3:=D1 hG n;have hn1:=Du hx
   by_cases e:n=i.toNat
   . subst e;rw[hX]at hx
     cases hx
     rw[if_pos rfl];have haz:=h.az _ _ hX
     by_cases e:j=a
     . subst e;rw[Dp ⟨by omega,by omega⟩,Dp ⟨h0,by rw[hri];omega⟩]
     . rw[A9 Aa Aa Aa,A9 h0 h1 e,hri];exact h.a _ _ j hX h1 h2
   . rw[if_neg e,A9 Aa Aa ?_]
     . exact h.a n x j hx h1 h2
     . rcases Nat.lt_or_gt_of_ne e with hlt|hlt
       . have:=Im hG (show n+1<=i.toNat from hlt);omega
       . have:=Im hG (show i.toNat+1<=n from hlt);omega
end
mutual
def PSt.parts:PSt->Nat
  | .mk _ _ es thn els=>1+PE.partsL es+PSt.partsL thn+PSt.partsL els
def PSt.partsL:List PSt->Nat
  | []=>0
  |s::l=>s.parts+PSt.partsL l
end
theorem PSt.parts_mem{e:PSt}:∀{l:List PSt},e∈l->e.parts<=PSt.partsL l
 | [],h=>by cases h
 |x::l,h=>by
  rcases List.mem_cons.1 h with rfl|h
  . simp[PSt.partsL]
  . have:=PSt.parts_mem h;simp only[PSt.partsL];omega
mutual
def PSt.fit(p:PProg)(f:Nat)(w:Bool):PSt->Prop
  | .mk k nm es thn els=>PE.fitL p f es (k==4||k==5)/\PSt.fitL p f w thn/\PSt.fitL p f w els/\
     ((k=1/\nm.size≠0/\((p.find f nm).1=1\/(p.find f nm).1=2)/\es.length=1)\/(k=2/\nm.size≠0/\(p.find f nm).1=3/\es.length=2)\/(k=3/\nm.size=0/\es.length=1)\/(k=4/\nm.size=0/\es.length=1)\/(k=5/\nm.size=0/\es.length=1)\/
      (k=6/\nm.size≠0/\(p.find f nm).1=4/\(p.find f nm).2<f/\∃G,p.funcs[(p.find f nm).2.toNat]?=some G/\es.length=G.params.length/\G.word=false)\/(k=7/\nm.size=0/\(es=[]\/(es.length=1/\w=true))))
def PSt.fitL(p:PProg)(f:Nat)(w:Bool):List PSt->Prop
  | []=>True
  |e::l=>e.fit p f w/\PSt.fitL p f w l
end
theorem PSt.fitL_mem{p:PProg}{f:Nat}{w:Bool}:∀{l:List PSt},PSt.fitL p f w l->∀e∈l,e.fit p f w
 | [],_,e,h=>by cases h
 |x::l,h,e,he=>by
  rcases List.mem_cons.1 he with rfl|he
  . exact h.1
  . exact PSt.fitL_mem h.2 e he
theorem PSt.coreL_map(p:PProg)(f:Nat):∀l:List PSt,PSt.coreL p f l=l.map (PSt.core p f)
 | []=>by rw[PSt.coreL];rfl
 |e::l=>by rw[PSt.coreL,PSt.coreL_map p f l];rfl
theorem PSt.core_eq(p:PProg)(f:Nat)(k:Int)(nm:ByteArray)(es:List PE)(thn els:List PSt):
 PSt.core p f (.mk k nm es thn els)=.mk k (bif nm.size==0 then 0 else(p.slot f nm).1) (bif nm.size==0 then 0 else(p.slot f nm).2) (PE.coreL p f es) (PSt.coreL p f thn) (PSt.coreL p f els):=by
 rw[PSt.core]
 cases nm.size==0<;>rfl
theorem S0{p:PProg}{f:Nat}{k:Int}{nm:ByteArray}{es:List PE}{thn els:List PSt}(h:(PSt.core p f (.mk k nm es thn els)).Ok):
 (∀e∈es,(e.core p f).Ok)/\(∀e∈thn,(e.core p f).Ok)/\∀e∈els,(e.core p f).Ok:=by
 rw[PSt.core_eq]at h
 cases h with
 |mk i1 i2 i3 i4 i5 i6 i7 i8 i9=>
  refine⟨fun e he=>i5 _ ?_,fun e he=>i7 _ ?_,fun e he=>i9 _ ?_⟩
  . rw[PE.coreL_map];exact List.mem_map.2 ⟨e,he,rfl⟩
  . rw[PSt.coreL_map];exact List.mem_map.2 ⟨e,he,rfl⟩
  . rw[PSt.coreL_map];exact List.mem_map.2 ⟨e,he,rfl⟩
structure Going(p:PProg)(W f n:Nat)(x:PX)(c:CM):Prop where
  both:Nc p W x.c c
  area:Area p f x.ws c
  len:x.ws.length=n
  back:x.back=false
  val:x.val=0
structure Did(p:PProg)(f n:Nat)(c:CM)(X:PX)(C:CM):Prop where
  alike:PSame p X.c C
  over:X.fin=0->C.over=X.back
  val:X.fin=0->X.val=(bif X.back then C.val else 0)
  area:X.fin=0->Area p f X.ws C
  len:X.fin=0->X.ws.length=n
  keep:X.fin=0->Kept (p.first (f+1)) c C
section
variable {p : PProg} {W f n : Nat}
theorem Going.did{x:PX}{c c0:CM}(h:Going p W f n x c)(hk:Kept (p.first (f+1)) c0 c):Did p f n c0 x c:=
 ⟨⟨h.both.c0.trans h.both.r0.symm,fun _=>h.both.full,fun h1=>absurd h.both.r0 h1⟩,fun _=>by rw[h.both.o,h.back],fun _=>by rw[h.val,h.back];rfl,fun _=>h.area,fun _=>h.len,fun _=>hk⟩
theorem Did.going{x:PX}{c c0:CM}(h:Did p f n c0 x c)(h0:x.on=true)(hg:c.good W):Going p W f n x c:=by
 unfold PX.on at h0;rw[Bool.and_eq_true,beq_iff_eq,Bool.not_eq_true']at h0;obtain⟨h0,h1⟩:=h0;have h0':x.c.m.fin=0:=h0;exact⟨⟨h0',h.alike.fin.trans h0',by rw[h.over h0,h1],h.alike.full h0',hg⟩,h.area h0,h.len h0,h1,by rw[h.val h0,h1];rfl⟩
theorem Did.on{x:PX}{c c0:CM}(h:Did p f n c0 x c):(c.fin==0&& !c.over)=x.on:=by
 have h1:c.fin=x.fin:=h.alike.fin;unfold PX.on;rw[h1]
 by_cases h0:x.fin=0
 . rw[h.over h0]
 . rw[show(x.fin==0)=false by simpa using h0];rfl
theorem Did.more{X:PX}{C c c1:CM}(h:Did p f n c1 X C)(hk:Kept (p.first (f+1)) c c1):Did p f n c X C:=⟨h.alike,h.over,h.val,h.area,h.len,fun e=>hk.trans (h.keep e)⟩
theorem Did.off{X:PX}{C c:CM}(h:PSame p X.c C)(h0:X.c.m.fin≠0):Did p f n c X C:=
 ⟨h,fun e=>absurd e h0,fun e=>absurd e h0,fun e=>absurd e h0,fun e=>absurd e h0,fun e=>absurd e h0⟩
theorem I5{r:PM}{c:CM}(h:r.m.fin=5)(h':c.m.fin=5):PSame p r c:=⟨h'.trans h.symm,fun e=>absurd (h.symm.trans e) Ab,fun _ e=>absurd h e⟩
theorem Going.on{x:PX}{c:CM}(h:Going p W f n x c):x.on=true:=by
 unfold PX.on PX.fin PM.fin;rw[h.both.r0,h.back];rfl
theorem Lv{r:PM}{c:CM}(h:Nc p W r c)(fuel:Int):((BH fuel c).1=true/\Nc p W (r.tick fuel) (BH fuel c).2/\(BH fuel c).2.m.words=c.m.words)\/((BH fuel c).1=false/\(r.tick fuel).m.fin=5/\(BH fuel c).2.m.fin=5):=by
 have hs:=h.full.steps;unfold BH PM.tick AI;rw[hs]
 cases decide ((r.m.steps:Int)>=fuel)with
 |true=>exact .inr ⟨rfl,rfl,rfl⟩
 |false=>exact .inl ⟨rfl,⟨h.r0,h.c0,h.o,⟨h.full.out,h.full.read,by show r.m.steps+1=r.m.steps+1;rfl,h.full.vl,h.full.al,h.full.az,h.full.v,h.full.a⟩,⟨⟨h.good.m.len,h.good.m.words,h.good.m.out⟩,h.good.val⟩⟩,rfl⟩
theorem Going.tick{x:PX}{c:CM}(h:Going p W f n x c)(fuel:Int):((BH fuel c).1=true/\Going p W f n (x.tick fuel) (BH fuel c).2/\(BH fuel c).2.m.words=c.m.words)\/((BH fuel c).1=false/\(x.tick fuel).c.m.fin=5/\(BH fuel c).2.m.fin=5):=by
 rcases Lv h.both fuel with⟨h1,h2,h3⟩|h1
 . exact .inl ⟨h1,⟨h2,fun j h0 h4=>by rw[h3];exact h.area j h0 h4,h.len,h.back,h.val⟩,h3⟩
 . exact .inr h1
theorem JG(f:Nat):p.first f<=p.first (f+1):=G5 p (Nat.le_succ f)
theorem Kept.less{a b:Int}{c c':CM}(h:Kept a c c')(hab:a<=b):Kept b c c':=fun z hz=>h z (Int.le_trans hab hz)
theorem Kt{fuel:Int}{cond:PX->Int×PM}{body:PX->PX}{condC:CM->Int×CM}{bodyC:CM->CM}
 (h1:∀x c,Going p W f n x c->Went p (p.first f) c true (cond x) (condC c)/\(condC c).2.good W) (h2:∀x c,Going p W f n x c->Did p f n c (body x) (bodyC c)/\(bodyC c).good W):
 ∀(g:Nat) {x:PX} {c c0:CM},Did p f n c0 x c->c.good W->Did p f n c0 (DA fuel cond body g (bif x.on then x.tick fuel else x)) (De fuel condC bodyC g c)
 |0,x,c,c0,h,hg=>by
  rw[DA,De];exact Did.off (I5 rfl rfl) (by show(5:Int)≠0;decide)
 |g+1,x,c,c0,h,hg=>by
  rw[De,h.on]
  cases hx:x.on with
  |false=>
   rw[DA];simp only[cond_false,hx];exact h
  |true=>
   have hG:=h.going hx hg;simp only[cond_true];rw[DA];unfold PX.on at hx;have h0:x.fin=0:=hG.both.r0;rcases hG.tick fuel with⟨t1,t2,t3⟩|⟨t1,t2,t3⟩
   . rw[t1,t2.on];simp only[cond_true];obtain⟨hw,hgd⟩:=h1 _ _ t2;have hk1:Kept (p.first (f+1)) c0 (BH fuel c).2:=(h.keep h0).trans fun z _=>by rw[t3]
     generalize cond (x.tick fuel)=R at hw|-;generalize condC (BH fuel c).2=C at hw hgd|-;obtain⟨v,r1⟩:=R;obtain⟨v',c1⟩:=C;dsimp only
     by_cases hf:r1.m.fin=0
     . have hv:v=v':=hw.v hf;subst hv;have hb1:=hw.on hf hgd;have hk2:=hk1.trans ((hw.keep hf).less (JG f));have hG1:Going p W f n {(x.tick fuel)with c:=r1} c1:=⟨hb1,t2.area.kept (hw.keep hf),t2.len,t2.back,t2.val⟩;rw[show(c1.fin==0)=true by simpa[CM.fin]using hb1.c0,show(r1.fin==0)=true by simpa[PM.fin]using hf]
       cases hz:v==0 with
       |true=>exact hG1.did hk2
       |false=>
        obtain⟨b1,b2⟩:=h2 _ _ hG1;exact Kt h1 h2 g (b1.more hk2) b2
     . have hf':c1.m.fin≠0:=by rw[hw.alike.fin];exact hf
       rw[show(c1.fin==0)=false by simpa[CM.fin]using hf',show(r1.fin==0)=false by simpa[PM.fin]using hf]
       cases hz:v==0<;>exact Did.off hw.alike hf
   . rw[t1];have:(x.tick fuel).on=false:=by
      unfold PX.on PX.fin PM.fin;rw[t2];rfl
     rw[this];exact Did.off (X:=x.tick fuel) (I5 t2 t3) (show(x.tick fuel).c.m.fin≠0 by rw[t2];decide)
end
section
variable {p : PProg} {W f n : Nat}
theorem Full.mark{r:PM}{c:CM}(h:Full p r c)(o:Bool)(v:Int):Full p r {c with over:=o,val:=v}:=⟨h.out,h.read,h.steps,h.vl,h.al,h.az,h.v,h.a⟩
theorem Going.own(hG:Uk p W){F:PFn}(hF:p.funcs[f]?=some F)(hn:n=F.names.length){x:PX}{c:CM}(h:Going p W f n x c){i v:Int}(h0:0<=i)(h1:i<n)(hv:CW v):
 Going p W f n {x with ws:=rset x.ws i v} (c.put {c.m with words:=rset c.m.words (p.first f+i) v})/\Kept (p.first (f+1)) c (c.put {c.m with words:=rset c.m.words (p.first f+i) v}):=by
 have hb:=Ce (p:=p) f;have hz:=Dt hG;have hnx:=Ex hF;have hfl:f<p.funcs.length:=(List.getElem?_eq_some_iff.1 hF).1;have hw:=Ck (p:=p) (show f+1<=p.funcs.length from hfl);have hW:=hG.w;have hl:=h.both.good.m.len;refine⟨⟨⟨h.both.r0,h.both.c0,h.both.o,h.both.full.own hG Aa v,h.both.good.set _ hv⟩,fun j j0 j1=>?_,by show(rset x.ws i v).length=n;rw[Bf];exact h.len,h.back,h.val⟩,fun z hz=>?_⟩
 . have j1':j<x.ws.length:=by rw[show({x with ws:=rset x.ws i v}:PX).ws=rset x.ws i v from rfl,Bf]at j1;exact j1
   show Ak (rset c.m.words (p.first f+i) v) (p.first f+j)=Ak (rset x.ws i v) j;have hl2:=h.len
   by_cases e:j=i
   . subst e;rw[Dp ⟨by omega,by omega⟩,Dp ⟨h0,by omega⟩]
   . rw[A9 Aa Aa Aa,A9 h0 j0 e];exact h.area j j0 j1'
 . show Ak (rset c.m.words (p.first f+i) v) z=_;rw[A9 Aa Aa Aa]
theorem Going.var(hG:Uk p W){x:PX}{c:CM}(h:Going p W f n x c){i v:Int}(h0:0<=i)(h1:i<p.vars.length)(hv:CW v):
 Going p W f n {x with c:=x.c.put {x.c.m with words:=rset x.c.m.words i v}} (c.put {c.m with words:=rset c.m.words i v})/\Kept (p.first (f+1)) c (c.put {c.m with words:=rset c.m.words i v}):=by
 have hb:=Ce (p:=p) f;have hz:=Dt hG;have hle:=JG (p:=p) f;refine⟨⟨⟨h.both.r0,h.both.c0,h.both.o,h.both.full.var hG h.both.good.m.len h0 h1 v,h.both.good.set _ hv⟩,fun j j0 j1=>?_,h.len,h.back,h.val⟩,fun z hz=>?_⟩
 . show Ak (rset c.m.words i v) (p.first f+j)=_;rw[A9 h0 Aa Aa];exact h.area j j0 j1
 . show Ak (rset c.m.words i v) z=_;rw[A9 h0 Aa Aa]
theorem Going.store(hG:Uk p W){x:PX}{c:CM}(h:Going p W f n x c){i:Int}{X:ByteArray×Int}(hi:0<=i)(hX:p.arrays[i.toNat]?=some X){a:Int}(h0:0<=a)(ha:a<X.2){v:Int}(hv:CW v):
 Going p W f n {x with c:={x.c with arrs:=x.c.arrs.set i.toNat (rset (x.c.arr i) a v)}} (c.put {c.m with words:=rset c.m.words (p.aoff i.toNat+a) v})/\Kept (p.first (f+1)) c (c.put {c.m with words:=rset c.m.words (p.aoff i.toNat+a) v}):=by
 have hb:=Ce (p:=p) f;have hz:=D1 hG i.toNat;have hle:=JG (p:=p) f;have h1:=Du hX;have h2:=Fo hG (i.toNat+1);refine⟨⟨⟨h.both.r0,h.both.c0,h.both.o,h.both.full.store hG h.both.good.m.len hi hX h0 ha v,h.both.good.set _ hv⟩,fun j j0 j1=>?_,h.len,h.back,h.val⟩,fun z hz=>?_⟩
 . show Ak (rset c.m.words _ v) (p.first f+j)=_;rw[A9 Aa Aa Aa];exact h.area j j0 j1
 . show Ak (rset c.m.words _ v) z=_;rw[A9 Aa Aa Aa]
variable {callP : Ct} {callC : Cr} {s : ByteArray} {fuel : Int}
theorem Ew(hg:DH W callC){e:PE}{l:List PE}{b:Bool}(hE:∀ws:List Int,ws.length=n->I8 p W callP callC s f ws e b)(hok:(e.core p f).Ok){x:PX}{c:CM}(h:Going p W f n x c):
 ∃v r1 v' c1,PX.ev p callP s f (e::l) x=(v,r1)/\Cu callC s (PE.coreL p f (e::l)) c=(v',c1)/\
  ((v=v'/\CW v/\Going p W f n {x with c:=r1} c1/\Kept (p.first f) c c1/\(c1.fin==0)=true/\(r1.fin==0)=true)\/(r1.m.fin≠0/\PSame p r1 c1/\(c1.fin==0)=false/\(r1.fin==0)=false)):=by
 obtain⟨v,r1,v',c1,e1,e2,hw,h'⟩:=ej hg (hE x.ws h.len) hok h.both h.area;refine⟨v,r1,v',c1,by unfold PX.ev;rw[CU];exact e1,by rw[PE.coreL];exact e2,?_⟩;rcases h' with⟨h0,hv,hb,hA,hwd,z1,z2⟩|⟨h0,z1,z2⟩
 . exact .inl ⟨hv,hwd,⟨hb,hA,h.len,h.back,h.val⟩,hw.keep h0,z1,z2⟩
 . exact .inr ⟨h0,hw.alike,z1,z2⟩
def Pz(p:PProg)(W f n:Nat)(callP:Ct)(callC:Cr)(s:ByteArray)(fuel:Int)(st:PSt):Prop:=∀x c,Going p W f n x c->Did p f n c (st.run p callP s fuel f x) ((st.core p f).run callC s fuel c)
theorem Qi:∀(l:List PSt) {x:PX},x.on=false->PSt.runL p callP s fuel f l x=x
 | [],_,_=>by rw[PSt.runL]
 |st::l,x,h=>by rw[PSt.runL,h];rfl
theorem Es:∀{l:List PSt},(∀st∈l,Pz p W f n callP callC s fuel st/\Hb W callC s fuel (st.core p f))->∀{x:PX} {c c0:CM},Did p f n c0 x c->c.good W->Did p f n c0 (PSt.runL p callP s fuel f l x) (CS.runL callC s fuel (PSt.coreL p f l) c)
 | [],_,x,c,c0,h,_=>by rw[PSt.runL,PSt.coreL,CS.runL];exact h
 |st::l,hI,x,c,c0,h,hgd=>by
  rw[PSt.runL,PSt.coreL,CS.runL,h.on]
  cases hx:x.on with
  |false=>exact h
  |true=>
   have hst:=hI st At;have h1:=hst.1 x c (h.going hx hgd);have h0:x.fin=0:=(h.going hx hgd).both.r0;exact Es (fun u hu=>hI u Hq) (h1.more (h.keep h0)) (hst.2 c hgd)
theorem HZ(hG:Uk p W)(hc:CallsAlike p W callP callC f)(hg:DH W callC){F:PFn}(hF:p.funcs[f]?=some F)(hn:n=F.names.length){w:Bool}:
 ∀(m:Nat) (st:PSt),st.parts<=m->st.fit p f w->(st.core p f).Ok->Pz p W f n callP callC s fuel st
 |0,st,hm,_,_=>by cases st;rw[PSt.parts]at hm;omega
 |m+1,.mk k nm es thn els,hm,hf,hok=>by
  rw[PSt.parts]at hm;obtain⟨oE,oT,oL⟩:=S0 hok;rw[PSt.fit]at hf;obtain⟨fE,fT,fL,hf⟩:=hf;have iE:∀e∈es,∀ws:List Int,ws.length=n->I8 p W callP callC s f ws e (k==4||k==5):=fun e he ws hl=>Ra hc hg (fun G h=>by rw[hF]at h;cases h;rw[hl,hn]) e.parts e _ (Nat.le_refl _) (PE.fitL_mem fE e he) (oE e he)
  have iT:∀st∈thn,Pz p W f n callP callC s fuel st/\Hb W callC s fuel (st.core p f):=fun e he=>⟨HZ hG hc hg hF hn m e PP (PSt.fitL_mem fT e he) (oT e he),Fv hg _ _ (Nat.le_refl _) (oT e he)⟩
  have iL:∀st∈els,Pz p W f n callP callC s fuel st/\Hb W callC s fuel (st.core p f):=fun e he=>⟨HZ hG hc hg hF hn m e PP (PSt.fitL_mem fL e he) (oL e he),Fv hg _ _ (Nat.le_refl _) (oL e he)⟩
  have hle:=JG (p:=p) f;intro x c h;rw[PSt.run,PSt.core_eq,CS.run];have hsp:=BQ p f nm;rcases hf with⟨rfl,hnm,hfd,hl⟩|⟨rfl,hnm,hfd,hl⟩|⟨rfl,hnm,hl⟩|⟨rfl,hnm,hl⟩|⟨rfl,hnm,hl⟩|⟨rfl,hnm,hfd,hlt,G,hG',hl,_⟩|⟨rfl,hnm,hl⟩
  . obtain⟨e,rfl⟩:=SK hl;have hz:(nm.size==0)=false:=by simpa using hnm
    rw[hz];rw[if_pos rfl,if_neg Ab,if_neg Ab];obtain⟨v,r1,v',c1,e1,e2,h'⟩:=Ew (l:=[]) hg (iE e At) (oE e At) h;rw[e1,e2];dsimp only;rcases h' with⟨rfl,hv,hg1,hk,z1,z2⟩|⟨h0,ha,z1,z2⟩
    . rw[z1,z2,if_neg Ab,if_pos rfl];simp only[cond_true,cond_false];generalize hi:p.find f nm=K at hfd hsp|-;obtain⟨kd,i⟩:=K;dsimp only at hfd hsp|-;rcases hfd with rfl|rfl
      . obtain⟨G,hG',h1,h2⟩:=hsp.1 rfl;rw[hF]at hG'
        cases hG'
        have hs:(p.slot f nm).1=p.first f+i:=by unfold PProg.slot;rw[hi];rfl
        rw[hs];obtain⟨a1,a2⟩:=hg1.own hG hF hn h1 Aa hv;exact a1.did ((hk.less hle).trans a2)
      . obtain⟨h1,h2⟩:=hsp.2.1 rfl;have hs:(p.slot f nm).1=i:=by unfold PProg.slot;rw[hi];rfl
        rw[hs];obtain⟨a1,a2⟩:=hg1.var hG h1 h2 hv;exact a1.did ((hk.less hle).trans a2)
    . rw[z1,z2];exact Did.off ha h0
  . obtain⟨e,e',rfl⟩:=eh hl;have hz:(nm.size==0)=false:=by simpa using hnm
    rw[hz];rw[if_neg Ab,if_pos rfl,if_neg Ab,if_neg Ab];obtain⟨v,r1,v',c1,e1,e2,h'⟩:=Ew (l:=[e']) hg (iE e At) (oE e At) h;rw[e1,e2];dsimp only;rcases h' with⟨rfl,hv,hg1,hk,z1,z2⟩|⟨h0,ha,z1,z2⟩
    . obtain⟨u,r2,u',c2,e3,e4,h'⟩:=Ew (l:=[]) hg (iE e' At) (oE e' At) hg1;have e5:(PE.coreL p f [e,e']).drop 1=PE.coreL p f [e']:=by rw[PE.coreL];rfl
      rw[z1,if_neg Ab,if_neg Ab,if_pos rfl,e5];simp only[List.drop_succ_cons,List.drop_zero,cond_true,cond_false];rw[e3,e4];dsimp only;rcases h' with⟨rfl,hu,hg2,hk2,y1,y2⟩|⟨h0,ha,y1,y2⟩
      . rw[y1,y2];simp only[cond_true];generalize hi:p.find f nm=K at hfd hsp|-;obtain⟨kd,i⟩:=K;dsimp only at hfd hsp|-;subst hfd;obtain⟨h1,h2⟩:=hsp.2.2.1 rfl;have hx:p.arrays[i.toNat]?=some (p.arrays[i.toNat]'(Aa)):=List.getElem?_eq_getElem _;generalize p.arrays[i.toNat]'(Aa)=X at hx;rw[Kl hi hx];have hk3:=(hk.trans hk2).less hle;have haz:((r2.arr i).length:Int)=X.2:=hg2.both.full.az i.toNat X hx;rw[haz]
        by_cases hge:v>=X.2
        . rw[decide_eq_true hge];exact Did.off ⟨rfl,fun e=>absurd e YS,fun _ _=>⟨hg2.both.full.out,hg2.both.full.steps⟩⟩ YS
        . rw[decide_eq_false hge];obtain⟨a1,a2⟩:=hg2.store hG h1 hx hv.1 Aa hu;exact a1.did (hk3.trans a2)
      . rw[y1,y2];exact Did.off ha h0
    . have hev:PX.ev p callP s f ([e,e'].drop 1) {x with c:=r1}=(0,r1):=by
       unfold PX.ev;simp only[List.drop_succ_cons,List.drop_zero];rw[CU];exact MF e' h0
      rw[z1,hev];dsimp only;rw[z2];exact Did.off ha h0
  . obtain⟨e,rfl⟩:=SK hl;rw[if_neg Ab,if_neg Ab,if_pos rfl,if_neg Ab,if_neg Ab];obtain⟨v,r1,v',c1,e1,e2,h'⟩:=Ew (l:=[]) hg (iE e At) (oE e At) h;rw[e1,e2];dsimp only;rcases h' with⟨rfl,hv,hg1,hk,z1,z2⟩|⟨h0,ha,z1,z2⟩
    . rw[z1,z2,if_neg Ab,if_neg Ab,if_neg Ab,if_pos rfl];simp only[cond_true];have ho:c1.m.out=r1.m.out:=hg1.both.full.out;rw[show decide (c1.m.out.length>=65536)=decide (r1.m.out.length>=65536) by rw[ho]]
      by_cases hge:r1.m.out.length>=65536
      . rw[decide_eq_true hge];simp only[cond_true];exact Did.off ⟨rfl,fun e=>absurd e (by show(4:Int)≠0;decide),fun _ _=>⟨hg1.both.full.out,hg1.both.full.steps⟩⟩ (by show(4:Int)≠0;decide)
      . rw[decide_eq_false hge];have hG2:Going p W f n {x with c:=r1.put {r1.m with out:=r1.m.out++[Ef v]}} (c1.put {c1.m with out:=c1.m.out++[Ef v]}):=
         ⟨⟨hg1.both.r0,hg1.both.c0,hg1.both.o,⟨by show c1.m.out++_=r1.m.out++_;rw[ho],hg1.both.full.read,hg1.both.full.steps,hg1.both.full.vl,hg1.both.full.al,hg1.both.full.az,hg1.both.full.v,hg1.both.full.a⟩,⟨⟨hg1.both.good.m.len,hg1.both.good.m.words,by show(c1.m.out++[Ef v]).length<=65536;rw[ho,List.length_append];simp;omega⟩,hg1.both.good.val⟩⟩,hg1.area,hg1.len,hg1.back,hg1.val⟩
        exact hG2.did (hk.less hle)
    . rw[z1,z2];exact Did.off ha h0
  . obtain⟨e,rfl⟩:=SK hl;rw[if_neg Ab,if_neg Ab,if_neg Ab,if_pos rfl,if_neg Ab,if_neg Ab];obtain⟨v,r1,v',c1,e1,e2,h'⟩:=Ew (l:=[]) hg (iE e At) (oE e At) h;rw[e1,e2];dsimp only;rcases h' with⟨rfl,hv,hg1,hk,z1,z2⟩|⟨h0,ha,z1,z2⟩
    . rw[z1,if_neg Ab,if_neg Ab,if_neg Ab,if_neg Ab];simp only[cond_true]
      cases v==0 with
      |true=>exact Es iL (hg1.did (hk.less hle)) hg1.both.good
      |false=>exact Es iT (hg1.did (hk.less hle)) hg1.both.good
    . rw[z1];have hoff:({x with c:=r1}:PX).on=false:=by unfold PX.on PX.fin;rw[z2];rfl
      rw[Qi _ hoff,Qi _ hoff]
      cases v==0<;>exact Did.off ha h0
  . obtain⟨e,rfl⟩:=SK hl;rw[if_neg Ab,if_neg Ab,if_neg Ab,if_neg Ab,if_pos rfl,if_neg Ab,if_pos rfl];have:=Kt (p:=p) (W:=W) (f:=f) (n:=n) (fuel:=fuel) (cond:=fun x=>PX.ev p callP s f [e] x) (body:=fun x=>PSt.runL p callP s fuel f thn x) (condC:=Cu callC s (PE.coreL p f [e])) (bodyC:=fun c=>CS.runL callC s fuel (PSt.coreL p f thn) c)
     (fun x c h=>?_) (fun x c h=>⟨Es iT (h.did (Kept.refl _ _)) h.both.good,Fg (fun st hs=>?_) h.both.good⟩) (fuel.toNat+1) (h.did (Kept.refl _ _)) h.both.good
    . rw[h.on]at this;exact this
    . have hE:=iE e At x.ws h.len x.c c h.both h.area;have hgd:=Ic (s:=s) hg _ (e.core p f) (Nat.le_refl _) (oE e At) c h.both.good;unfold PX.ev;rw[CU,PE.coreL];exact⟨hE,hgd.1⟩
    . rw[PSt.coreL_map]at hs;obtain⟨u,hu,rfl⟩:=List.mem_map.1 hs;exact(iT u hu).2
  . have hz:(nm.size==0)=false:=by simpa using hnm
    rw[hz];rw[if_neg Ab,if_neg Ab,if_neg Ab,if_neg Ab,if_neg Ab,if_pos rfl,if_pos rfl];generalize hi:p.find f nm=K at hfd hsp hlt hG'|-;obtain⟨kd,i⟩:=K;dsimp only at hfd hsp hlt hG'|-;subst hfd;obtain⟨h1,h2⟩:=hsp.2.2.2 rfl;have hs:(p.slot f nm).1=((i.toNat:Nat):Int):=by
     unfold PProg.slot;rw[hi];show i=_;omega
    rw[hs];simp only[cond_false];have hW:=Kb (s:=s) (ws:=x.ws) hc hg Aa hG' es (fun e he=>⟨iE e he x.ws h.len,oE e he⟩) [] x.c c (by simpa using hl) Kr h.both h.area;generalize PE.evC p callP s f x.ws i.toNat es [] x.c=R at hW|-;generalize CE.evC callC s ((i.toNat:Nat):Int) (PE.coreL p f es) [] c=C at hW|-;obtain⟨v,r1⟩:=R;obtain⟨v',c1⟩:=C;dsimp only;refine⟨hW.alike,fun _=>by rw[h.back];exact hW.o,fun _=>by show x.val=bif x.back then _ else _;rw[h.val,h.back];rfl,fun h0=>h.area.kept (hW.keep h0),fun _=>h.len,fun h0=>(hW.keep h0).less hle⟩
  . rw[if_neg Ab,if_neg Ab,if_neg Ab,if_neg Ab,if_neg Ab,if_neg Ab,if_pos rfl,if_neg Ab,if_neg Ab];rcases hl with rfl|⟨hl,_⟩
    . have e1:PX.ev p callP s f [] x=(0,x.c):=by unfold PX.ev;rw[CU]
      have e2:Cu callC s (PE.coreL p f []) c=(0,c):=by rw[PE.coreL];rfl
      rw[e1,e2];dsimp only;rw[show(c.fin==0)=true by simpa[CM.fin]using h.both.c0,if_pos rfl];exact⟨⟨h.both.c0.trans h.both.r0.symm,fun _=>h.both.full.mark true 0,fun h1=>absurd h.both.r0 h1⟩,fun _=>rfl,fun _=>rfl,fun _=>h.area,fun _=>h.len,fun _=>Kept.refl _ _⟩
    . obtain⟨e,rfl⟩:=SK hl;obtain⟨v,r1,v',c1,e1,e2,h'⟩:=Ew (l:=[]) hg (iE e At) (oE e At) h;rw[e1,e2];dsimp only;rcases h' with⟨rfl,hv,hg1,hk,z1,z2⟩|⟨h0,ha,z1,z2⟩
      . rw[z1,if_pos rfl];exact⟨⟨hg1.both.c0.trans hg1.both.r0.symm,fun _=>hg1.both.full.mark true v,fun h1=>absurd hg1.both.r0 h1⟩,fun _=>rfl,fun _=>rfl,fun _=>hg1.area,fun _=>hg1.len,fun _=>hk.less hle⟩
      . rw[z1];exact Did.off ha h0
end
theorem Vu{w:List Int}{a:Int}(ha:0<=a)(k:Nat)(l:List Int){z:Int}(hz:0<=z):
 Ak (CT (Bt w a k) a l l.length) z=if a<=z/\z<a+l.length/\z<w.length then Ak l (z-a)else if a<=z/\z<a+k/\z<w.length then 0 else Ak w z:=by
 unfold Ak;rw[Il ha,HV ha,DQ];have e:((z.toNat:Nat):Int)=z:=by omega
 rw[e]
 by_cases h1:a<=z/\z<a+l.length/\z<w.length
 . rw[if_pos ⟨h1.1,h1.2.1,by omega⟩,if_pos h1];rfl
 . rw[if_neg (fun h=>h1 ⟨h.1,h.2.1,by omega⟩),if_neg h1]
   by_cases h2:a<=z/\z<a+k/\z<w.length
   . rw[if_pos ⟨h2.1,h2.2.1,by omega⟩,if_pos h2];rfl
   . rw[if_neg (fun h=>h2 ⟨h.1,h.2.1,by omega⟩),if_neg h2]
theorem WO(l:List Int)(k:Nat){j:Int}(h0:0<=j):Ak (l++List.replicate k 0) j=if j<l.length then Ak l j else 0:=by
 unfold Ak
 by_cases h:j<l.length
 . rw[if_pos h,List.getElem?_append_left Aa]
 . rw[if_neg h,List.getElem?_append_right Aa,List.getElem?_replicate]
   by_cases h2:j.toNat-l.length<k
   . rw[if_pos h2];rfl
   . rw[if_neg h2];rfl
theorem H4(k:Nat)(j:Int):Ak (List.replicate k 0) j=0:=by
 unfold Ak;rw[List.getElem?_replicate];split<;>rfl
theorem F5(p:PProg)(g:Nat):p.core.funcs[g]?=(p.funcs[g]?).map (p.coreF g):=by
 show(p.funcs.zipIdx.map fun x=>p.coreF x.2 x.1)[g]?=_;rw[List.getElem?_map,List.getElem?_zipIdx]
 cases p.funcs[g]? with
 |none=>rfl
 |some G=>show some (p.coreF (0+g) G)=_;rw[Nat.zero_add];rfl
structure PFit(p:PProg):Prop where
  geo:Uk p p.words.toNat
  ok:p.core.Ok
  fit:∀(f:Nat) (G:PFn),p.funcs[f]?=some G->PSt.fitL p f G.word G.body
  main:∀G,p.funcs[p.funcs.length-1]?=some G->G.params=[]
theorem PFit.body{p:PProg}(h:PFit p){f:Nat}{G:PFn}(hG:p.funcs[f]?=some G):∀st∈G.body,(st.core p f).Ok:=fun st hs=>by
 have h1:p.core.funcs[f]?=some (p.coreF f G):=by rw[F5,hG];rfl
 refine(h.ok.funcs _ (List.mem_of_getElem? h1)).body _ ?_;show _∈PSt.coreL p f G.body;rw[PSt.coreL_map];exact List.mem_map.2 ⟨st,hs,rfl⟩
theorem CallsAlike.less{p:PProg}{W:Nat}{callP:Ct}{callC:Cr}{a b:Nat}(h:CallsAlike p W callP callC b)(hab:a<=b):CallsAlike p W callP callC a:=⟨h.1,fun g G hg=>h.2 g G (Nat.lt_of_lt_of_le hg hab)⟩
theorem KS{p:PProg}(hp:PFit p)(s:ByteArray)(fuel:Int):∀n:Nat,CallsAlike p p.words.toNat (CQ p s fuel n) (FM p.core s fuel n) n
 |0=>⟨fun g args r h=>by rw[CQ],fun g G hg=>absurd hg (Nat.not_lt_zero g)⟩
 |n+1=>by
  have ih:=KS hp s fuel n;refine⟨fun g args r h=>?_,fun g G hg hG args r c hl ha hb=>?_⟩
  . rw[CQ,show(r.fin==0)=false by simpa[PM.fin]using h];rfl
  . rw[CQ,FM,show(r.fin==0)=true by simpa[PM.fin]using hb.r0];simp only[Bool.true_and];rcases Lv hb fuel with⟨t1,t2,t3⟩|⟨t1,t2,t3⟩
    . have hat:p.core.funcs[((g:Nat):Int).toNat]?=some (p.coreF g G):=by rw[Int.toNat_natCast,F5,hG];rfl
      rw[t1,hG,hat,show((r.tick fuel).fin==0)=true by simpa[PM.fin]using t2.r0];dsimp only[cond_true];have hfb:=Ce (p:=p) g;have hbz:=Dt hp.geo;have hf0:0<=p.first g:=by omega
      have hnx:=Ex hG;have hfl:g<p.funcs.length:=(List.getElem?_eq_some_iff.1 hG).1;have hfw:=Ck (p:=p) (show g+1<=p.funcs.length from hfl);have hWl:=hb.good.m.len;have hnames:G.names.length=G.params.length+G.locals.length:=by unfold PFn.names;rw[List.length_append]
      have hsl:(p.coreF g G).slots.toNat=G.names.length:=Int.toNat_natCast _;have hfi:(p.coreF g G).first=p.first g:=rfl
      have hbd:(p.coreF g G).body=PSt.coreL p g G.body:=rfl;rw[hsl,hfi,hbd];have hget:∀z:Int,0<=z->_:=fun z hz=>Vu (w:=c.m.words) hf0 G.names.length args hz
      have hgood:CM.good p.words.toNat ((BH fuel c).2.put {(BH fuel c).2.m with words:=CT (Bt c.m.words (p.first g) G.names.length) (p.first g) args args.length}):=
       ⟨⟨by show(CT _ _ _ _).length=_;rw[EC,DQ];exact hWl,Li (K2 hb.good.m.words _ _) _ ha _,t2.good.m.out⟩,t2.good.val⟩
      have hlow:∀z:Int,0<=z->(z<p.first g\/p.first (g+1)<=z)->Ak (CT (Bt c.m.words (p.first g) G.names.length) (p.first g) args args.length) z=Ak c.m.words z:=fun z h0 h1=>by
       rw[hget z h0,if_neg Aa,if_neg Aa]
      have hF:=t2.full;have hgo:Going p p.words.toNat g G.names.length ⟨args++List.replicate G.locals.length 0,false,0,r.tick fuel⟩ ((BH fuel c).2.put {(BH fuel c).2.m with words:=CT (Bt c.m.words (p.first g) G.names.length) (p.first g) args args.length}):=by
       refine⟨⟨t2.r0,t2.c0,t2.o,⟨hF.out,hF.read,hF.steps,hF.vl,hF.al,hF.az,fun j h0 h1=>?_,fun i x j hx h0 h1=>?_⟩,hgood⟩,fun j h0 h1=>?_,?_,rfl,rfl⟩
       . show Ak (CT _ _ _ _) j=_;rw[hlow j h0 (.inl Aa),<-t3];exact hF.v j h0 h1
       . have a1:=Du hx;have a2:=Fo hp.geo (i+1);have a3:=D1 hp.geo i;show Ak (CT _ _ _ _) _=_;rw[hlow _ Aa (.inl Aa),<-t3];exact hF.a i x j hx h0 h1
       . have h1':j<(args++List.replicate G.locals.length 0).length:=h1;rw[List.length_append,List.length_replicate]at h1';show Ak (CT _ _ _ _) _=Ak (args++List.replicate G.locals.length 0) j;rw[hget _ Aa,WO _ _ h0]
         by_cases hj:j<args.length
         . rw[if_pos ⟨by omega,by omega,by omega⟩,if_pos hj,show p.first g+j-p.first g=j by omega]
         . rw[if_neg Aa,if_pos ⟨by omega,by omega,by omega⟩,if_neg hj]
       . show(args++List.replicate G.locals.length 0).length=_;rw[List.length_append,List.length_replicate];omega
      have hdid:=Es (p:=p) (W:=p.words.toNat) (f:=g) (n:=G.names.length) (callP:=CQ p s fuel n) (callC:=FM p.core s fuel n) (s:=s) (fuel:=fuel) (l:=G.body)
       (fun st hs=>⟨HZ hp.geo (ih.less (Nat.le_of_lt_succ hg)) (GD hp.ok n) hG rfl st.parts st (Nat.le_refl _) (PSt.fitL_mem (hp.fit g G hG) st hs) (hp.body hG st hs),Fv (GD hp.ok n) _ _ (Nat.le_refl _) (hp.body hG st hs)⟩)
       (hgo.did (Kept.refl _ _)) hgood
      generalize PSt.runL p (CQ p s fuel n) s fuel g G.body _=X at hdid|-;generalize CS.runL (FM p.core s fuel n) s fuel (PSt.coreL p g G.body) _=C at hdid|-;have hkeep:X.fin=0->Kept (p.first (g+1)) c C:=fun e z hz=>by
       rw[hdid.keep e z hz];exact hlow z Aa (.inr hz)
      have hv:=hdid.val;have ho:=hdid.over
      cases hov:C.over with
      |true=>
       refine⟨⟨hdid.alike.fin,fun e=>(hdid.alike.full e).mark false C.val,hdid.alike.over⟩,rfl,fun e=>?_,fun e=>absurd e Ab,fun e z hz=>hkeep e z hz⟩;show X.val=C.val;have e':X.fin=0:=e;rw[hv e',<-ho e',hov];rfl
      |false=>
       refine⟨hdid.alike,hov,fun e=>?_,fun e=>absurd e Ab,fun e z hz=>hkeep e z hz⟩;show X.val=0;have e':X.fin=0:=e;rw[hv e',<-ho e',hov];rfl
    . rw[t1,show((r.tick fuel).fin==0)=false by simp[PM.fin,t2]];dsimp only[cond_false,cond_true];have hn:(r.tick fuel).m.fin≠0:=by rw[t2];decide
      exact⟨I5 t2 t3,hb.o,fun e=>absurd e hn,fun e=>absurd e Ab,fun e=>absurd e hn⟩
theorem UY{p:PProg}(hp:PFit p)(s:ByteArray)(fuel:Int)(h5:(Js p s fuel).fin≠5):
 (Iq p.core s fuel).fin=(Js p s fuel).fin/\(Iq p.core s fuel).out=(Js p s fuel).out/\(Iq p.core s fuel).steps=(Js p s fuel).steps:=by
 unfold Js at h5|-;unfold Iq;have hlen:p.core.funcs.length=p.funcs.length:=by
  exact Wa
 rw[hlen,F5]
 cases hG:p.funcs[p.funcs.length-1]? with
 |none=>exact⟨rfl,rfl,rfl⟩
 |some G=>
  rw[hG]at h5;dsimp only[Option.map_some]at h5|-;have hpar:=hp.main G hG;have hnm:G.names=G.locals:=by unfold PFn.names;rw[hpar];rfl
  have hbd:(p.coreF (p.funcs.length-1) G).body=PSt.coreL p (p.funcs.length-1) G.body:=rfl;rw[hbd];have hw0:0<=p.words:=by
   have h1:=Dt hp.geo;have h2:=Ce (p:=p) 0;have h3:=Ck (p:=p) (Nat.zero_le _);omega
  have hz:∀z:Int,Ak (c0 p.core).m.words z=0:=fun z=>H4 _ z
  have hc0:CM.good p.words.toNat (c0 p.core):=⟨⟨List.length_replicate,fun v hv=>by rw[(List.mem_replicate.1 hv).2];exact isW_zero,Nat.zero_le _⟩,isW_zero⟩;have harr:∀(i:Nat) (x:ByteArray×Int),p.arrays[i]?=some x->p.start.arr i=List.replicate x.2.toNat 0:=fun i x hx=>by
   unfold PM.arr;rw[Int.toNat_natCast];show((p.arrays.map fun a=>List.replicate a.2.toNat 0)[i]?).getD []=_;rw[List.getElem?_map,hx];rfl
  have hgo:Going p p.words.toNat (p.funcs.length-1) G.names.length ⟨List.replicate G.locals.length 0,false,0,p.start⟩ (c0 p.core):=by
   refine⟨⟨rfl,rfl,rfl,⟨rfl,rfl,rfl,List.length_replicate,List.length_map _,fun i x hx=>?_,fun j h0 h1=>?_,fun i x j hx h0 h1=>?_⟩,hc0⟩,fun j h0 h1=>?_,?_,rfl,rfl⟩
   . rw[harr i x hx,List.length_replicate];have:=hp.geo.z i x hx;omega
   . rw[hz];exact(H4 _ _).symm
   . rw[hz,harr i x hx];exact(H4 _ _).symm
   . rw[hz];exact(H4 _ _).symm
   . show(List.replicate G.locals.length 0).length=_;rw[List.length_replicate,hnm]
  have hdid:=Es (p:=p) (W:=p.words.toNat) (f:=p.funcs.length-1) (n:=G.names.length) (callP:=CQ p s fuel (p.funcs.length-1)) (callC:=FM p.core s fuel (p.funcs.length-1)) (s:=s) (fuel:=fuel) (l:=G.body)
   (fun st hs=>⟨HZ hp.geo (KS hp s fuel _) (GD hp.ok _) hG rfl st.parts st (Nat.le_refl _) (PSt.fitL_mem (hp.fit _ G hG) st hs) (hp.body hG st hs),Fv (GD hp.ok _) _ _ (Nat.le_refl _) (hp.body hG st hs)⟩)
   (hgo.did (Kept.refl _ _)) hc0
  generalize PSt.runL p (CQ p s fuel (p.funcs.length-1)) s fuel (p.funcs.length-1) G.body _=X at hdid h5|-;generalize CS.runL (FM p.core s fuel (p.funcs.length-1)) s fuel (PSt.coreL p (p.funcs.length-1) G.body) _=C at hdid|-;have ha:=hdid.alike
  by_cases h0:X.c.m.fin=0
  . have h1:C.m.fin=0:=ha.fin.trans h0;have hf:=ha.full h0;rw[h0,h1];exact⟨rfl,hf.out,hf.steps⟩
  . have h1:C.m.fin≠0:=by rw[ha.fin];exact h0
    have e0:(X.c.m.fin==0)=false:=by simpa using h0
    have e1:(C.m.fin==0)=false:=by simpa using h1
    rw[e0]at h5|-;rw[e1];have:=ha.over h0 h5;exact⟨ha.fin,this.1,this.2⟩
end Go.Proofs.YtmfihmkopmgelaaGreat.Sv
