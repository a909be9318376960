/-
  A PROGRAM WITHOUT WHAT IS DEAD ENDS ALIKE, IN NO MORE STEPS, in plain Lean: own work.
-/
import Derived.Test.YtbbfelelocccmaaGreatPOptimizeLess5
import Derived.Test.YtbbfelelocccmaaGreatPOptimizeLess4
import Derived.Test.YtbbfelelocccmaaGreatPOptimizeLess3
set_option linter.unusedVariables false
set_option linter.unusedSimpArgs false
set_option maxRecDepth 100000
set_option maxHeartbeats 2000000
namespace Go.Proofs.YtbbfelelocccmaaGreat.Sv
open Go
section
variable {call call' : Int -> Mach -> Mach} {s : ByteArray} {fuel : Int}
theorem Hy(t:Tac)(r:List Tac)(regs:List Int)(m:Mach):A8 call s fuel (t::r) regs m=bif (Ax fuel m).1 then(bif (mone call s t regs (Ax fuel m).2).2.fin==0 then A8 call s fuel r (mone call s t regs (Ax fuel m).2).1 (mone call s t regs (Ax fuel m).2).2 else(false,mone call s t regs (Ax fuel m).2))else(false,regs,(Ax fuel m).2):=rfl
theorem Ow: ∀(l1 l2:List Tac) (regs:List Int) (m:Mach),A8 call s fuel (l1++l2) regs m=bif (A8 call s fuel l1 regs m).1 then A8 call s fuel l2 (A8 call s fuel l1 regs m).2.1 (A8 call s fuel l1 regs m).2.2 else A8 call s fuel l1 regs m
 | [],l2,regs,m=>rfl
 | t::r,l2,regs,m=>by
  simp only[List.cons_append];rw[Hy,Hy]
  cases (Ax fuel m).1 with
  | false=>rfl
  | true=>
   simp only[cond_true]
   cases (mone call s t regs (Ax fuel m).2).2.fin==0 with
   | false=>rfl
   | true=>simp only[cond_true];exact Ow r l2 _ _
theorem KD(l:List Int)(z v:Int):(AS l z v).length=l.length:=List.length_set
theorem Uc(t:Tac){r r':List Int}(ha:use1 t.op=true\/use2 t.op=true->rget r t.a=rget r' t.a)(hb:use2 t.op=true->rget r t.b=rget r' t.b)(m:Mach):
 (mone call s t r m).2=(mone call s t r' m).2/\((setsOp t.op=true/\∃v,(mone call s t r m).1=AS r t.d v/\(mone call s t r' m).1=AS r' t.d v)\/((mone call s t r m).1=r/\(mone call s t r' m).1=r'/\(setsOp t.op=false\/(mone call s t r m).2.fin≠0))):=by
 unfold mone
 cases e1:t.op==1 with
 | true=>exact⟨rfl,.inl ⟨by simp[setsOp,e1],_,rfl,rfl⟩⟩
 | false=>
 cases e2:t.op==2 with
 | true=>rw[ha (.inl (by simp[use1,e2]))];exact⟨rfl,.inl ⟨by simp[setsOp,e2],_,rfl,rfl⟩⟩
 | false=>
 cases e3:t.op==3 with
 | true=>
  grind[use2,B5,rget,setsOp,use1,mone,AS]
 | false=>
 cases e4:t.op==4 with
 | true=>exact⟨rfl,.inl ⟨by simp[setsOp,e4],_,rfl,rfl⟩⟩
 | false=>
 cases e5:t.op==5 with
 | true=>rw[ha (.inl (by simp[use1,e5]))];exact⟨rfl,.inr ⟨rfl,rfl,.inl (by rw[eq_of_beq e5];rfl)⟩⟩
 | false=>
 cases e6:t.op==6 with
 | true=>
  grind[use1,rget,setsOp,use2,mone,AS,B5]
 | false=>
 cases e7:t.op==7 with
 | true=>
  grind[use2,rget,use1,mone,setsOp,AS,B5]
 | false=>
 cases e8:t.op==8 with
 | true=>
  grind[setsOp,use1,use2,rget,mone,AS,B5]
 | false=>
 have hs:setsOp t.op=false:=by simp[setsOp,e1,e2,e3,e4,e6,e8]
 cases e9:t.op==9 with
 | true=>
  grind[use1,use2,rget,mone,setsOp,AS,B5]
 | false=>
 cases t.op==10<;>exact⟨rfl,.inr ⟨rfl,rfl,.inl hs⟩⟩
theorem Jn{l:List Int}{z:Int}{w:Nat}{v:Int}(hz:0<=z):rget (AS l z v) (w:Int)=if z=(w:Int)/\z.toNat<l.length then v else rget l (w:Int):=by
 grind[rget,AS]
def Tac.low(t:Tac):Prop:=(setsOp t.op=true->0<=t.d)/\(use1 t.op=true\/use2 t.op=true->0<=t.a)/\(use2 t.op=true->0<=t.b)
def DM(p:Nat->Bool)(r r':List Int):Prop:=r.length=r'.length/\∀v:Nat,p v=true->rget r (v:Int)=rget r' (v:Int)
theorem GS{t:Tac}(h:setsOp t.op=true):t.sets=t.d:=by unfold Tac.sets;rw[h];rfl
theorem YO{t:Tac}(h:setsOp t.op=false):t.sets= -1:=by unfold Tac.sets;rw[h];rfl
def Fq(z:Nat->Bool)(X Y:Bool×List Int×Mach):Prop:=X.1=false/\X.2.2.fin=5\/X.1=Y.1/\X.2.2.Le Y.2.2/\(X.1=true->X.2.2.fin=0/\DM z X.2.1 Y.2.1)/\(X.1=false->X.2.2.fin≠0)
theorem WO{t:Tac}{r:List Tac}{z:Nat->Bool}{a b:List Int}(h:DM (fun v=>need v (t::r) (z v)) a b)(hl:t.low):(use1 t.op=true\/use2 t.op=true->rget a t.a=rget b t.a)/\(use2 t.op=true->rget a t.b=rget b t.b):=by
 have key: ∀u,0<=u->t.uses.contains u=true->rget a u=rget b u:=fun u hu hc=>by
  grind[need,DM,use1,use2,rget]
 have e12:=Nu t.op;constructor
 . intro e;refine key t.a (hl.2.1 e) ?_;rcases e with e | e<;>simp[Tac.uses,e]<;>cases use1 t.op<;>simp
 . intro e;rw[e,Bool.and_true]at e12;exact key t.b (hl.2.2 e) (by simp[Tac.uses,e,e12])
theorem Qx{ok:Int->Prop}(hc:BD call call' ok){t:Tac}{r:List Tac}{z:Nat->Bool}(ht:t.op=10->ok t.base)(hl:t.low){a b:List Int}(h:DM (fun v=>need v (t::r) (z v)) a b){m m':Mach}(h0:m.fin=0)(hm:m.Le m'):
 (mone call s t a m).2.Sim (mone call' s t b m').2/\((mone call s t a m).2.fin=0->DM (fun v=>need v r (z v)) (mone call s t a m).1 (mone call' s t b m').1):=by
 obtain⟨u1,u2⟩:=WO h hl;obtain⟨e1,e2⟩:=Uc (call:=call) (s:=s) t u1 u2 m;obtain⟨s1,s2⟩:=Oq (s:=s) hc t ht b h0 hm;rw[e1,<-s1];refine⟨s2,fun hf=>?_⟩;rcases e2 with⟨hs,v,a1,a2⟩ |⟨a1,a2,a3⟩
 . rw[a1,a2];refine⟨by rw[KD,KD];exact h.1,fun w hw=>?_⟩;rw[Jn (hl.1 hs),Jn (hl.1 hs),h.1]
   by_cases hd:t.d=(w:Int)
   . by_cases hlen:t.d.toNat<b.length
     . rw[if_pos ⟨hd,hlen⟩,if_pos ⟨hd,hlen⟩]
     . rw[if_neg (fun e=>hlen e.2),if_neg (fun e=>hlen e.2)];have hw2:w>=b.length:=by omega
       unfold rget;rw[Int.toNat_natCast,List.getElem?_eq_none_iff.2 hw2,List.getElem?_eq_none_iff.2 (by rw[h.1];exact hw2)]
   . rw[if_neg (fun e=>hd e.1),if_neg (fun e=>hd e.1)];refine h.2 w ?_;show need w (t::r) (z w)=true;unfold need;rw[GS hs,show(t.d==(w:Int))=false by simpa using hd,show need w r (z w)=true from hw]
     simp
 . grind[need,YO,BD,DM,mone,rget]
theorem JA{ok:Int->Prop}(hc:BD call call' ok){z:Nat->Bool}: ∀(l:List Tac),(∀t∈l,(t.op=10->ok t.base)/\t.low)->∀{a b:List Int} {m m':Mach},DM (fun v=>need v l (z v)) a b->m.fin=0->m.Le m'->Fq z (A8 call s fuel l a m) (A8 call' s fuel l b m')
 | [],_,a,b,m,m',ha,h0,h=>.inr ⟨rfl,h,fun _=>⟨h0,ha⟩,fun e=>by cases e⟩
 | t::r,hl,a,b,m,m',ha,h0,h=>by
  unfold A8
  cases h1:(Ax fuel m).1 with
  | false=>exact .inl ⟨rfl,DY h1⟩
  | true=>
   obtain⟨a1,a2⟩:=IK h h1;have hz:(Ax fuel m).2.fin=0:=by rw[(Cd h1).2];exact h0
   obtain⟨b2,b1⟩:=Qx (s:=s) hc (hl t (by simp)).1 (hl t (by simp)).2 ha hz a2;rw[a1];simp only[cond_true];rcases b2 with b2 | b2
   . rw[show((mone call s t a (Ax fuel m).2).2.fin==0)=false by rw[b2];rfl];exact .inl ⟨rfl,b2⟩
   . rw[b2.fin]
     cases hf:(mone call s t a (Ax fuel m).2).2.fin==0 with
     | false=>
      simp only[cond_false];exact .inr ⟨rfl,b2,(fun e=>by cases e),fun _=>by simpa using hf⟩
     | true=>
      simp only[cond_true];exact JA hc r (fun u hu=>hl u (by simp[hu])) (b1 (by simpa using hf)) (by simpa using hf) b2
theorem fV{k a b:Int}(hk:4<=k/\k<=15)(h7:k≠7)(h8:k≠8):(B5 k a b).2=0:=by
 grind[B5]
theorem Qw{t:Tac}(hp:t.pure=true)(hk:t.op=3->4<=t.k/\t.k<=15)(r:List Int)(m:Mach): ∃v,mone call s t r m=(AS r t.d v,m):=by
 unfold Tac.pure at hp;simp only[Bool.or_eq_true,Bool.and_eq_true,Bool.not_eq_true',beq_eq_false_iff_ne,beq_iff_eq]at hp;unfold mone;rcases hp with h | h | h |⟨h,h7,h8⟩
 . rw[h];exact⟨_,rfl⟩
 . rw[h];exact⟨_,rfl⟩
 . rw[h];exact⟨_,rfl⟩
 . have:=fV (a:=rget r t.a) (b:=rget r t.b) (hk h) h7 h8;rw[h,this];exact⟨_,rfl⟩
theorem Qd{t:Tac}(hp:t.pure=true):setsOp t.op=true:=by
 grind[Tac.pure,setsOp]
theorem dh{ok:Int->Prop}(hc:BD call call' ok){z:Nat->Bool}{l1 l2:List Tac}{t:Tac}{v:Nat}(hl: ∀u∈l1++t::l2,(u.op=10->ok u.base)/\u.low)(hp:t.pure=true)(hk:t.op=3->4<=t.k/\t.k<=15)(hv:t.sets=(v:Int))(hd:need v l2 (z v)=false)
 {a b:List Int} {m m':Mach} (ha:DM (fun v=>need v (l1++t::l2) (z v)) a b) (h0:m.fin=0) (h:m.Le m'):Fq z (A8 call s fuel (l1++t::l2) a m) (A8 call' s fuel (l1++l2) b m'):=by
 have h1:=JA (s:=s) (fuel:=fuel) hc (z:=fun v=>need v (t::l2) (z v)) l1 (fun u hu=>hl u (by simp[hu])) (a:=a) (b:=b) ⟨ha.1,fun w hw=>ha.2 w (by show need w _ _=true;rw[Hw];exact hw)⟩ h0 h;rw[Ow,Ow];generalize A8 call s fuel l1 a m=X at h1 |-;generalize A8 call' s fuel l1 b m'=Y at h1 |-;obtain⟨X1,X2,X3⟩:=X;obtain⟨Y1,Y2,Y3⟩:=Y;rcases h1 with⟨h1,h2⟩ |⟨h1,h2,h3,h4⟩
 . grind[BD,need,DM,Fq,A8]
 . simp only at h1 h2 h3 h4;subst h1
   cases X1 with
   | false=>exact .inr ⟨rfl,h2,(fun e=>by cases e),h4⟩
   | true=>
    simp only[cond_true];obtain⟨hz,hag⟩:=h3 rfl;rw[Hy]
    cases hs:(Ax fuel X3).1 with
    | false=>exact .inl ⟨rfl,DY hs⟩
    | true=>
     obtain⟨val,hmo⟩:=Qw (call:=call) (s:=s) hp hk X2 (Ax fuel X3).2;obtain⟨e1,e2⟩:=Cd hs;rw[hmo];have hz':(Ax fuel X3).2.fin=0:=by rw[e2];exact hz
     simp only[cond_true];rw[hz'];have hlt:=(hl t (by simp)).2;have hso:=Qd hp;have hdv:t.d=(v:Int):=by rw[<-GS hso];exact hv
     have hkey:=JA (s:=s) (fuel:=fuel) hc (z:=z) l2 (fun u hu=>hl u (by simp[hu])) (a:=AS X2 t.d val) (b:=Y2) (m:=(Ax fuel X3).2) (m':=Y3)
      ⟨by rw[KD];exact hag.1,fun w hw=>by
       have hne: ¬t.d=(w:Int):=fun e=>by
        have:v=w:=by omega
        subst this;rw[show need v l2 (z v)=true from hw]at hd;cases hd
       rw[Jn (hlt.1 hso),if_neg (fun e=>hne e.1)];refine hag.2 w ?_;show need w (t::l2) (z w)=true;unfold need;rw[GS hso,show(t.d==(w:Int))=false by simpa using hne,show need w l2 (z w)=true from hw]
       simp⟩ hz' (by rw[e2];exact⟨h2.words,h2.out,h2.read,h2.fin,Nat.le_trans h2.steps (Nat.le_succ _)⟩)
     exact hkey
structure WR(ok:Int->Prop)(f:BFunc):Prop where
  ins: ∀x∈f.blocks,∀t∈x.ins,(t.op=10->ok t.base)/\t.low/\(t.op=3->4<=t.k/\t.k<=15)
  fin: ∀x∈f.blocks,(x.fin=1\/x.fin=2\/x.fin=3)/\(x.fin=2->0<=x.v)
theorem cX{k:Block}(hf:k.fin=1\/k.fin=2\/k.fin=3)(h3:(k.fin==3)=false)(regs:List Int):k.next regs∈k.nexts:=by
 grind[Block.next,Block.nexts,rget]
theorem Oj{f:BFunc}{k:Block}(hv:k.fin=2->0<=k.v){a b:List Int}(h:DM (endB f k) a b):k.next a=k.next b:=by
 unfold Block.next
 cases h2:k.fin==2 with
 | false=>rfl
 | true=>
  have h0:=hv (by simpa using h2);have:=h.2 k.v.toNat (by unfold endB Df;rw[h2,Int.toNat_of_nonneg h0];simp);rw[Int.toNat_of_nonneg h0]at this;rw[this]
theorem Pt{f:BFunc}{k:Block}(hf:k.fin=1\/k.fin=2\/k.fin=3)(h3:(k.fin==3)=false){a b:List Int}(h:DM (endB f k) a b):DM (fun v=>UC f v (k.next a).toNat) a b:=
 ⟨h.1,fun v hv=>h.2 v (by unfold endB;rw[outB_iff.2 ⟨_,cX hf h3 a,inB_iff.1 hv⟩,Bool.or_true])⟩
theorem Ui{ok:Int->Prop}(hc:BD call call' ok){f g:BFunc}{c:Nat}{x:Block}{l1 l2:List Tac}{t:Tac}{v:Nat}(hcut:EZ f g c x l1 t l2 v)(hf:WR ok f)(hcs: ∀i m,m.steps<=(call i m).steps)(hcs': ∀i m,m.steps<=(call' i m).steps):
 ∀(n:Nat) (n':Nat) (i:Int) (a b:List Int) (m m':Mach),DM (fun v=>UC f v i.toNat) a b->m.fin=0->m.Le m'->0<n->0<n'->Cw fuel n m->Cw fuel n' m'->(mblk call s fuel f n i a m).Sim (mblk call' s fuel g n' i b m')
 | 0,_,_,_,_,_,_,_,_,_,h,_,_,_=>absurd h (by omega)
 | _+1,0,_,_,_,_,_,_,_,_,_,h,_,_=>absurd h (by omega)
 | n+1,n'+1,i,a,b,m,m',hag,h0,h,_,_,hg,hg'=>by
  cases hk:f.blocks[i.toNat]? with
  | none=>
   have hk':g.blocks[i.toNat]?=none:=by
    rw[List.getElem?_eq_none_iff]at hk |-;rw[hcut.hg,IF];exact hk
   unfold mblk;rw[hk,hk'];exact .inr h
  | some k=>
   obtain⟨k',hk',hkn,hs⟩: ∃k',g.blocks[i.toNat]?=some k'/\(k'.fin=k.fin/\∀r,k'.next r=k.next r)/\Fq (endB f k) (A8 call s fuel k.ins a m) (A8 call' s fuel k'.ins b m'):=by
    have hin:=hf.ins k (List.mem_of_getElem? hk);have hag':DM (fun v=>need v k.ins (endB f k v)) a b:=⟨hag.1,fun w hw=>hag.2 w (by show UC f w _=true;rw[Wr hk];exact hw)⟩
    by_cases hci:c=i.toNat
    . subst hci;have:=hcut.hx.symm.trans hk;cases this;refine⟨x.mid (l1++l2),by rw[hcut.hg];exact D9 hcut.hx,⟨rfl,fun _=>rfl⟩,?_⟩;have hi:=hcut.hi;show Fq (endB f x) (A8 call s fuel x.ins a m) (A8 call' s fuel (l1++l2) b m');rw[hi]at hin hag' |-;exact dh hc (fun u hu=>⟨(hin u hu).1,(hin u hu).2.1⟩) hcut.pure (hin t (by simp)).2.2 hcut.hv hcut.dead hag' h0 h
    . exact⟨k,by rw[hcut.hg,GV hci];exact hk,⟨rfl,fun _=>rfl⟩,JA hc k.ins (fun u hu=>⟨(hin u hu).1,(hin u hu).2.1⟩) hag' h0 h⟩
   unfold mblk;rw[hk,hk'];have hst:=Dl (s:=s) (fuel:=fuel) hcs k.ins a m;have hst':=Dl (s:=s) (fuel:=fuel) hcs' k'.ins b m';have hfin:=hf.fin k (List.mem_of_getElem? hk);dsimp only;rw[hkn.1,hkn.2];generalize A8 call s fuel k.ins a m=X at hs hst |-;generalize A8 call' s fuel k'.ins b m'=Y at hs hst' |-;obtain⟨X1,X2,X3⟩:=X;obtain⟨Y1,Y2,Y3⟩:=Y;rcases hs with⟨h1,h2⟩ |⟨h1,h3,h4,h5⟩
   . simp only at h1 h2;subst h1;exact .inl h2
   . simp only at h1 h3 h4 h5 hst hst';subst h1
     cases X1 with
     | false=>exact .inr h3
     | true=>
      simp only[cond_true];obtain⟨hz,hag2⟩:=h4 rfl
      cases hm:(Ax fuel X3).1 with
      | false=>simp only[Bool.false_and,cond_false];exact .inl (DY hm)
      | true=>
       obtain⟨a1,a2⟩:=IK h3 hm;obtain⟨e1,e2⟩:=Cd hm;obtain⟨e1',e2'⟩:=Cd a1;rw[a1]
       cases hfin3:k.fin==3 with
       | true=>exact .inr a2
       | false=>
        simp only[Bool.not_false,Bool.and_self,cond_true];rw[<-Oj hfin.2 hag2];refine Ui hc hcut hf hcs hcs' n n' _ _ _ _ _ (Pt hfin.1 hfin3 hag2) (by rw[e2];exact hz) a2 ?_ ?_ ?_ ?_
        . unfold Cw at hg;omega
        . unfold Cw at hg';omega
        . unfold Cw at hg |-;rw[e2];dsimp only;omega
        . unfold Cw at hg' |-;rw[e2'];dsimp only;omega
theorem US{ok:Int->Prop}{f g:BFunc}(h:aH f g)(hf:WR ok f):WR ok g:=by
 obtain⟨c,x,l1,t,l2,v,h⟩:=h;have key: ∀y∈g.blocks,y∈f.blocks\/y=x.mid (l1++l2):=fun y hy=>by
  rw[h.hg]at hy;exact List.mem_or_eq_of_mem_set hy
 have hxm:=List.mem_of_getElem? h.hx;constructor
 . intro y hy u hu;rcases key y hy with hy | rfl
   . exact hf.ins y hy u hu
   . refine hf.ins x hxm u ?_;exact jF
 . intro y hy;rcases key y hy with hy | rfl
   . exact hf.fin y hy
   . exact hf.fin x hxm
theorem Zo{ok:Int->Prop}(hc:BD call call ok)(hc':BD call call' ok)(hcs: ∀i m,m.steps<=(call i m).steps)(hcs': ∀i m,m.steps<=(call' i m).steps){f g:BFunc}(h:Cuts f g)(hf:WR ok f){n:Nat}{i:Int}{a:List Int}{m:Mach}(h0:m.fin=0)(hn:0<n)(hg:Cw fuel n m){m':Mach}(hm:m.Le m')(hg':Cw fuel n m'):
 (mblk call s fuel f n i a m).Sim (mblk call' s fuel g n i a m'):=by
 induction h with
 | refl f=>exact mblk_sim hc' (fun x hx t ht ho=>(hf.ins x hx t ht).1 ho) hcs hcs' _ _ _ _ _ _ h0 hm hn hn hg hg'
 | step a1 _ ih=>
  have hfg:=US a1 hf;obtain⟨c,x,l1,t,l2,v,a1⟩:=a1;exact(Ui hc a1 hf hcs hcs _ _ _ _ _ _ _ ⟨rfl,fun _ _=>rfl⟩ h0 (Mach.Le.refl _) hn hn hg hg).trans (ih hfg)
end
theorem T6{f:BFunc}{n w:Int}(h:f.one n w=true):WR (fun j=>0<=j/\j<n) f:=by
 have hs:=CD h;constructor
 . intro x hx t ht;have ht':=(hs.2.2.2 x hx).2 t ht;have hI:=KB ht';refine⟨fun ho=>by have:=hI.call ho;omega,⟨fun e=>(hI.d e).1,fun e=>(hI.a e).1,fun e=>(hI.b e).1⟩,fun ho=>?_⟩;simp only[Tac.fits,Bool.and_eq_true]at ht';have h5:=ht'.2.2.2.2.1;unfold Tac.rest at h5;rw[ho]at h5;simpa using h5
 grind[Block.ends,AT]
theorem Lb{f g:BFunc}(h:Cuts f g):g.regs=f.regs/\g.blocks.length=f.blocks.length:=by
 induction h with
 | refl=>exact⟨rfl,rfl⟩
 | step a _ ih=>
  obtain⟨c,x,l1,t,l2,v,a⟩:=a;rw[a.hg]at ih;exact⟨ih.1,by rw[ih.2,IF]⟩
theorem iD{f g:BFunc}{n w:Int}(h:aH f g)(h1:f.one n w=true):g.one n w=true:=by
 obtain⟨c,x,l1,t,l2,v,h⟩:=h;have hxm:=List.mem_of_getElem? h.hx;have hlen:g.blocks.length=f.blocks.length:=by rw[h.hg,IF]
 have hreg:g.regs=f.regs:=by rw[h.hg];rfl
 simp only[BFunc.one,Bool.and_eq_true,decide_eq_true_eq,Bool.not_eq_true',List.isEmpty_eq_false_iff,List.all_eq_true]at h1 |-;refine⟨by rw[hreg];exact h1.1,by rw[hreg];exact h1.2.1,fun e=>h1.2.2.1 (by rw[<-List.length_eq_zero_iff,<-hlen,e];rfl),fun y hy=>?_⟩;rw[hlen,hreg];rw[h.hg]at hy;rcases List.mem_or_eq_of_mem_set hy with hy | rfl
 . exact h1.2.2.2 y hy
 . have hx1:=h1.2.2.2 x hxm;simp only[Block.ok,Bool.and_eq_true,List.all_eq_true]at hx1 |-;refine⟨hx1.1,fun u hu=>hx1.2 u ?_⟩;exact jF
theorem eC{f g:BFunc}{n w:Int}(h:Cuts f g)(h1:f.one n w=true):g.one n w=true:=by
 induction h with
 | refl=>exact h1
 | step a _ ih=>exact ih (iD a h1)
theorem iA{f:BFunc}{n w:Int}(h1:f.one n w=true):(Vp f).one n w=true:=eC (GE f) h1
noncomputable def Blocks.dnf(b:Blocks):Blocks:=⟨b.words,b.funcs.map Sv.Vp⟩
def Hb(R:Nat)(p:Nat->Bool):List Bool:=(List.range R).map p
theorem Hx(R:Nat)(p:Nat->Bool):(Hb R p).length=R:=by simp[Hb]
theorem Ub{R:Nat}{p:Nat->Bool}{v:Nat}(h:v<R):(Hb R p)[v]?=some (p v):=by simp[Hb,h]
theorem Kh{R:Nat}{p q:Nat->Bool}(h: ∀v,v<R->p v=q v):Hb R p=Hb R q:=by
 unfold Hb;exact List.map_congr_left fun v hv=>h v (List.mem_range.1 hv)
def nd(R:Nat)(x:Block)(p:Nat->Bool)(i:Nat):List Bool:=Hb R (fun v=>need v (x.ins.drop i) (Df x v||p v))
noncomputable def XO(f:BFunc)(c:Nat):List Bool:=Hb f.regs.toNat (fun v=>UC f v c)
noncomputable def Sg(f:BFunc)(x:Block):List Bool:=Hb f.regs.toNat (outB f x)
noncomputable def HX(f:BFunc):List (List Bool):=(List.range f.blocks.length).map (XO f)
noncomputable def HT(f:BFunc):List (List Bool):=f.blocks.map (Sg f)
structure BFunc.sane(f:BFunc):Prop where
  regs:0<=f.regs
  low: ∀x∈f.blocks,∀t∈x.ins,t.inR f.regs
  fin: ∀x∈f.blocks,x.fin=2->0<=x.v/\x.v<f.regs
  next: ∀x∈f.blocks,∀d∈x.nexts,0<=d/\d<f.blocks.length
abbrev BB:=Nat->Nat->Bool
def GK(f:BFunc)(I:BB):Prop:=∀b v,I b v=true->Dq f v b
def FU(f:BFunc)(O:BB):Prop:=∀b v,O b v=true->∃x,f.blocks[b]?=some x/\outB f x v=true
def GL(f:BFunc)(R:Nat)(I O:BB)(b:Nat):Prop:=∀x,f.blocks[b]?=some x->∀v,v<R->(∀d∈x.nexts,I d.toNat v=true->O b v=true)/\(need v x.ins (Df x v||O b v)=true->I b v=true)
def Et(n R:Nat)(I:BB):Nat:=((List.range n).map fun b=>((List.range R).map fun v=>if I b v then 0 else 1).sum).sum
def putBB(I:BB)(b v:Nat)(z:Bool):BB:=fun b' v'=>if b'=b/\v'=v then z else I b' v'
theorem RL{n:Nat}{p q:Nat->Nat}(h: ∀k,k<n->p k<=q k){j:Nat}(hj:j<n)(hlt:p j<q j):((List.range n).map p).sum<((List.range n).map q).sum:=by
 induction n with
 | zero=>omega
 | succ n ih=>
  rw[List.range_succ,List.map_append,List.map_append,List.sum_append,List.sum_append];simp only[List.map_cons,List.map_nil,List.sum_cons,List.sum_nil];have hle: ∀m,m<=n->((List.range m).map p).sum<=((List.range m).map q).sum:=by
   intro m
   induction m with
   | zero=>intro _;exact Nat.le_refl _
   | succ m im=>
    intro hm;rw[List.range_succ,List.map_append,List.map_append,List.sum_append,List.sum_append];simp only[List.map_cons,List.map_nil,List.sum_cons,List.sum_nil];have:=im (by omega);have:=h m (by omega);omega
  have h1:=h n (by omega)
  by_cases hjn:j=n
  . subst hjn;have:=hle j (Nat.le_refl _);omega
  . have:=ih (fun k hk=>h k (by omega)) (by omega);omega
theorem WA{n R:Nat}{I:BB}{b v:Nat}(hb:b<n)(hv:v<R)(h:I b v=false):Et n R (putBB I b v true)<Et n R I:=by
 unfold Et;have hp: ∀b' v',(if putBB I b v true b' v' then 0 else 1)<=(if I b' v' then 0 else 1:Nat):=fun b' v'=>by
  unfold putBB;split
  . simp
  . split<;>simp_all
 have hsum: ∀(m:Nat) (p q:Nat->Nat),(∀k,p k<=q k)->((List.range m).map p).sum<=((List.range m).map q).sum:=fun m p q hpq=>by
  induction m with
  | zero=>exact Nat.le_refl _
  | succ m im=>
   rw[List.range_succ,List.map_append,List.map_append,List.sum_append,List.sum_append];simp only[List.map_cons,List.map_nil,List.sum_cons,List.sum_nil];have:=hpq m;omega
 refine RL (fun k _=>hsum R _ _ (hp k)) hb ?_;refine RL (fun k _=>hp b k) hv ?_;unfold putBB;simp[h]
theorem soundI_need{f:BFunc}{I O:BB}(hO:FU f O){b v:Nat}{x:Block}(hx:f.blocks[b]?=some x)(hn:need v x.ins (Df x v||O b v)=true):Dq f v b:=by
 rw[<-inB_iff,Wr hx];refine By (fun e=>?_) hn;unfold endB;rw[Bool.or_eq_true]at e |-;rcases e with e | e
 . exact .inl e
 . obtain⟨y,hy,h⟩:=hO b v e;rw[hx]at hy;cases hy;exact .inr h
theorem NC{f:BFunc}{I O:BB}(hI:GK f I)(hO:FU f O){b v:Nat}{x:Block}{d:Int}(hx:f.blocks[b]?=some x)(hd:d∈x.nexts):FU f (putBB O b v (O b v||I d.toNat v)):=by
 intro b' v' h;unfold putBB at h;split at h
 . rename_i e;obtain⟨rfl,rfl⟩:=e;rw[Bool.or_eq_true]at h;rcases h with h | h
   . exact hO _ _ h
   . exact⟨x,hx,outB_iff.2 ⟨d,hd,hI _ _ h⟩⟩
 . exact hO _ _ h
theorem VL{f:BFunc}{I:BB}(hI:GK f I){b v:Nat}(h:Dq f v b):GK f (putBB I b v true):=by
 intro b' v' h';unfold putBB at h';split at h'
 . rename_i e;obtain⟨rfl,rfl⟩:=e;exact h
 . exact hI _ _ h'
theorem Rn{f:BFunc}(hs:f.sane){I O:BB}(hI:GK f I)(hO:FU f O)(hc: ∀b,b<f.blocks.length->GL f f.regs.toNat I O b){b v:Nat}(hb:b<f.blocks.length)(hv:v<f.regs.toNat):I b v=UC f v b:=by
 rw[Bool.eq_iff_iff,inB_iff];refine⟨hI b v,fun h=>?_⟩;refine OD (I:=fun b=>I b v) (fun c x hx hn=>?_) h;have hcl:=hc c (List.getElem?_eq_some_iff.1 hx).1 x hx v hv;refine hcl.2 (By (fun e=>?_) hn);rw[Bool.or_eq_true]at e |-;rcases e with e | e
 . exact .inl e
 . obtain⟨d,h1,h2⟩:=List.any_eq_true.1 e;exact .inr (hcl.1 d h1 h2)
theorem WJ{f:BFunc}(hs:f.sane){I O:BB}(hI:GK f I)(hO:FU f O)(hc: ∀b,b<f.blocks.length->GL f f.regs.toNat I O b){b v:Nat}{x:Block}(hx:f.blocks[b]?=some x)(hv:v<f.regs.toNat):O b v=outB f x v:=by
 have hb:=(List.getElem?_eq_some_iff.1 hx).1;rw[Bool.eq_iff_iff,outB_iff];constructor
 . intro h;obtain⟨y,hy,h'⟩:=hO b v h;rw[hx]at hy;cases hy;exact outB_iff.1 h'
 . rintro⟨d,h1,h2⟩
   have hd:=hs.next x (List.mem_of_getElem? hx) d h1;have:=Rn hs hI hO hc (b:=d.toNat) (v:=v) (by omega) hv;exact(hc b hb x hx v hv).1 d h1 (by rw[this];exact inB_iff.2 h2)
theorem Xf{h:Ac}{b n:Nat}{p:Bool}{sz:Nat}{es:List (List AV)}(hb:h b=some (.row p sz es))(hn:n=es.length):SrcOf h (.ref b n 0 n) [b] es:=by
 subst hn;have:=SrcOf.ref b es.length 0 es.length p sz es hb rfl;rwa[List.drop_zero,List.take_length]at this
theorem putBB_row(I:BB)(b v:Nat)(z:Bool):putBB I b v z b=fun u=>if u=v then z else I b u:=by
 funext u;unfold putBB;simp
theorem cr{I:BB}{b b':Nat}(v:Nat)(z:Bool)(h:b'≠b):putBB I b v z b'=I b':=by
 funext u;unfold putBB;simp[h]
theorem Nj(φ:Nat->Nat)(m:List Nat):A7 φ [] m:=fun _ h=>by cases h
theorem AC{φ:Nat->Nat}{b:Nat}{m:List Nat}(h:φ b∈m):A7 φ [b] m:=fun c hc=>by rw[List.mem_singleton]at hc;subst hc;exact h
theorem Ni{φ:Nat->Nat}{b c:Nat}{m:List Nat}(h:φ b∈m)(h':φ c∈m):A7 φ [b,c] m:=fun d hd=>by
 simp only[List.mem_cons,List.not_mem_nil,or_false]at hd;rcases hd with rfl | rfl
 . exact h
 . exact h'
theorem bO{H:Az}{ι:Bg}{v:Value}(h:Rel H ι .nil v):Rel H ι (.lst true []) v:=by
 rw[h.nil_inv];exact .lst0 _ _ none 0 (fun _=>rfl) (Nat.zero_le _) (fun _=>rfl) trivial
theorem F8(x:Block):x.nexts.length<=2:=by
 grind[Block.nexts]
def b2n(b:Bool):Nat:=bif b then 1 else 0
structure RG where
  I:BB
  O:BB
  more:Bool
structure tv(f:BFunc)(R:Nat)(g:RG):Prop where
  si:GK f g.I
  so:FU f g.O
  cl:g.more=false->∀b,b<f.blocks.length->GL f R g.I g.O b
def tn(f:BFunc)(R:Nat)(g:RG):Nat:=Et f.blocks.length R g.I+b2n g.more
structure MInv(f:BFunc)(R B:Nat)(g:RG)(k:Nat):Prop where
  si:GK f g.I
  so:FU f g.O
  kn:k<=f.blocks.length
  cl:g.more=false->∀b,k<=b->b<f.blocks.length->GL f R g.I g.O b
  bud:Et f.blocks.length R g.I+b2n g.more<=B
theorem MInv.last{f:BFunc}{R:Nat}{g g':RG}(hm:g.more=true)(h:MInv f R (Et f.blocks.length R g.I) g' 0):tv f R g'/\tn f R g'<tn f R g:=by
 refine⟨⟨h.si,h.so,fun e b hb=>h.cl e b (Nat.zero_le _) hb⟩,?_⟩;have:=h.bud;unfold tn;rw[hm];show _<_+1;omega
structure OInv(f:BFunc)(R:Nat)(I O0:BB)(b:Nat)(x:Block)(O:BB)(j v:Nat):Prop where
  so:FU f O
  ne: ∀b',b'≠b->O b'=O0 b'
  js: ∀j',j'<j->∀d,x.nexts[j']?=some d->∀u,u<R->I d.toNat u=true->O b u=true
  vs: ∀d,x.nexts[j]?=some d->∀u,u<v->I d.toNat u=true->O b u=true
theorem OInv.step{f:BFunc}{R:Nat}{I O0:BB}{b:Nat}{x:Block}{O:BB}{j v:Nat}(hI:GK f I)(hx:f.blocks[b]?=some x){d:Int}(hd:x.nexts[j]?=some d)(h:OInv f R I O0 b x O j v):OInv f R I O0 b x (putBB O b v (O b v||I d.toNat v)) j (v+1):=by
 have hmono: ∀u,O b u=true->putBB O b v (O b v||I d.toNat v) b u=true:=fun u hu=>by
  rw[putBB_row]
  grind
 refine⟨NC hI h.so hx (List.mem_of_getElem? hd),fun b' hb=>by rw[cr _ _ hb];exact h.ne b' hb,fun j' hj d' hd' u hu hi=>hmono u (h.js j' hj d' hd' u hu hi),fun d' hd' u hu hi=>?_⟩;rw[hd]at hd';cases hd'
 by_cases e:u=v
 . subst e;rw[putBB_row];show(if u=u then _ else _)=true;rw[if_pos rfl,hi,Bool.or_true]
 . exact hmono u (h.vs d hd u (by omega) hi)
theorem OInv.next{f:BFunc}{R:Nat}{I O0:BB}{b:Nat}{x:Block}{O:BB}{j v:Nat}(h:OInv f R I O0 b x O j v)(hv:R<=v):OInv f R I O0 b x O (j+1) 0:=by
 refine⟨h.so,h.ne,fun j' hj d hd u hu hi=>?_,fun _ _ _ hu=>absurd hu (by omega)⟩
 by_cases e:j'=j
 . subst e;exact h.vs d hd u (by omega) hi
 . exact h.js j' (by omega) d hd u hu hi
structure AInv(f:BFunc)(R B:Nat)(g:RG)(b:Nat)(p:Nat->Bool)(I:BB)(more:Bool)(v:Nat):Prop where
  si:GK f I
  ms:more=false->g.more=false/\I=g.I
  bud:Et f.blocks.length R I+b2n more<=B
  us: ∀u,u<v->p u=true->I b u=true
theorem AInv.put{f:BFunc}{R B:Nat}{g:RG}{b:Nat}{p:Nat->Bool}{I:BB}{more:Bool}{v:Nat}(h:AInv f R B g b p I more v)(hp:(p v&& !I b v)=true)(hb:b<f.blocks.length)(hv:v<R)(hl:p v=true->Dq f v b):AInv f R B g b p (putBB I b v true) true (v+1):=by
 simp only[Bool.and_eq_true,Bool.not_eq_true']at hp;have hf:=WA (I:=I) hb hv hp.2;refine⟨VL h.si (hl hp.1),(fun e=>by cases e),?_,fun u hu e=>?_⟩
 . have:=h.bud;show _+1<=B;omega
 . rw[putBB_row];show(if u=v then _ else _)=true
   by_cases eu:u=v
   . rw[if_pos eu]
   . rw[if_neg eu];exact h.us u (by omega) e
theorem MInv.next{f:BFunc}{R B:Nat}{g:RG}{b:Nat}{x:Block}{O I:BB}{more:Bool}{j v v':Nat}(h:MInv f R B g (b+1))(hx:f.blocks[b]?=some x)(hO:OInv f R g.I g.O b x O j v)(hj:x.nexts.length<=j)
 (hA:AInv f R B g b (fun v=>need v x.ins (Df x v||O b v)) I more v') (hv:R<=v'):MInv f R B ⟨I,O,more⟩ b:=by
 refine⟨hA.si,hO.so,by have:=h.kn;omega,fun e b' h1 h2=>?_,hA.bud⟩;obtain⟨m1,m2⟩:=hA.ms e;show GL f R I O b'
 by_cases eb:b'=b
 . subst eb;intro y hy u hu;rw[hx]at hy;cases hy;refine⟨fun d hd hi=>?_,fun hn=>hA.us u (by omega) hn⟩;obtain⟨j',hj'⟩:=List.getElem?_of_mem hd;have:=(List.getElem?_eq_some_iff.1 hj').1;exact hO.js j' (by omega) d hj' u hu (m2▸hi)
 . have:=h.cl m1 b' (by omega) h2;intro y hy u hu;have hh:=this y hy u hu;rw[hO.ne b' eb,m2];exact hh
theorem Ghost.endCell{n:Nat}{e:Av}{h:Ac}(b0 j b:Nat){sz0 sz:Nat}{cs:List AV}{es:List (List AV)}(hb0:h b0=some (.row false sz0 [cs]))(hj:cs[j]?=some (Ek b es))(hb:h b=some (Ie sz es))(hne:b0≠b):
 Ghost ⟨n,e,h⟩ ⟨n,e,hput (hrm h b) b0 (.row false sz0 [cs.set j (.lst false es)])⟩:=by
 cases hes:es.isEmpty with
 | false=>
  have e1:Ek b es= .ref b es.length 0 es.length:=by simp[Ek,hes,Sp]
  have e2:Ie sz es= .row true sz es:=by simp[Ie,hes,LZ]
  rw[e1]at hj;rw[e2]at hb;have:=Ghost.freezeCell (n:=n) (e:=e) b0 0 j b hb0 rfl hj hb rfl hne;rwa[List.drop_zero,List.take_length]at this
 | true=>
  have e0:es=[]:=List.isEmpty_iff.1 hes;subst e0;have hj':cs[j]?=some (.lst true []):=hj;refine(CI b0 (es':=[cs.set j (.lst false [])]) hb0 rfl ?_).trans (.of_sub ⟨rfl,fun _ _ h=>h,fun c x hx=>?_⟩)
  . intro i ds ds' h1 h2
    cases i with
    | zero=>
     simp only[List.getElem?_cons_zero,Option.some.injEq]at h1 h2;subst h1;subst h2;refine⟨by simp,fun k x y hx hy=>?_⟩;rw[List.getElem?_set]at hy
     by_cases hk:j=k
     . subst hk;rw[hj']at hx;cases hx;have hlt:=(List.getElem?_eq_some_iff.1 hj').1;rw[if_pos rfl,if_pos hlt]at hy;cases hy;exact⟨fun _=>rfl,fun H ι v h=>rel_unex h⟩
     . rw[if_neg hk,hx]at hy;cases hy;exact⟨fun h=>h,fun _ _ _ h=>h⟩
    | succ i=>simp at h1
  . have h1:hput (hrm h b) b0 (.row false sz0 [cs.set j (.lst false [])]) c=some x:=hx;show hput h b0 _ c=some x
    by_cases hc:c=b0
    . subst hc;rw[Aq]at h1 |-;exact h1
    . rw[AL _ _ hc]at h1 |-
      by_cases hcb:c=b
      . subst hcb;have:hrm h c c=some x:=h1;unfold hrm at this;rw[show Nat.beq c c=true from Nat.beq_refl c]at this
        cases this
      . rwa[Fc _ hcb]at h1
theorem cut_sane{f g:BFunc}(h:aH f g)(hs:f.sane):g.sane:=by
 obtain⟨c,x,l1,t,l2,v,h⟩:=h;have hxm:=List.mem_of_getElem? h.hx;have hlen:g.blocks.length=f.blocks.length:=by rw[h.hg,IF]
 have hreg:g.regs=f.regs:=by rw[h.hg];rfl
 have key: ∀y∈g.blocks,y∈f.blocks\/y=x.mid (l1++l2):=fun y hy=>by
  rw[h.hg]at hy;exact List.mem_or_eq_of_mem_set hy
 refine⟨by rw[hreg];exact hs.regs,fun y hy u hu=>?_,fun y hy=>?_,fun y hy d hd=>?_⟩
 . rw[hreg];rcases key y hy with hy | rfl
   . exact hs.low y hy u hu
   . refine hs.low x hxm u ?_;exact jF
 . rw[hreg];rcases key y hy with hy | rfl
   . exact hs.fin y hy
   . exact hs.fin x hxm
 . rw[hlen];rcases key y hy with hy | rfl
   . exact hs.next y hy d hd
   . exact hs.next x hxm d hd
theorem ZY{f g:BFunc}(h:Cuts f g)(hs:f.sane):g.sane:=by
 induction h with
 | refl=>exact hs
 | step a _ ih=>exact ih (cut_sane a hs)
def I1(p:Nat->Bool):Nat->Nat
  | 0=>0
  | n+1=>I1 p n+(if p n then 2^n else 0)
theorem SH(p:Nat->Bool): ∀n,I1 p n<2^n
 | 0=>by simp[I1]
 | n+1=>by
  have ih:=SH p n
  grind[I1]
theorem I0(p:Nat->Bool): ∀n i,(I1 p n).testBit i=(decide (i<n)&&p i)
 | 0,i=>by simp[I1]
 | n+1,i=>by
  have ih:=I0 p n i;have hlt:=SH p n;unfold I1
  by_cases hp:p n=true
  . rw[if_pos hp,Nat.add_comm]
    by_cases h1:i<n
    . rw[Nat.testBit_two_pow_add_gt h1,ih];simp[h1];omega
    . by_cases h2:i=n
      . subst h2;rw[Nat.testBit_two_pow_add_eq,ih];simp[hp]
      . have h3:2^n+I1 p n<2^i:=by
         have:2^(n+1)<=2^i:=Nat.pow_le_pow_right (by omega) (by omega);rw[Nat.pow_succ]at this;omega
        rw[Nat.testBit_lt_two_pow h3];have: ¬i<n+1:=by omega
        simp[this]
  . rw[if_neg hp,Nat.add_zero,ih]
    by_cases h2:i=n
    . subst h2;simp[hp]
    . by_cases h1:i<n
      . have:i<n+1:=by omega
        simp[h1,this]
      . have: ¬i<n+1:=by omega
        simp[h1,this]
theorem K9{p:Nat->Bool}{n x:Nat}(h: ∀i,x.testBit i=(decide (i<n)&&p i)):x=I1 p n:=Nat.eq_of_testBit_eq fun i=>by rw[h,I0]
theorem GC{p q:Nat->Bool}{n:Nat}(h: ∀i,i<n->p i=q i):I1 p n=I1 q n:=K9 fun i=>by
 grind[I0,I1]
theorem d9{p q:Nat->Bool}{n:Nat}(h:I1 p n=I1 q n): ∀i,i<n->p i=q i:=fun i hi=>by
 have:=congrArg (fun x=>x.testBit i) h
 grind[I0,I1]
theorem Ku{x:Nat}(h:x<18446744073709551616):IntKind.u64.wrap (x:Int)=(x:Int):=Ck h
theorem Hu(w x:Nat):BitVec.ofInt w (x:Int)=BitVec.ofNat w x:=by
 grind
def wd(p:Nat->Bool):Nat:=I1 p 64
theorem Tf(p:Nat->Bool):wd p<18446744073709551616:=SH p 64
theorem Rz(p:Nat->Bool)(i:Nat):(wd p).testBit i=(decide (i<64)&&p i):=I0 p 64 i
theorem aW(p:Nat->Bool):wd p%2^64=wd p:=Nat.mod_eq_of_lt (Tf p)
theorem aU(p q:Nat->Bool):AM .or (.int .u64 (wd p:Int)) (.int .u64 (wd q:Int))=some (.int .u64 (wd (fun v=>p v||q v):Int)):=by
 have e:(BitVec.ofInt 64 (wd p:Int)|||BitVec.ofInt 64 (wd q:Int)).toNat=wd (fun v=>p v||q v):=by
  rw[Hu,Hu,BitVec.toNat_or,BitVec.toNat_ofNat,BitVec.toNat_ofNat,aW,aW];refine K9 fun i=>?_
  grind[Rz,AM,wd]
 show some (AV.int .u64 (IntKind.u64.wrap ((BitVec.ofInt 64 (wd p:Int)|||BitVec.ofInt 64 (wd q:Int)).toNat:Int)))=_;rw[e,Ku (Tf _)]
theorem PX(p q:Nat->Bool):AM .andNot (.int .u64 (wd p:Int)) (.int .u64 (wd q:Int))=some (.int .u64 (wd (fun v=>p v&& !q v):Int)):=by
 have e:(BitVec.ofInt 64 (wd p:Int)&&& ~~~BitVec.ofInt 64 (wd q:Int)).toNat=wd (fun v=>p v&& !q v):=by
  refine K9 fun i=>?_
  rw[Hu,Hu];rw[<-BitVec.getLsbD.eq_1,BitVec.getLsbD_and,BitVec.getLsbD_not,BitVec.getLsbD_ofNat,BitVec.getLsbD_ofNat,Rz,Rz]
  cases decide (i<64)<;>simp
 show some (AV.int .u64 (IntKind.u64.wrap ((BitVec.ofInt 64 (wd p:Int)&&& ~~~BitVec.ofInt 64 (wd q:Int)).toNat:Int)))=_;rw[e,Ku (Tf _)]
theorem aV{i:Nat}(h:i<64):AM .shl (.int .u64 1) (.int .i64 (i:Int))=some (.int .u64 (wd (fun v=>v==i):Int)):=by
 have e:(2:Nat)^i=wd (fun v=>v==i):=K9 fun k=>by
  grind
 have hl:(2:Nat)^i<18446744073709551616:=by rw[e];exact Tf _
 have h1:min ((i:Int).toNat) IntKind.u64.bits=i:=by rw[Int.toNat_natCast];show min i 64=i;omega
 have h2:AM .shl (.int .u64 1) (.int .i64 (i:Int))=some (.int .u64 (IntKind.u64.wrap (1*2^(min ((i:Int).toNat) IntKind.u64.bits)))):=by
  have hn: ¬((i:Int)<0):=by omega
  simp[AM,isShift,Bw,hn]
 rw[h2,h1,Int.one_mul,show((2:Int)^i)=(((2:Nat)^i:Nat):Int) by simp,Ku hl,e]
theorem j7{p:Nat->Bool}{i:Nat}(h:i<64):AM .shr (.int .u64 (wd p:Int)) (.int .i64 (i:Int))=some (.int .u64 ((wd p/2^i:Nat):Int)):=by
 have h1:min ((i:Int).toNat) IntKind.u64.bits=i:=by rw[Int.toNat_natCast];show min i 64=i;omega
 grind[AM,wd,isShift,Bw]
theorem fT(p:Nat->Bool){i:Nat}(h:i<64):AM .and (.int .u64 ((wd p/2^i:Nat):Int)) (.int .u64 1)=some (.int .u64 ((b2n (p i):Nat):Int)):=by
 have hb:=Rz p i;have e:(BitVec.ofInt 64 ((wd p/2^i:Nat):Int)&&&BitVec.ofInt 64 (1:Int)).toNat=b2n (p i):=by
  have e1:BitVec.ofInt 64 (1:Int)=BitVec.ofNat 64 1:=by decide
  rw[Hu,e1,BitVec.toNat_and,BitVec.toNat_ofNat,BitVec.toNat_ofNat];have hl:wd p/2^i<2^64:=Nat.lt_of_le_of_lt (Nat.div_le_self _ _) (Tf p);rw[Nat.mod_eq_of_lt hl,show 1%2^64=1 from rfl,Nat.and_one_is_mod];rw[Nat.testBit_eq_decide_div_mod_eq]at hb;simp only[h,decide_true,Bool.true_and]at hb
  cases hp:p i with
  | true=>rw[hp]at hb;simp at hb;simp[b2n,hb]
  | false=>rw[hp]at hb;simp at hb;simp[b2n];omega
 show some (AV.int .u64 (IntKind.u64.wrap ((BitVec.ofInt 64 ((wd p/2^i:Nat):Int)&&&BitVec.ofInt 64 (1:Int)).toNat:Int)))=_
 grind[Ku,b2n,AM,wd]
theorem j8(b:Bool):AM .eql (.int .u64 ((b2n b:Nat):Int)) (.int .u64 1)=some (.bool b):=by cases b<;>rfl
def nw(R:Nat):Nat:=(R+63)/64
def BA(p:Nat->Bool)(j:Nat):List AV:=[AV.int .u64 ((wd (fun v=>p (64*j+v)):Nat):Int)]
def Bt(R:Nat)(p:Nat->Bool):List (List AV):=(List.range (nw R)).map (BA p)
theorem Bj(R:Nat)(p:Nat->Bool):(Bt R p).length=nw R:=by simp[Bt]
theorem Cr{R:Nat}{p:Nat->Bool}{j:Nat}(h:j<nw R):(Bt R p)[j]?=some (BA p j):=by simp[Bt,h]
theorem T8{R i:Nat}(h:i<R):i/64<nw R:=by unfold nw;omega
theorem D6{p q:Nat->Bool}{j:Nat}(h: ∀v,v<64->p (64*j+v)=q (64*j+v)):BA p j=BA q j:=by
 grind[BA,wd,GC]
theorem DT{R:Nat}{p q:Nat->Bool}(h: ∀v,p v=q v):Bt R p=Bt R q:=List.map_congr_left fun j _=>D6 fun v _=>h _
theorem YT(R:Nat):List.replicate (nw R) [AV.int .u64 0]=Bt R (fun _=>false):=by
 have e: ∀j,BA (fun _=>false) j=[AV.int .u64 0]:=fun j=>by
  unfold BA wd;have:I1 (fun _=>false) 64=0:=(K9 (p:=fun _=>false) (n:=64) (x:=0) (fun i=>by simp)).symm;rw[this];rfl
 refine List.ext_getElem? fun i=>?_
 grind[nw,Cr,List.length_replicate,Bj,Bt]
theorem KE{R:Nat}{p q:Nat->Bool}{j:Nat}(h1: ∀v,v/64≠j->q v=p v):(Bt R p).set j (BA q j)=Bt R q:=by
 refine List.ext_getElem? fun i=>?_
 grind[nw,Cr,Bj,D6,Bt,BA]
theorem fa{i v:Nat}(hv:v<64):(64*(i/64)+v==i)=(v==i%64):=by
 grind
theorem VA(p:Nat->Bool)(i:Nat):BA (fun v=>p v||v==i) (i/64)=[AV.int .u64 ((wd (fun v=>p (64*(i/64)+v)||v==i%64):Nat):Int)]:=by
 grind[BA,wd,GC,fa]
theorem Yv(p:Nat->Bool)(i:Nat):BA (fun v=>p v&& !(v==i)) (i/64)=[AV.int .u64 ((wd (fun v=>p (64*(i/64)+v)&& !(v==i%64)):Nat):Int)]:=by
 grind[BA,wd,GC,fa]
theorem Xw{i:Nat}(h:i<=1000000000):AM .quo (.int .i64 (i:Int)) (.int .i64 64)=some (.int .i64 ((i/64:Nat):Int)):=La (b:=64) (by decide) (Jh (by omega))
theorem bN{i:Nat}:AM .rem (.int .i64 (i:Int)) (.int .i64 64)=some (.int .i64 ((i%64:Nat):Int)):=FC (b:=64) (by decide)
def CO(v:Nat)(l:List Tac):Bool:=l.any fun t=>t.sets==(v:Int)
theorem Ol(v:Nat)(z:Bool): ∀l,need v l z=(need v l false||(z&& !CO v l))
 | []=>by simp[need,CO]
 | t::r=>by
  have ih:=Ol v z r
  grind[need,CO]
def JV(x:Block)(v:Nat):Bool:=need v x.ins (Df x v)
theorem Wm(x:Block)(v:Nat)(o:Bool):need v x.ins (Df x v||o)=(JV x v||(o&& !CO v x.ins)):=by
 grind[JV,Ol,Df,need,CO]
def Xs(t:Tac)(p:Nat->Bool):Nat->Bool:=fun v=>p v&& !(t.sets==(v:Int))
def G5(us:List Int)(p:Nat->Bool):Nat->Bool:=fun v=>us.contains (v:Int)||p v
def MR(t:Tac)(q:Nat->Bool):Nat->Bool:=fun v=>q v||t.sets==(v:Int)
def tR(x:Block)(pre:List Nat):Nat->Bool:=pre.foldl (fun p k=>match x.ins[k]? with
  | some t=>G5 t.uses (Xs t p)
  | none=>p) (Df x)
def tS(x:Block)(pre:List Nat):Nat->Bool:=pre.foldl (fun p k=>match x.ins[k]? with
  | some t=>MR t p
  | none=>p) (fun _=>false)
theorem gc{x:Block}{pre:List Nat}{k:Nat}{t:Tac}(h:x.ins[k]?=some t):tR x (pre++[k])=G5 t.uses (Xs t (tR x pre)):=by
 grind[tR,G5,Xs]
theorem gb{x:Block}{pre:List Nat}{k:Nat}{t:Tac}(h:x.ins[k]?=some t):tS x (pre++[k])=MR t (tS x pre):=by
 grind[tS,MR]
theorem P2(k:Nat):(List.range (k+1)).reverse=k::(List.range k).reverse:=by
 rw[List.range_succ,List.reverse_append];rfl
theorem jk(x:Block)(v:Nat): ∀(m:Nat) (p:Nat->Bool),m<=x.ins.length->((List.range m).reverse.foldl (fun p k=>match x.ins[k]? with
 | some t=>G5 t.uses (Xs t p)
 | none=>p) p) v=need v (x.ins.take m) (p v)
 | 0,p,_=>by simp[need]
 | m+1,p,h=>by
  obtain⟨t,ht⟩:=Ae (l:=x.ins) (k:=m) (by omega);rw[P2,List.foldl_cons,jk x v m _ (by omega),ht];have e:x.ins.take (m+1)=x.ins.take m++[t]:=by
   rw[List.take_add_one,ht];rfl
  rw[e,Hw];congr 1;unfold G5 Xs;simp[need,Bool.and_comm]
theorem jj(x:Block)(v:Nat): ∀(m:Nat) (p:Nat->Bool),m<=x.ins.length->((List.range m).reverse.foldl (fun p k=>match x.ins[k]? with
 | some t=>MR t p
 | none=>p) p) v=(p v||CO v (x.ins.take m))
 | 0,p,_=>by simp[CO]
 | m+1,p,h=>by
  obtain⟨t,ht⟩:=Ae (l:=x.ins) (k:=m) (by omega);rw[P2,List.foldl_cons,jj x v m _ (by omega),ht];have e:x.ins.take (m+1)=x.ins.take m++[t]:=by
   rw[List.take_add_one,ht];rfl
  rw[e];unfold MR CO;rw[List.any_append];simp only[List.any_cons,List.any_nil,Bool.or_false]
  cases p v<;>cases t.sets==(v:Int)<;>cases (List.any (List.take m x.ins) fun t=>t.sets==(v:Int))<;>rfl
theorem ky(x:Block)(v:Nat):tR x (List.range x.ins.length).reverse v=JV x v:=by
 have:=jk x v x.ins.length (Df x) (Nat.le_refl _);rw[List.take_length]at this;exact this
theorem tS_all(x:Block)(v:Nat):tS x (List.range x.ins.length).reverse v=CO v x.ins:=by
 have:=jj x v x.ins.length (fun _=>false) (Nat.le_refl _);rw[List.take_length]at this;exact this.trans (by simp)
def EA(R:Nat)(p:Nat->Bool):AObj:=.row true 1 (Bt R p)
theorem CW{R:Nat}{p q:Nat->Bool}(h: ∀v,p v=q v):some (EA R p)=some (EA R q):=congrArg (fun es=>some (AObj.row true 1 es)) (DT h)
theorem Mg{d:Int}(h:0<=d)(v:Nat):(v==d.toNat)=(d==(v:Int)):=by
 grind
theorem gn{t:Tac}{p:Nat->Bool}(h:0<=t.sets)(v:Nat):(p v&& !(v==t.sets.toNat))=Xs t p v:=by unfold Xs;rw[Mg h]
theorem bA{t:Tac}{p:Nat->Bool}(h:0<=t.sets)(v:Nat):(p v||v==t.sets.toNat)=MR t p v:=by unfold MR;rw[Mg h]
theorem gp{t:Tac}{p:Nat->Bool}(h: ¬0<=t.sets)(v:Nat):p v=Xs t p v:=by
 grind[Xs]
theorem bB{t:Tac}{p:Nat->Bool}(h: ¬0<=t.sets)(v:Nat):p v=MR t p v:=by
 grind[MR]
theorem az{p:Nat->Bool}(v:Nat):p v=G5 [] p v:=by simp[G5]
theorem WP{us:List Int}{k:Nat}{u:Int}{p:Nat->Bool}(h:us[k]?=some u)(hu:0<=u)(v:Nat):(G5 (us.take k) p v||v==u.toNat)=G5 (us.take (k+1)) p v:=by
 unfold G5;have e:us.take (k+1)=us.take k++[u]:=by rw[List.take_add_one,h];rfl
 grind
theorem d7{x:Block}(h:x.fin=2)(h0:0<=x.v)(v:Nat):(false||v==x.v.toNat)=Df x v:=by
 grind[Mg,Df]
theorem iw{x:Block}(h: ¬x.fin=2)(v:Nat):false=Df x v:=by
 simp[Df,h]
def Ay(g:Nat->AV)(n:Nat):List (List AV):=(List.range n).map fun b=>[g b]
theorem An(g:Nat->AV)(n:Nat):(Ay g n).length=n:=by simp[Ay]
theorem BV{g:Nat->AV}{n b:Nat}(h:b<n):(Ay g n)[b]?=some [g b]:=by simp[Ay,h]
theorem JL(g:Nat->AV)(n:Nat):Ay g (n+1)=Ay g n++[[g n]]:=by
 unfold Ay;rw[List.range_succ,List.map_append];rfl
theorem CX{g g':Nat->AV}{n:Nat}(h: ∀b,b<n->g b=g' b):Ay g n=Ay g' n:=List.map_congr_left fun b hb=>by rw[h b (List.mem_range.1 hb)]
theorem HD{g:Nat->AV}{n b:Nat}(x:AV):(Ay g n).set b [x]=Ay (fun c=>if c=b then x else g c) n:=by
 refine List.ext_getElem? fun i=>?_
 grind[BV,An,Ay]
theorem U6{g:Nat->AV}{n:Nat}{cs:List AV}(h:cs∈Ay g n): ∃b,b<n/\cs=[g b]:=by
 grind[Ay]
theorem HE(x:AV)(n:Nat):List.replicate n [x]=Ay (fun _=>x) n:=by
 refine List.ext_getElem? fun i=>?_
 grind[BV,List.length_replicate,An,Ay]
theorem Ad{k:Nat->Bool}{p:Bool}{sz:Nat}{g:Nat->AV}{n:Nat}(h: ∀b,b<n->(g b).avoid k=true):(AObj.row p sz (Ay g n)).avoid k=true:=by
 cases p with
 | true=>rfl
 | false=>
  show(Ay g n).all (fun cs=>cs.all (AV.avoid k))=true;refine List.all_eq_true.2 fun cs hc=>?_
  obtain⟨b,hb,rfl⟩:=U6 hc;simp[h b hb]
theorem Jk{k:Nat->Bool}{sz:Nat}{g:Nat->AV}{n:Nat}(h: ∀b,b<n->(g b).avoid k=true):(PE sz (Ay g n)).avoid k=true:=by
 unfold PE
 cases (Ay g n).isEmpty with
 | true=>rfl
 | false=>exact Ad h
theorem Xg(sz:Nat)(g:Nat->AV)(n:Nat):PE sz (Ay g (n+1))= .row false sz (Ay g n++[[g n]]):=by
 rw[JL];simp[PE,MY]
theorem Xi{t:Nat}{g:Nat->AV}{n:Nat}(h:0<n):Ek t (Ay g n)= .ref t n 0 n:=by
 grind[ND,Ay,An,Ek]
theorem Ts{sz:Nat}{g:Nat->AV}{n:Nat}(h:0<n):PE sz (Ay g n)= .row false sz (Ay g n):=by
 obtain⟨m,rfl⟩: ∃m,n=m+1:=⟨n-1,by omega⟩
 rw[Xg,JL]
def rG(q m:Nat):Nat->AV:=fun b=>.ref (3*b+q+16) m 0 m
theorem CP(k0 q m b:Nat):(rG q m b).avoid (kf k0)=true:=by
 simp[rG,AV.avoid,AV.flat,Us]
def F3(r0 r1 r2:Nat->AObj):Nat->AObj:=fun x=>if x%3=0 then r0 (x/3)else if x%3=1 then r1 (x/3)else r2 (x/3)
theorem qW(r0 r1 r2:Nat->AObj)(b:Nat):F3 r0 r1 r2 (3*b+0)=r0 b:=by
 grind[F3]
theorem qV(r0 r1 r2:Nat->AObj)(b:Nat):F3 r0 r1 r2 (3*b+1)=r1 b:=by
 grind[F3]
theorem tz(r0 r1 r2:Nat->AObj)(b:Nat):F3 r0 r1 r2 (3*b+2)=r2 b:=by
 grind[F3]
def J4(r:Nat->AObj)(b:Nat)(o:AObj):Nat->AObj:=fun c=>if c=b then o else r c
theorem ju(r0 r1 r2:Nat->AObj)(b:Nat)(o:AObj)(x:Nat):F3 (J4 r0 b o) r1 r2 x=if x=3*b+0 then o else F3 r0 r1 r2 x:=by
 grind[F3,J4]
theorem jt(r0 r1 r2:Nat->AObj)(b:Nat)(o:AObj)(x:Nat):F3 r0 (J4 r1 b o) r2 x=if x=3*b+1 then o else F3 r0 r1 r2 x:=by
 grind[F3,J4]
theorem qU(r0 r1 r2:Nat->AObj)(b:Nat)(o:AObj)(x:Nat):F3 r0 r1 (J4 r2 b o) x=if x=3*b+2 then o else F3 r0 r1 r2 x:=by
 grind[F3,J4]
theorem B9{k:Nat->Bool}{r0 r1 r2:Nat->AObj}(h0: ∀b,(r0 b).avoid k=true)(h1: ∀b,(r1 b).avoid k=true)(h2: ∀b,(r2 b).avoid k=true)(x:Nat):(F3 r0 r1 r2 x).avoid k=true:=by
 grind[F3]
def Dp(b:Nat):Nat:=if b<16 then b else 16+(b-16)%3
theorem eO(i:Nat):Dp (3*i+0+16)=16:=by unfold Dp;rw[if_neg (by omega)];omega
theorem eN(i:Nat):Dp (3*i+1+16)=17:=by unfold Dp;rw[if_neg (by omega)];omega
theorem eM(i:Nat):Dp (3*i+2+16)=18:=by unfold Dp;rw[if_neg (by omega)];omega
def CK(k:Nat)(o:Nat->AObj):Nat->AObj:=fun b=>if b<k then o b else .free
theorem Ex{k b:Nat}{o:Nat->AObj}(h:b<k):CK k o b=o b:=by unfold CK;rw[if_pos h]
theorem J9{k b:Nat}{o:Nat->AObj}(h:k<=b):CK k o b= .free:=by unfold CK;rw[if_neg (by omega)]
theorem IA(k:Nat)(o:Nat->AObj):CK (k+1) o=J4 (CK k o) k (o k):=funext fun b=>by
 grind[CK,J4]
theorem Gm{k:Nat}{o o':Nat->AObj}{b:Nat}(h:b<k)(ho: ∀c,c≠b->o' c=o c):CK k o'=J4 (CK k o) b (o' b):=funext fun c=>by
 grind[CK,J4]
theorem EE{k:Nat->Bool}{m:Nat}{o:Nat->AObj}(h: ∀b,(o b).avoid k=true)(b:Nat):(CK m o b).avoid k=true:=by
 unfold CK;split
 . exact h b
 . rfl
def AY(I:BB)(b:Nat)(p:Nat->Bool):BB:=fun c=>if c=b then p else I c
theorem BO(I:BB)(b:Nat)(p:Nat->Bool):AY I b p b=p:=by unfold AY;rw[if_pos rfl]
theorem DB{I:BB}{b c:Nat}(p:Nat->Bool)(h:c≠b):AY I b p c=I c:=by unfold AY;rw[if_neg h]
theorem setRow_self(I:BB)(b:Nat):AY I b (I b)=I:=funext fun c=>by
 unfold AY;split
 . subst_vars;rfl
 . rfl
def Ze(p q:Nat->Bool)(k:Nat):Nat->Bool:=fun v=>p v||(decide (v/64<k)&&q v)
theorem cB(p q:Nat->Bool)(v:Nat):p v=Ze p q 0 v:=by simp[Ze]
theorem U2{k v:Nat}(hv:v<64):(64*k+v)/64=k:=by omega
theorem cD(p q:Nat->Bool)(k:Nat):BA (Ze p q (k+1)) k=[AV.int .u64 ((wd (fun v=>p (64*k+v)||q (64*k+v)):Nat):Int)]:=by
 grind[BA,wd,GC,Ze,U2]
theorem XD(p q:Nat->Bool)(k:Nat):BA (Ze p q k) k=BA p k:=D6 fun v hv=>by
 grind[Ze,U2,BA]
theorem cC{R:Nat}(p q:Nat->Bool)(k:Nat):(Bt R (Ze p q k)).set k [AV.int .u64 ((wd (fun v=>p (64*k+v)||q (64*k+v)):Nat):Int)]=Bt R (Ze p q (k+1)):=by
 grind[cD,KE,Ze,Bt,wd]
theorem NR{R:Nat}{p q:Nat->Bool}(h: ∀v,v/64<nw R->p v=q v):Bt R p=Bt R q:=by
 refine List.ext_getElem? fun i=>?_
 grind[nw,Cr,D6,U2,Bj,Bt]
theorem gG{R k:Nat}(p q:Nat->Bool)(h:nw R<=k):Bt R (Ze p q k)=Bt R (fun v=>p v||q v):=NR fun v hv=>by
 grind[Ze,nw,Bt]
def LK(I:BB)(p:Nat->Bool)(x:Block)(j:Nat):Nat->Bool:=fun v=>p v||(x.nexts.take j).any fun d=>I d.toNat v
theorem outP_zero(I:BB)(p:Nat->Bool)(x:Block)(v:Nat):p v=LK I p x 0 v:=by simp[LK]
theorem Zd{I:BB}{p:Nat->Bool}{x:Block}{j:Nat}{d:Int}(h:x.nexts[j]?=some d)(v:Nat):(LK I p x j v||I d.toNat v)=LK I p x (j+1) v:=by
 unfold LK;have e:x.nexts.take (j+1)=x.nexts.take j++[d]:=by rw[List.take_add_one,h];rfl
 grind
def DW(I:BB)(p:Nat->Bool)(x:Block):Nat->Bool:=fun v=>p v||x.nexts.any fun d=>I d.toNat v
theorem outP_end{I:BB}{p:Nat->Bool}{x:Block}{j:Nat}(h:x.nexts.length<=j):LK I p x j=DW I p x:=by
 unfold LK DW;rw[List.take_of_length_le h]
def inN(x:Block)(o:Nat->Bool):Nat->Bool:=fun v=>JV x v||(o v&& !CO v x.ins)
theorem K1(x:Block)(o:Nat->Bool)(v:Nat):inN x o v=need v x.ins (Df x v||o v):=(Wm x v (o v)).symm
def HW(p q:Nat->Bool)(k:Nat):Nat->Bool:=fun v=>if v/64<k then p v else q v
theorem Zk(p q:Nat->Bool)(v:Nat):q v=HW p q 0 v:=by simp[HW]
theorem Zm(p q:Nat->Bool)(k:Nat):BA (HW p q (k+1)) k=BA p k:=D6 fun v hv=>by
 grind[HW,U2,BA]
theorem Ue(p q:Nat->Bool)(k:Nat):BA (HW p q k) k=BA q k:=D6 fun v hv=>by
 grind[HW,U2,BA]
theorem XH(p q:Nat->Bool){k v:Nat}(hv:v/64≠k):HW p q (k+1) v=HW p q k v:=by
 grind[HW]
theorem dc{R:Nat}(p q:Nat->Bool)(k:Nat):(Bt R (HW p q k)).set k (BA p k)=Bt R (HW p q (k+1)):=by
 grind[Zm,KE,XH,Bt,HW,BA]
def PC(p:Nat->Bool)(k:Nat):Nat:=wd (fun v=>p (64*k+v))
theorem Tg{p q:Nat->Bool}{k:Nat}(h:PC p k=PC q k)(v:Nat)(hv:v/64=k):p v=q v:=by
 have:=d9 (n:=64) h (v%64) (Nat.mod_lt _ (by decide))
 grind
theorem Zl{p q:Nat->Bool}{k:Nat}(h:PC p k=PC q k)(v:Nat):HW p q k v=HW p q (k+1) v:=by
 grind[HW,Tg,XH,PC]
theorem de{R k:Nat}(p q:Nat->Bool)(h:nw R<=k):Bt R (HW p q k)=Bt R p:=NR fun v hv=>by
 grind[HW,nw,Bt]
def chg(p q:Nat->Bool)(k:Nat):Bool:=(List.range k).any fun i=>PC p i !=PC q i
theorem iG{p q:Nat->Bool}{k:Nat}(h:(PC p k !=PC q k)=true):true=chg p q (k+1):=by
 grind[chg,PC]
theorem lF{p q:Nat->Bool}{k:Nat}(h:PC p k=PC q k):chg p q k=chg p q (k+1):=by
 grind[chg,PC]
theorem eP{p q:Nat->Bool}{R:Nat}(h:chg p q (nw R)=false)(v:Nat)(hv:v<R):p v=q v:=by
 unfold chg at h;rw[List.any_eq_false]at h;have:=h (v/64) (List.mem_range.2 (T8 hv))
 grind[Tg,chg,nw]
theorem iH{p q:Nat->Bool}{R:Nat}(h:chg p q (nw R)=true): ∃v,v<64*nw R/\p v≠q v:=by
 unfold chg at h;obtain⟨i,hi,h2⟩:=List.any_eq_true.1 h;have hi:=List.mem_range.1 hi
 by_cases hex: ∃v,v<64/\p (64*i+v)≠q (64*i+v)
 . obtain⟨v,hv,hne⟩:=hex;exact⟨64*i+v,by omega,hne⟩
 . exfalso;have:PC p i=PC q i:=GC fun v hv=>Classical.byContradiction fun hne=>hex ⟨v,hv,hne⟩
   simp[this]at h2
theorem falses_lt{n R:Nat}{I I':BB}(hm: ∀b v,I b v=true->I' b v=true){b v:Nat}(hb:b<n)(hv:v<R)(h:I b v=false)(h':I' b v=true):Et n R I'<Et n R I:=by
 have hle: ∀c v,(if I' c v then 0 else 1)<=(if I c v then 0 else 1:Nat):=fun c v=>by
  grind
 refine RL (fun c _=>?_) hb ?_
 . exact Nat.le_of_not_lt fun hlt=>by
    have: ∀m,((List.range m).map fun v=>if I' c v then 0 else 1).sum<=((List.range m).map fun v=>if I c v then 0 else 1).sum:=fun m=>by
     induction m with
     | zero=>simp
     | succ m ih=>
      rw[List.range_succ,List.map_append,List.map_append,List.sum_append,List.sum_append];have:=hle c m;simp only[List.map_cons,List.map_nil,List.sum_cons,List.sum_nil,Nat.add_zero];omega
    have:=this R;omega
 . refine RL (fun u _=>hle b u) hv ?_;rw[h,h'];simp
structure WaitI(n:Nat)(waits:Nat->Bool)(ws:List Nat):Prop where
  nod:ws.Nodup
  mem: ∀b,b∈ws↔b<n/\waits b=true
  cnt:((List.range n).map fun b=>if waits b then 1 else 0).sum=ws.length
def Cx(w:Nat->Bool)(b:Nat)(z:Bool):Nat->Bool:=fun c=>if c=b then z else w c
theorem C4(w:Nat->Bool)(b:Nat)(z:Bool):Cx w b z b=z:=by unfold Cx;rw[if_pos rfl]
theorem CN{w:Nat->Bool}{b c:Nat}(z:Bool)(h:c≠b):Cx w b z c=w c:=by unfold Cx;rw[if_neg h]
theorem SO(w:Nat->Bool)(b:Nat): ∀n,((List.range n).map fun c=>if Cx w b true c then 1 else 0).sum=((List.range n).map fun c=>if Cx w b false c then 1 else 0).sum+(if b<n then 1 else 0)
 | 0=>by simp
 | n+1=>by
  rw[List.range_succ,List.map_append,List.map_append,List.sum_append,List.sum_append,SO w b n]
  grind[C4,CN,Cx]
theorem Hl{w:Nat->Bool}{b:Nat}{z:Bool}(h:w b=z):Cx w b z=w:=funext fun c=>by
 grind[C4,CN,Cx]
theorem WaitI.push{n:Nat}{w:Nat->Bool}{ws:List Nat}(h:WaitI n w ws){b:Nat}(hb:b<n)(hw:w b=false):WaitI n (Cx w b true) (ws++[b]):=by
 refine⟨?_,fun c=>?_,?_⟩
 . rw[List.nodup_append];refine⟨h.nod,by simp,fun x hx y hy=>?_⟩;rw[List.mem_singleton]at hy;subst hy;intro e;subst e;have:=((h.mem x).1 hx).2;rw[hw]at this;cases this
 . rw[List.mem_append,List.mem_singleton,h.mem]
   by_cases hc:c=b
   . subst hc;rw[C4];exact⟨fun _=>⟨hb,rfl⟩,fun _=>.inr rfl⟩
   . rw[CN _ hc];exact⟨fun h=>h.elim id fun e=>absurd e hc,.inl⟩
 . rw[SO,Hl hw,h.cnt,if_pos hb];simp
theorem WaitI.pop{n:Nat}{w:Nat->Bool}{ws:List Nat}{b:Nat}(h:WaitI n w (ws++[b])):WaitI n (Cx w b false) ws/\b<n/\w b=true:=by
 have hb:=(h.mem b).1 (List.mem_append.2 (.inr (List.mem_singleton.2 rfl)));have hn:=List.nodup_append.1 h.nod;have hnb:b∉ws:=fun hx=>hn.2.2 b hx b (List.mem_singleton.2 rfl) rfl
 refine⟨⟨hn.1,fun c=>?_,?_⟩,hb.1,hb.2⟩
 . by_cases hc:c=b
   . subst hc;rw[C4];exact⟨fun h=>absurd h hnb,fun h=>by cases h.2⟩
   . rw[CN _ hc,<-h.mem,List.mem_append,List.mem_singleton];exact⟨.inl,fun h=>h.elim id fun e=>absurd e hc⟩
 . have e:=SO w b n;rw[Hl hb.2,if_pos hb.1,h.cnt]at e;simp at e;omega
theorem WaitI.le{n:Nat}{w:Nat->Bool}{ws:List Nat}(h:WaitI n w ws):ws.length<=n:=by
 rw[<-h.cnt];have: ∀m,((List.range m).map fun b=>if w b then 1 else 0).sum<=m:=fun m=>by
  induction m with
  | zero=>simp
  | succ m ih=>
   rw[List.range_succ,List.map_append,List.sum_append];simp only[List.map_cons,List.map_nil,List.sum_cons,List.sum_nil,Nat.add_zero];split<;>omega
 exact this n
def JQ(w:Nat->Bool)(b:Nat):Nat->Bool:=Cx w b true
def Hj(w:Nat->Bool)(ws:List Nat)(b:Nat):List Nat:=bif w b then ws else ws++[b]
theorem WaitI.wait{n:Nat}{w:Nat->Bool}{ws:List Nat}(h:WaitI n w ws){b:Nat}(hb:b<n):WaitI n (JQ w b) (Hj w ws b):=by
 unfold JQ Hj
 cases hw:w b with
 | true=>rw[Hl hw];exact h
 | false=>exact h.push hb hw
structure LInv(f:BFunc)(R:Nat)(I O:BB)(w:Nat->Bool)(rest:List Nat):Prop where
  si:GK f I
  so:FU f O
  mono: ∀b x,f.blocks[b]?=some x->∀v,I b v=true->need v x.ins (Df x v||O b v)=true
  cl: ∀b,b<f.blocks.length->w b=false->b∈rest\/GL f R I O b
def PO(f:BFunc)(c a:Nat):List Nat:=((f.blocks[a]?).map fun x=>(x.nexts.filter (· ==(c:Int))).map fun _=>a).getD []
def aheadP(f:BFunc)(k j c:Nat):List Nat:=(List.range k).flatMap (PO f c)++((f.blocks[k]?).map fun x=>((x.nexts.take j).filter (· ==(c:Int))).map fun _=>k).getD []
def Aw(f:BFunc)(c:Nat):List Nat:=(List.range f.blocks.length).flatMap (PO f c)
theorem Di(f:BFunc)(k c:Nat):aheadP f k 0 c=(List.range k).flatMap (PO f c):=by
 unfold aheadP
 cases f.blocks[k]?<;>simp
theorem G3{f:BFunc}{k j:Nat}{x:Block}{d:Int}(hx:f.blocks[k]?=some x)(hd:x.nexts[j]?=some d)(h0:0<=d)(c:Nat):aheadP f k (j+1) c=if c=d.toNat then aheadP f k j c++[k]else aheadP f k j c:=by
 unfold aheadP;rw[hx];have e:x.nexts.take (j+1)=x.nexts.take j++[d]:=by rw[List.take_add_one,hd];rfl
 grind
theorem G4{f:BFunc}{k j:Nat}{x:Block}(hx:f.blocks[k]?=some x)(h:x.nexts.length<=j)(c:Nat):aheadP f k j c=aheadP f (k+1) 0 c:=by
 rw[Di,List.range_succ,List.flatMap_append];unfold aheadP;congr 1;rw[hx];simp only[Option.map_some,Option.getD_some];rw[List.take_of_length_le h];simp[PO,hx]
theorem Pr{f:BFunc}{a c:Nat}{x:Block}(hx:f.blocks[a]?=some x)(h:x.nexts.contains (c:Int)=true):a∈Aw f c:=by
 unfold Aw;rw[List.mem_flatMap];refine⟨a,List.mem_range.2 (List.getElem?_eq_some_iff.1 hx).1,?_⟩;unfold PO;rw[hx];simp only[Option.map_some,Option.getD_some,List.mem_map,List.mem_filter];exact⟨(c:Int),⟨List.contains_iff_mem.1 h,by simp⟩,trivial⟩
theorem JM{f:BFunc}{a c:Nat}(h:a∈Aw f c):a<f.blocks.length:=by
 grind[Aw,PO]
theorem GI(f:BFunc)(k j c:Nat):(aheadP f k j c).length<=2*k+2:=by
 have h1: ∀k,((List.range k).flatMap (PO f c)).length<=2*k:=fun k=>by
  induction k with
  | zero=>simp
  | succ k ih=>
   rw[List.range_succ,List.flatMap_append,List.length_append];have:(PO f c k).length<=2:=by
    unfold PO
    cases e:f.blocks[k]? with
    | none=>simp
    | some x=>
     simp only[Option.map_some,Option.getD_some,List.length_map];exact Nat.le_trans (List.length_filter_le _ _) (F8 x)
   simp only[List.flatMap_cons,List.flatMap_nil,List.append_nil];omega
 have h2:=h1 k;unfold aheadP;rw[List.length_append];have:(((f.blocks[k]?).map fun x=>((x.nexts.take j).filter (· ==(c:Int))).map fun _=>k).getD []).length<=2:=by
  cases e:f.blocks[k]? with
  | none=>simp
  | some x=>
   simp only[Option.map_some,Option.getD_some,List.length_map];refine Nat.le_trans (List.length_filter_le _ _) ?_;rw[List.length_take];have:=F8 x;omega
 omega
theorem LInv.first{f:BFunc}{R:Nat}{w:Nat->Bool}(hw: ∀b,b<f.blocks.length->w b=true):LInv f R (fun _ _=>false) (fun _ _=>false) w []:=
 ⟨fun _ _ h=>(by cases h),fun _ _ h=>(by cases h),fun _ _ _ _ h=>(by cases h),fun b hb h=>(by rw[hw b hb]at h;cases h)⟩
theorem LInv.wait{f:BFunc}{R:Nat}{I O:BB}{w:Nat->Bool}{a:Nat}{rest:List Nat}(h:LInv f R I O w (a::rest)):LInv f R I O (JQ w a) rest:=
 ⟨h.si,h.so,h.mono,fun b hb hw=>by
  unfold JQ at hw
  by_cases hba:b=a
  . subst hba;rw[C4]at hw;cases hw
  . rw[CN _ hba]at hw;rcases h.cl b hb hw with h1 | h1
    . exact(List.mem_cons.1 h1).elim (fun e=>absurd e hba) .inl
    . exact .inr h1⟩
theorem Wf{f:BFunc}{I O:BB}(hI:GK f I)(hO:FU f O){b:Nat}{x:Block}(hx:f.blocks[b]?=some x):FU f (AY O b (DW I (O b) x)):=by
 have hx1: ∀v,DW I (O b) x v=true->outB f x v=true:=fun v hv=>by
  unfold DW at hv;rcases Bool.or_eq_true_iff.1 hv with h | h
  . obtain⟨y,hy,e⟩:=hO b v h;rw[hx]at hy;cases hy;exact e
  . obtain⟨d,hd,hv2⟩:=List.any_eq_true.1 h;have hp:=NC (v:=v) hI hO hx hd b v (by unfold putBB;rw[if_pos ⟨rfl,rfl⟩,hv2,Bool.or_true]);obtain⟨y,hy,e⟩:=hp;rw[hx]at hy;cases hy;exact e
 intro c v hv
 by_cases hc:c=b
 . subst hc;rw[BO]at hv;exact⟨x,hx,hx1 v hv⟩
 . rw[DB _ hc]at hv;exact hO c v hv
theorem LInv.grow{f:BFunc}(hs:f.sane){R:Nat}{I O:BB}{w:Nat->Bool}{b:Nat}{x:Block}(hx:f.blocks[b]?=some x)(h:LInv f R I O w [])
 (hR:R=f.regs.toNat):let o:=DW I (O b) x
 LInv f R (AY I b (inN x o)) (AY O b o) (Cx w b false) (bif chg (inN x o) (I b) (nw R)then Aw f b else [])/\
 (chg (inN x o) (I b) (nw R)=true->Et f.blocks.length (64*nw R) (AY I b (inN x o))<Et f.blocks.length (64*nw R) I)/\Et f.blocks.length (64*nw R) (AY I b (inN x o))<=Et f.blocks.length (64*nw R) I:=by
 intro o;have hbl:b<f.blocks.length:=(List.getElem?_eq_some_iff.1 hx).1;have hso:FU f (AY O b o):=Wf h.si h.so hx;have hle: ∀v,I b v=true->inN x o v=true:=fun v hv=>by
  rw[K1];refine By ?_ (h.mono b x hx v hv);intro e;rcases Bool.or_eq_true_iff.1 e with e | e
  . rw[e];rfl
  . have:o v=true:=by show(O b v||_)=true;rw[e];rfl
    rw[this,Bool.or_true]
 have hmon: ∀c v,I c v=true->AY I b (inN x o) c v=true:=fun c v hv=>by
  by_cases hc:c=b
  . subst hc;rw[BO];exact hle v hv
  . rw[DB _ hc];exact hv
 refine⟨⟨?_,hso,?_,?_⟩,?_,?_⟩
 . intro c v hv
   by_cases hc:c=b
   . subst hc;rw[BO,K1]at hv;exact soundI_need (I:=I) hso hx (by rw[BO];exact hv)
   . rw[DB _ hc]at hv;exact h.si c v hv
 . intro c y hy v hv
   by_cases hc:c=b
   . subst hc;rw[hx]at hy;cases hy;rw[BO]at hv |-;rw[<-K1];exact hv
   . rw[DB _ hc]at hv |-;exact h.mono c y hy v hv
 . intro c hc hw;obtain⟨y,hy⟩:=Ae hc;have hnx: ∀d∈y.nexts,0<=d:=fun d hd=>(hs.next y (List.mem_of_getElem? hy) d hd).1
   -- either nothing new is ahead of b, or c doesn't lead to b, or it is to wait
   by_cases hin:(chg (inN x o) (I b) (nw R)=true/\y.nexts.contains (b:Int)=true)
   . left;rw[hin.1];show c∈Aw f b;exact Pr hy hin.2
   . right;have hsame: ∀d∈y.nexts,∀v,v<R->AY I b (inN x o) d.toNat v=I d.toNat v:=fun d hd v hv=>by
      by_cases hdb:d.toNat=b
      . have hcon:y.nexts.contains (b:Int)=true:=by
         rw[List.contains_iff_mem];have:d=(b:Int):=by have:=hnx d hd;omega
         rw[<-this];exact hd
        have hch:chg (inN x o) (I b) (nw R)=false:=by
         cases e:chg (inN x o) (I b) (nw R)with
         | false=>rfl
         | true=>exact absurd ⟨e,hcon⟩ hin
        rw[hdb,BO];exact eP hch v hv
      . rw[DB _ hdb]
     intro y' hy' v hv;rw[hy]at hy';cases hy'
     by_cases hcb:c=b
     . subst hcb;rw[hx]at hy;cases hy;rw[BO,BO];refine⟨fun d hd hid=>?_,fun hn=>?_⟩
       . rw[hsame d hd v hv]at hid;show(O c v||x.nexts.any fun d=>I d.toNat v)=true;rw[List.any_eq_true.2 ⟨d,hd,hid⟩,Bool.or_true]
       . rw[K1];exact hn
     . have hwc:w c=false:=by rw[CN _ hcb]at hw;exact hw
       have hcl:=(h.cl c hc hwc).elim (fun e=>by cases e) id y hy v hv;rw[DB _ hcb,DB _ hcb];exact⟨fun d hd hid=>hcl.1 d hd (by rw[hsame d hd v hv]at hid;exact hid),hcl.2⟩
 . intro hch;obtain⟨v,hv,hne⟩:=iH hch;have h1:I b v=false:=by
    grind
   refine falses_lt hmon hbl hv h1 ?_;rw[BO]
   cases e:inN x o v with
   | true=>rfl
   | false=>rw[e,h1]at hne;exact absurd rfl hne
 . by_cases hex: ∃v,v<64*nw R/\inN x o v≠I b v
   . obtain⟨v,hv,hne⟩:=hex;have h1:I b v=false:=by
      cases e:I b v with
      | false=>rfl
      | true=>exact absurd (by rw[hle v e,e]) hne
     refine Nat.le_of_lt (falses_lt hmon hbl hv h1 ?_);rw[BO]
     cases e:inN x o v with
     | true=>rfl
     | false=>rw[e,h1]at hne;exact absurd rfl hne
   . refine Nat.le_of_eq ?_;unfold Et;congr 1;refine List.map_congr_left fun c _=>?_
     congr 1;refine List.map_congr_left fun v hv=>?_
     by_cases hc:c=b
     . subst hc;rw[BO];rw[show inN x o v=I c v from Classical.byContradiction fun hne=>hex ⟨v,List.mem_range.1 hv,hne⟩]
     . rw[DB _ hc]
theorem LInv.closed{f:BFunc}{R:Nat}{I O:BB}{w:Nat->Bool}(h:LInv f R I O w [])(hw:WaitI f.blocks.length w [])(b:Nat)(hb:b<f.blocks.length):GL f R I O b:=
 (h.cl b hb (by
  cases e:w b with
  | false=>rfl
  | true=>exact absurd ((hw.mem b).2 ⟨hb,e⟩) (by simp))).elim (fun e=>by cases e) id
theorem LInv.inRow{f:BFunc}(hs:f.sane){R:Nat}(hR:R=f.regs.toNat){I O:BB}{w:Nat->Bool}(h:LInv f R I O w [])(hw:WaitI f.blocks.length w []){b:Nat}(hb:b<f.blocks.length):Hb R (I b)=XO f b:=by
 subst hR;exact Kh fun v hv=>Rn hs h.si h.so (fun c hc=>h.closed hw c hc) hb hv
theorem LInv.outRow{f:BFunc}(hs:f.sane){R:Nat}(hR:R=f.regs.toNat){I O:BB}{w:Nat->Bool}(h:LInv f R I O w [])(hw:WaitI f.blocks.length w []){b:Nat}{x:Block}(hx:f.blocks[b]?=some x):Hb R (O b)=Sg f x:=by
 subst hR;exact Kh fun v hv=>WJ hs h.si h.so (fun c hc=>h.closed hw c hc) hx hv
def BH(a:Nat):List AV:=[AV.int .i64 (a:Int)]
def Vn(R:Nat)(x:Block):List AV:=[AV.lst false (Bt R (JV x))]
def Vm(R:Nat)(x:Block):List AV:=[AV.lst false (Bt R (fun v=>CO v x.ins))]
def Ps(A:Nat->List Nat)(c:Nat):AV:=Ek (3*c+2+16) ((A c).map BH)
abbrev fI(f:BFunc)(m len:Nat):List AV:=[A1 f.nexts,.ref 7 f.blocks.length 0 f.blocks.length,.ref 8 f.blocks.length 0 f.blocks.length,.ref 9 f.blocks.length 0 f.blocks.length,.ref 3 f.blocks.length 0 f.blocks.length,.ref 4 f.blocks.length 0 f.blocks.length,.ref 6 m 0 len,.ref 5 f.blocks.length 0 f.blocks.length]
abbrev bC(n:Nat)(w:Nat->Bool):List (List AV):=Ay (fun b=>.bool (w b)) n
def rI(n R:Nat)(I:BB):Nat->AObj:=CK n (fun b=>EA R (I b))
def rA(n:Nat)(A:Nat->List Nat):Nat->AObj:=CK n (fun c=>Ie 1 ((A c).map BH))
abbrev iN(f:BFunc)(R:Nat)(es:List (List AV))(len:Nat)(w:Nat->Bool):List AObj:=
  [.row false 8 [fI f es.length len],.row false 1 (Ay (rG 0 (nw R)) f.blocks.length),.row false 1 (Ay (rG 1 (nw R)) f.blocks.length),.row true 1 (bC f.blocks.length w),.row true 1 es,
   .row false 1 (Ay (Ps (Aw f)) f.blocks.length),.row true 1 (f.blocks.map (Vn R)),.row true 1 (f.blocks.map (Vm R))]
abbrev HS(f:BFunc)(R:Nat)(es:List (List AV))(len:Nat)(w:Nat->Bool)(F:Nat->AObj):Ac:=HA (nb (.free:: .free::iN f R es len w)) F
theorem CM(k0:Nat)(A:Nat->List Nat)(c:Nat):(Ps A c).avoid (kf k0)=true:=Cb _ (Us _ _)
theorem CC{k:Nat->Bool}{n:Nat}{A:Nat->List Nat}(b:Nat):(rA n A b).avoid k=true:=EE (fun _=>Dy _ _) b
def C3(w:Nat->Bool)(es:List (List AV))(len b:Nat):List (List AV):=bif w b then es else CY es len (BH b)
def DN(w:Nat->Bool)(len b:Nat):Nat:=bif w b then len else len+1
theorem lK{n b:Nat}{w:Nat->Bool}(z:Bool):(bC n w).set b [AV.bool z]=bC n (Cx w b z):=by
 show(Ay _ n).set b _=_;rw[HD];refine CX fun c _=>?_
 unfold Cx;split<;>rfl
theorem H8{n b:Nat}{w:Nat->Bool}(z:Bool):(bC n w).set (0+((b:Nat):Int).toNat) [AV.bool z]=bC n (Cx w b z):=by
 rw[Nat.zero_add,Int.toNat_natCast];exact lK z
structure StackI(n:Nat)(es:List (List AV))(ws:List Nat):Prop where
  top:es.take ws.length=ws.map BH
  le:ws.length<=es.length
  max:es.length<=n
theorem Qc{n:Nat}{es:List (List AV)}{len:Nat}{cs:List AV}(h:len<=es.length)(hn:es.length<=n)(hl:len<n):(CY es len cs).length<=n:=by
 grind[CY,List.length_set,List.length_append]
theorem Nr{w:Nat->Bool}{ws:List Nat}{b:Nat}:DN w ws.length b=(Hj w ws b).length:=by
 grind[DN,Hj]
theorem StackI.wait{n:Nat}{es:List (List AV)}{ws:List Nat}{w:Nat->Bool}(h:StackI n es ws)(hw:WaitI n w ws){b:Nat}(hb:b<n):StackI n (C3 w es ws.length b) (Hj w ws b):=by
 unfold C3 Hj
 cases e:w b with
 | true=>exact h
 | false=>
  have hlt:=(hw.wait hb).le;unfold Hj at hlt;rw[e]at hlt;simp only[cond_false,List.length_append,List.length_cons,List.length_nil]at hlt;refine⟨?_,?_,Qc h.le h.max (by omega)⟩
  . simp only[cond_false,List.length_append,List.length_cons,List.length_nil];rw[Kf h.le,h.top,List.map_append];rfl
  . simp only[cond_false,List.length_append,List.length_cons,List.length_nil];exact LJ h.le
theorem StackI.get{n:Nat}{es:List (List AV)}{ws:List Nat}{b:Nat}(h:StackI n es (ws++[b])):es[ws.length]?=some (BH b):=by
 have h1:=congrArg (fun l=>l[ws.length]?) h.top
 grind
theorem StackI.pop{n:Nat}{es:List (List AV)}{ws:List Nat}{b:Nat}(h:StackI n es (ws++[b])):StackI n es ws:=by
 refine⟨?_,by have:=h.le;simp at this;omega,h.max⟩;have h1:=congrArg (List.take ws.length) h.top
 grind
theorem TF{n R:Nat}{I I':BB}(h: ∀b,b<n->Bt R (I b)=Bt R (I' b)):rI n R I=rI n R I':=funext fun b=>by
 unfold rI CK
 by_cases hb:b<n
 . rw[if_pos hb,if_pos hb];show AObj.row true 1 _=AObj.row true 1 _;rw[h b hb]
 grind
theorem cm{n R:Nat}{I:BB}{b:Nat}{p q:Nat->Bool}(h:Bt R p=Bt R q):rI n R (AY I b p)=rI n R (AY I b q):=TF fun c _=>by
 unfold AY;split
 . exact h
 . rfl
theorem Xv{n R:Nat}{I:BB}{b:Nat}{p:Nat->Bool}(h:Bt R (I b)=Bt R p):rI n R I=rI n R (AY I b p):=TF fun c _=>by
 unfold AY;split
 . subst_vars;exact h
 . rfl
theorem gz{n R:Nat}{I:BB}{r1 r2:Nat->AObj}{b:Nat}(h:b<n):F3 (rI n R I) r1 r2 (3*b+0)= .row true 1 (Bt R (I b)):=(qW _ _ _ _).trans (Ex h)
theorem ql{n R:Nat}{O:BB}{r0 r2:Nat->AObj}{b:Nat}(h:b<n):F3 r0 (rI n R O) r2 (3*b+1)= .row true 1 (Bt R (O b)):=(qV _ _ _ _).trans (Ex h)
theorem Xu{n R:Nat}{I:BB}{r1 r2:Nat->AObj}{b:Nat}{p:Nat->Bool}(h:b<n):F3 (rI n R (AY I b p)) r1 r2 (3*b+0)= .row true 1 (Bt R p):=by rw[gz h,BO]
theorem P9{n R:Nat}{O:BB}{r0 r2:Nat->AObj}{b:Nat}{p:Nat->Bool}(h:b<n):F3 r0 (rI n R (AY O b p)) r2 (3*b+1)= .row true 1 (Bt R p):=by rw[ql h,BO]
theorem cg{n R:Nat}{I:BB}{b:Nat}{p p':Nat->Bool}(hb:b<n):rI n R (AY I b p')=J4 (rI n R (AY I b p)) b (.row true 1 (Bt R p')):=by
 have:=Gm (k:=n) (o:=fun c=>EA R (AY I b p c)) (o':=fun c=>EA R (AY I b p' c)) hb (fun c hc=>by rw[DB _ hc,DB _ hc]);refine this.trans ?_;rw[BO];rfl
theorem ce{n R:Nat}{O:BB}{r0 r2:Nat->AObj}{b k:Nat}{p p':Nat->Bool}{cs:List AV}(h:b<n)(hs:(Bt R p).set k cs=Bt R p')(x:Nat):
 F3 r0 (rI n R (AY O b p')) r2 x=if x=3*b+1 then .row true 1 ((Bt R p).set (0+((k:Nat):Int).toNat) cs)else F3 r0 (rI n R (AY O b p)) r2 x:=by
 rw[cg (p:=p) h,jt,Nat.zero_add,Int.toNat_natCast,hs]
theorem cf{n R:Nat}{I:BB}{r1 r2:Nat->AObj}{b k:Nat}{p p':Nat->Bool}{cs:List AV}(h:b<n)(hs:(Bt R p).set k cs=Bt R p')(x:Nat):
 F3 (rI n R (AY I b p')) r1 r2 x=if x=3*b+0 then .row true 1 ((Bt R p).set (0+((k:Nat):Int).toNat) cs)else F3 (rI n R (AY I b p)) r1 r2 x:=by
 rw[cg (p:=p) h,ju,Nat.zero_add,Int.toNat_natCast,hs]
theorem A0{k:Nat->Bool}{n R:Nat}{I:BB}(b:Nat):(rI n R I b).avoid k=true:=EE (fun _=>rfl) b
theorem qj{n R:Nat}{I:BB}{b:Nat}{p:Nat->Bool}{r1 r2:Nat->AObj}(h: ∀v,I b v=p v)(x:Nat):F3 (rI n R I) r1 r2 x=F3 (rI n R (AY I b p)) r1 r2 x:=by rw[Xv (DT h)]
theorem qi{n R:Nat}{O:BB}{b:Nat}{p:Nat->Bool}{r0 r2:Nat->AObj}(h: ∀v,O b v=p v)(x:Nat):F3 r0 (rI n R O) r2 x=F3 r0 (rI n R (AY O b p)) r2 x:=by rw[Xv (DT h)]
theorem bJ{n R:Nat}{I:BB}{b:Nat}{p q:Nat->Bool}{r1 r2:Nat->AObj}(h:Bt R p=Bt R q)(x:Nat):F3 (rI n R (AY I b p)) r1 r2 x=F3 (rI n R (AY I b q)) r1 r2 x:=by rw[cm h]
theorem bI{n R:Nat}{O:BB}{b:Nat}{p q:Nat->Bool}{r0 r2:Nat->AObj}(h:Bt R p=Bt R q)(x:Nat):F3 r0 (rI n R (AY O b p)) r2 x=F3 r0 (rI n R (AY O b q)) r2 x:=by rw[cm h]
theorem cY{p q:Nat->Bool}{k:Nat}{z:Bool}(h:((((wd (fun v=>p (64*k+v)):Nat):Int)) !=((wd (fun v=>q (64*k+v)):Nat):Int))=z):(PC p k !=PC q k)=z:=by
 rw[<-h]
 grind[wd,PC]
theorem ah{a b:Nat}(h:(a !=b)=false):a=b:=by simpa using h
theorem Qo{P:Program}{o:Oper}{e:Av}{h:Ac}{g:FuncId}{fn:Func}{args:Array Operand}{tys:Array TypeId}{xs:List AV}{r:AV}(z:Nat){q:AObj}
 (ho:o.op= .call {callee:=.value (.func g),args:=args,argTypes:=tys}) (hf:P.funcs[g]?=some fn) (hn:(fn.name== "runtime.NumGoroutine")=false) (hb:fn.body.isSome=true) (hx:AX e args.toList=some xs)
 (hxa:xs.all (AV.avoid (mem [z]))=true) (hz:h z=some .free) (hq:q.avoid (mem [z])=true) (hra:r.avoid (mem [z])=true)
 (hcall:ACall P g xs (hput hNew z .free) (fun r' h'=>r'=r/\HSub (hput hNone z q) h')):OLoc P o e h [z] [(z,q)] (some r):=
 LN (hc:=hput hNew z .free) (hw:=hput hNone z q) [z] [(z,q)] ho hf hn hb hx hxa ⟨⟨.free,hz,rfl⟩,trivial⟩ (by simp[KV]) (AJ hz (BF h)) ⟨⟨q,Aq _ _ _,Aq _ _ _,hq⟩,trivial⟩ hra hcall
def Wk(x y:AV):Prop:=(x.cell1=true->y.cell1=true)/\∀H ι v,Rel H ι x v->Rel H ι y v
theorem Wk.refl(x:AV):Wk x x:=⟨fun h=>h,fun _ _ _ h=>h⟩
theorem Wk.nil(b:Nat):Wk .nil (Ek b []):=⟨fun _=>rfl,fun H ι v h=>bO h⟩
def WkAll:List AV->List AV->Prop
  | [],[]=>True
  | x::xs,y::ys=>Wk x y/\WkAll xs ys
  | _,_=>False
theorem WkAll.len: ∀{xs ys:List AV},WkAll xs ys->ys.length=xs.length
 | [],[],_=>rfl
 | x::xs,y::ys,h=>by rw[List.length_cons,List.length_cons,WkAll.len h.2]
theorem WkAll.get: ∀{xs ys:List AV},WkAll xs ys->∀(j:Nat) (x y:AV),xs[j]?=some x->ys[j]?=some y->Wk x y
 | [],[],_,j,x,y,h1,h2=>by simp at h1
 | a::xs,b::ys,h,0,x,y,h1,h2=>by cases h1;cases h2;exact h.1
 | a::xs,b::ys,h,j+1,x,y,h1,h2=>WkAll.get h.2 j x y h1 h2
theorem Nq{cs cs':List AV}(h:WkAll cs cs'): ∀(i:Nat) (ds ds':List AV),[cs][i]?=some ds->[cs'][i]?=some ds'->ds'.length=ds.length/\∀(j:Nat) (x y:AV),ds[j]?=some x->ds'[j]?=some y->(x.cell1=true->y.cell1=true)/\∀H ι v,Rel H ι x v->Rel H ι y v:=fun i ds ds' h1 h2=>by
 cases i with
 | zero=>cases h1;cases h2;exact⟨h.len,fun j x y g1 g2=>h.get j x y g1 g2⟩
 | succ i=>simp at h1
theorem weak_col{n:Nat}{x:AV}{g:Nat->AV}(h: ∀b,Wk x (g b)): ∀(i:Nat) (ds ds':List AV),(List.replicate n [x])[i]?=some ds->(Ay g n)[i]?=some ds'->ds'.length=ds.length/\∀(j:Nat) (x y:AV),ds[j]?=some x->ds'[j]?=some y->(x.cell1=true->y.cell1=true)/\∀H ι v,Rel H ι x v->Rel H ι y v:=fun i ds ds' h1 h2=>by
 grind[U6,List.mem_of_getElem?,Wk,Ay]
abbrev qN(f:BFunc)(R k:Nat):List AV:=[A1 f.nexts,.ref 7 f.blocks.length 0 f.blocks.length,Ek 8 ((f.blocks.take k).map (Vn R)),Ek 9 ((f.blocks.take k).map (Vm R)),Ek 3 (Ay (rG 0 (nw R)) k),Ek 4 (Ay (rG 1 (nw R)) k),.nil,.ref 5 f.blocks.length 0 f.blocks.length]
theorem Jl(f:BFunc)(R:Nat){k0:Nat}(h:10<=k0){a b c d:List (List AV)}:(AObj.row false 8 [[A1 f.nexts,AV.ref 7 f.blocks.length 0 f.blocks.length,Ek 8 a,Ek 9 b,Ek 3 c,Ek 4 d,AV.nil,AV.ref 5 f.blocks.length 0 f.blocks.length]]).avoid (kf k0)=true:=by
 have hk: ∀c,c<10->kf k0 c=true:=fun c hc=>jg (by omega)
 show(List.all [_,_,_,_,_,_,_,_] (AV.avoid (kf k0))&&true)=true;simp only[List.all_cons,List.all_nil,Bool.and_true,Bool.and_eq_true];exact⟨rfl,hk 7 (by omega),Cb _ (hk 8 (by omega)),Cb _ (hk 9 (by omega)),Cb _ (hk 3 (by omega)),Cb _ (hk 4 (by omega)),rfl,hk 5 (by omega)⟩
theorem lL{n d k:Nat}{A A':Nat->List Nat}(h: ∀c,A' c=if c=d then A c++[k]else A c):(Ay (Ps A) n).set (0+d) [Ek (3*d+2+16) ((A d).map BH++[BH k])]=Ay (Ps A') n:=by
 grind[HD,CX,Ps,Ay,Ek,BH]
theorem kT{n d k:Nat}{A A':Nat->List Nat}{r0 r1:Nat->AObj}(hd:d<n)(h: ∀c,A' c=if c=d then A c++[k]else A c)(x:Nat):F3 r0 r1 (rA n A') x=if x=3*d+2 then Ie 1 ((A d).map BH++[BH k])else F3 r0 r1 (rA n A) x:=by
 have e:rA n A'=J4 (rA n A) d (Ie 1 ((A' d).map BH)):=Gm hd fun c hc=>by rw[h,if_neg hc]
 grind[qU,F3,rA,Ie,BH]
theorem TG{n:Nat}{A A':Nat->List Nat}(h: ∀c,A c=A' c):rA n A=rA n A':=by rw[funext h]
theorem kU{n:Nat}{A:Nat->List Nat}{r0 r1:Nat->AObj}{b:Nat}(h:b<n):F3 r0 r1 (rA n A) (3*b+2)=Ie 1 ((A b).map BH):=(tz _ _ _ _).trans (Ex h)
theorem gy{k R:Nat}{I:BB}{r1 r2:Nat->AObj}:F3 (rI k R I) r1 r2 (3*k+0)= .free:=(qW _ _ _ _).trans (J9 (Nat.le_refl _))
theorem gv{k R:Nat}{O:BB}{r0 r2:Nat->AObj}:F3 r0 (rI k R O) r2 (3*k+1)= .free:=(qV _ _ _ _).trans (J9 (Nat.le_refl _))
abbrev B0:BB:=fun _ _=>false
theorem ck{k R:Nat}{r1 r2:Nat->AObj}(x:Nat):F3 (rI (k+1) R B0) r1 r2 x=if x=3*k+0 then EA R (fun _=>false)else F3 (rI k R B0) r1 r2 x:=by
 unfold rI;rw[IA,ju]
theorem cj{k R:Nat}{r0 r2:Nat->AObj}(x:Nat):F3 r0 (rI (k+1) R B0) r2 x=if x=3*k+1 then EA R (fun _=>false)else F3 r0 (rI k R B0) r2 x:=by
 unfold rI;rw[IA,jt]
theorem rI_start{n R x:Nat}:F3 (rI 0 R B0) (rI 0 R B0) (rA n (fun _=>[])) x= .free:=by
 unfold F3 rI rA CK;rw[if_neg (Nat.not_lt_zero _)];split
 . rfl
 . split
   . rfl
   . split<;>rfl
theorem bD{f:BFunc}{R k:Nat}{x:Block}(hx:f.blocks[k]?=some x):[A1 f.nexts,AV.ref 7 f.blocks.length 0 f.blocks.length,Ek 8 ((f.blocks.take k).map (Vn R)++[Vn R x]),Ek 9 ((f.blocks.take k).map (Vm R)++[Vm R x]),Ek 3 (Ay (rG 0 (nw R)) k++[[rG 0 (nw R) k]]),Ek 4 (Ay (rG 1 (nw R)) k++[[rG 1 (nw R) k]]),AV.nil,AV.ref 5 f.blocks.length 0 f.blocks.length]=qN f R (k+1):=by
 have e: ∀g:Block->List AV,(f.blocks.take k).map g++[g x]=(f.blocks.take (k+1)).map g:=fun g=>by
  rw[List.take_add_one,hx,List.map_append];rfl
 rw[e (Vn R),e (Vm R),<-JL,<-JL]
theorem PP{f:BFunc}{k:Nat}{x:Block}(hx:f.blocks[k]?=some x)(g:Block->List AV):(f.blocks.take k).map g++[g x]=(f.blocks.take (k+1)).map g:=by
 rw[List.take_add_one,hx,List.map_append];rfl
theorem gk{f:BFunc}{R:Nat}(h:0<f.blocks.length):qN f R f.blocks.length=[A1 f.nexts,AV.ref 7 f.blocks.length 0 f.blocks.length,.ref 8 f.blocks.length 0 f.blocks.length,.ref 9 f.blocks.length 0 f.blocks.length,.ref 3 f.blocks.length 0 f.blocks.length,.ref 4 f.blocks.length 0 f.blocks.length,AV.nil,AV.ref 5 f.blocks.length 0 f.blocks.length]:=by
 have e: ∀(t:Nat) (g:Block->List AV),Ek t ((f.blocks.take f.blocks.length).map g)= .ref t f.blocks.length 0 f.blocks.length:=fun t g=>by
  rw[List.take_length];have:=ND (b:=t) (es:=f.blocks.map g) (k:=0) (by rw[List.length_map];exact h)
  grind
 show [_,_,Ek 8 _,Ek 9 _,Ek 3 _,Ek 4 _,_,_]=_;rw[e,e,Xi h,Xi h]
theorem Xh{l:List Block}{g:Block->List AV}(h:0<l.length):Ie 1 (l.map g)= .row true 1 (l.map g):=by
 cases l with
 | nil=>simp at h
 | cons x l=>rfl
theorem Jv{α:Type}{l:List α}{g:α->List AV}(h: ∀x,(g x).length=1): ∀cs∈l.map g,cs.length=1:=fun cs hc=>by
 grind
theorem Gv{α:Type}{l:List α}{g:α->List AV}(h: ∀x,(g x).all AV.isPure1=true): ∀cs∈l.map g,cs.all AV.isPure1=true:=fun cs hc=>by
 grind
def kS:Nat->Bool:=fun c=>(Nat.ble 2 c&&Nat.blt c 10)||Nat.ble 16 c
def KL(h g:Ac):Ac:=fun c=>bif kS c then g c else h c
theorem dv(x:Nat):kS (x+16)=true:=by
 unfold kS;rw[show Nat.ble 16 (x+16)=true by rw[Nat.ble_eq];omega];simp
theorem dw{c:Nat}(h:kS c=false):c=0\/c=1\/(10<=c/\c<16):=by
 unfold kS at h;simp only[Bool.or_eq_false_iff,Bool.and_eq_false_iff]at h;obtain⟨h1,h2⟩:=h;have h3: ¬16<=c:=fun e=>by rw[<-Nat.ble_eq]at e;rw[e]at h2;cases h2
 rcases h1 with h1 | h1
 . have: ¬2<=c:=fun e=>by rw[<-Nat.ble_eq]at e;rw[e]at h1;cases h1
   omega
 . have: ¬c<10:=fun e=>by
    have:Nat.blt c 10=true:=by unfold Nat.blt;rw[Nat.ble_eq];omega
    rw[this]at h1;cases h1
   omega
theorem M9{c:Nat}(h:kS c=true):(2<=c/\c<10)\/16<=c:=by
 unfold kS at h
 (simp_all;done)
theorem KK(h g:Ac)(x:Nat):KL h g (x+16)=g (x+16):=by unfold KL;rw[dv];rfl
theorem Hr{h g:Ac}{c:Nat}(hc:kS c=true):KL h g c=g c:=by unfold KL;rw[hc];rfl
theorem Sa{h g:Ac}{c:Nat}(hc:kS c=false):KL h g c=h c:=by unfold KL;rw[hc];rfl
theorem aA(f:BFunc)(R:Nat)(es:List (List AV))(len:Nat)(w:Nat->Bool): ∀i,i<8->(Vo (iN f R es len w) i).avoid kS=true:=fun i hi=>by
 have h3: ∀q b,(rG q (nw R) b).avoid kS=true:=fun q b=>by
  simp[rG,AV.avoid,AV.flat,dv]
 have h7: ∀A b,(Ps A b).avoid kS=true:=fun A b=>Cb _ (dv _)
 rcases(by omega:i=0\/i=1\/i=2\/i=3\/i=4\/i=5\/i=6\/i=7)with rfl | rfl | rfl | rfl | rfl | rfl | rfl | rfl
 . rfl
 . exact Ad (fun b _=>h3 0 b)
 . exact Ad (fun b _=>h3 1 b)
 . rfl
 . rfl
 . exact Ad (fun b _=>h7 _ b)
 . rfl
 . rfl
theorem fx(f:BFunc)(R:Nat)(es:List (List AV))(len:Nat)(w:Nat->Bool)(F:Nat->AObj){i:Nat}(hi:i<8):HS f R es len w F (2+i)=some (Vo (iN f R es len w) i):=by
 show HA (nb _) F (2+i)=_;rw[IY _ _ (by omega)];unfold nb;congr 1;rw[Nat.add_comm 2 i];rfl
theorem Pu{f:BFunc}{R:Nat}{es:List (List AV)}{len:Nat}{w:Nat->Bool}{F:Nat->AObj}(hF: ∀x,(F x).avoid kS=true){c:Nat}(hc:kS c=true): ∃q,HS f R es len w F c=some q/\q.avoid kS=true:=by
 rcases M9 hc with h | h
 . obtain⟨i,rfl⟩: ∃i,c=2+i:=⟨c-2,by omega⟩
   exact⟨_,fx f R es len w F (by omega),aA f R es len w i (by omega)⟩
 . obtain⟨x,rfl⟩: ∃x,c=x+16:=⟨c-16,by omega⟩
   exact⟨_,Ao _ _ _,hF x⟩
def LowS(h:Ac):Nat->List AObj->Prop
  | _,[]=>True
  | i,o::L=>h i=some o/\LowS h (i+1) L
theorem LowS.get{h:Ac}: ∀{L:List AObj} {i c:Nat},LowS h i L->c<L.length->h (i+c)=some (Vo L c)
 | o::L,i,0,hl,_=>hl.1
 | o::L,i,c+1,hl,hc=>by
  have:=LowS.get (L:=L) (i:=i+1) (c:=c) hl.2 (by simpa using hc);rw[show i+(c+1)=i+1+c by omega];exact this
theorem fw{h:Ac}{f:BFunc}{R:Nat}{es:List (List AV)}{len:Nat}{w:Nat->Bool}{F:Nat->AObj}(h1:LowS h 2 (iN f R es len w))(h2: ∀x,h (x+16)=some (F x)){c:Nat}(hc:kS c=true):h c=HS f R es len w F c:=by
 rcases M9 hc with hh | hh
 . obtain⟨i,rfl⟩: ∃i,c=2+i:=⟨c-2,by omega⟩
   rw[fx f R es len w F (by omega)];exact h1.get (by show i<8;omega)
 . obtain⟨x,rfl⟩: ∃x,c=x+16:=⟨c-16,by omega⟩
   rw[h2];exact(Ao _ _ _).symm
theorem lm{h:Ac}{f:BFunc}{R:Nat}{es:List (List AV)}{len:Nat}{w:Nat->Bool}{F:Nat->AObj}(h1:LowS h 2 (iN f R es len w))(h2: ∀x,h (x+16)=some (F x)):HSub (KL hNone (HS f R es len w F)) h:=fun c o ho=>by
 cases e:kS c with
 | true=>rw[Hr e]at ho;rw[fw h1 h2 e];exact ho
 | false=>rw[Sa e]at ho;cases ho
theorem N4{k:Nat}:C3 (fun b=>decide (b<k)) ((List.range k).map BH) k k=(List.range (k+1)).map BH:=by
 unfold C3 CY;simp[List.range_succ]
theorem Lq(k:Nat):Cx (fun b=>decide (b<k)) k true=fun b=>decide (b<k+1):=funext fun c=>by
 grind[Cx]
theorem QL(k:Nat):DN (fun b=>decide (b<k)) k k=k+1:=by
 unfold DN;simp
theorem dH{h:Ac}{f:BFunc}{R:Nat}{es:List (List AV)}{len:Nat}{w:Nat->Bool}{F:Nat->AObj}(h1:LowS h 2 (iN f R es len w))(h2: ∀x,h (x+16)=some (F x)):En h kS=HS f R es len w F:=funext fun c=>by
 unfold En
 cases e:kS c with
 | true=>exact fw h1 h2 e
 | false=>
  rcases dw e with rfl | rfl | hc
  . rfl
  . rfl
  . show some AObj.free=HA (nb (.free:: .free::iN f R es len w)) F c;rw[IY _ _ (by omega)];show some AObj.free=some (Vo (.free:: .free::iN f R es len w) c);rw[nth_out (by show 10<=c;omega)]
theorem Of{P:Program}{o:Oper}{e:Av}{h:Ac}{g:FuncId}{fn:Func}{args:Array Operand}{tys:Array TypeId}{xs:List AV}{r:AV}{f:BFunc}{R:Nat}{es es':List (List AV)}{len len':Nat}{w w':Nat->Bool}{F F':Nat->AObj}
 (ho:o.op= .call {callee:=.value (.func g),args:=args,argTypes:=tys}) (hf:P.funcs[g]?=some fn) (hn:(fn.name== "runtime.NumGoroutine")=false) (hb:fn.body.isSome=true) (hx:AX e args.toList=some xs)
 (hxa:xs.all (AV.avoid kS)=true) (h1:LowS h 2 (iN f R es len w)) (h2: ∀x,h (x+16)=some (F x)) (hF: ∀x,(F x).avoid kS=true) (hF': ∀x,(F' x).avoid kS=true) (hra:r.avoid kS=true)
 (hcall:ACall P g xs (HS f R es len w F) (fun r' h'=>r'=r/\HSub (HS f R es' len' w' F') h')):MM P o e h (KL h (HS f R es' len' w' F')) r:=
 KR (hw:=HS f R es' len' w' F') kS ho hf hn hb hx hxa (fun b hb=>by rw[fw h1 h2 hb];exact Pu hF hb) (dH h1 h2) (fun b hb=>Sa hb)
  (fun b hb=>by obtain⟨q,q1,q2⟩:=Pu (f:=f) (R:=R) (es:=es') (len:=len') (w:=w') hF' hb;exact⟨q,q1,(Hr hb).trans q1,q2⟩) hra hcall
theorem E2{α:Type}(l:List α):l=[]\/∃L b,l=L++[b]:=by
 cases h:l.reverse with
 | nil=>left;exact List.reverse_eq_nil_iff.1 h
 | cons b r=>right;exact⟨r.reverse,b,by rw[<-List.reverse_reverse l,h,List.reverse_cons]⟩
theorem VC(n:Nat):WaitI n (fun b=>decide (b<0)) []:=by
 refine⟨List.nodup_nil,fun b=>by simp,?_⟩
 induction n with
 | zero=>rfl
 | succ n ih=>rw[List.range_succ,List.map_append,List.sum_append,ih];simp
theorem Is{n:Nat}: ∀k,k<=n->WaitI n (fun b=>decide (b<k)) (List.range k)
 | 0,_=>VC n
 | k+1,h=>by
  have:=(Is (n:=n) k (by omega)).push (b:=k) (by omega) (by simp);rw[Lq,<-List.range_succ]at this;exact this
theorem stackI_range(n:Nat):StackI n ((List.range n).map BH) (List.range n):=by
 refine⟨?_,by simp,by simp⟩;rw[List.take_of_length_le (by simp)]
theorem KO{L:List Nat}{b:Nat}(h:L.length<=1000000):AM .sub (.int .i64 (((L++[b]).length:Nat):Int)) (.int .i64 1)=some (.int .i64 (L.length:Int)):=by
 grind[AM,Bw,isShift,BJ]
theorem gV{F F' n a b:Nat}(h:F'<F)(ha:a<=n):F'*(n+1)+a<F*(n+1)+b:=by
 have h1:(F'+1)*(n+1)<=F*(n+1):=Nat.mul_le_mul_right _ h
 grind
theorem gW{F F' n a b:Nat}(h:F'<=F)(ha:a<b):F'*(n+1)+a<F*(n+1)+b:=by
 have h1:F'*(n+1)<=F*(n+1):=Nat.mul_le_mul_right _ h;omega
structure LQ where
  I:BB
  O:BB
  w:Nat->Bool
  ws:List Nat
  es:List (List AV)
structure LQI(f:BFunc)(R:Nat)(q:LQ):Prop where
  k:LInv f R q.I q.O q.w []
  wt:WaitI f.blocks.length q.w q.ws
  st:StackI f.blocks.length q.es q.ws
def t7(f:BFunc)(R:Nat)(q:LQ):Nat:=Et f.blocks.length (64*nw R) q.I*(f.blocks.length+1)+q.ws.length
def tL(n:Nat):LQ:=⟨B0,B0,fun b=>decide (b<n),List.range n,(List.range n).map BH⟩
theorem LQI.first(f:BFunc)(R:Nat):LQI f R (tL f.blocks.length):=⟨LInv.first fun b hb=>decide_eq_true hb,Is _ (Nat.le_refl _),stackI_range _⟩
structure LP where
  w:Nat->Bool
  ws:List Nat
  es:List (List AV)
  j:Nat
structure LPI(f:BFunc)(R:Nat)(I O:BB)(b:Nat)(p:LP):Prop where
  k:LInv f R I O p.w ((Aw f b).drop p.j)
  wt:WaitI f.blocks.length p.w p.ws
  st:StackI f.blocks.length p.es p.ws
theorem LPI.next{f:BFunc}{R:Nat}{I O:BB}{b:Nat}{p:LP}{a:Nat}(h:LPI f R I O b p)(ha:(Aw f b)[p.j]?=some a):LPI f R I O b ⟨JQ p.w a,Hj p.w p.ws a,C3 p.w p.es p.ws.length a,p.j+1⟩:=by
 have hlt:=JM (List.mem_of_getElem? ha);have hk:=h.k;rw[List.drop_eq_getElem_cons (List.getElem?_eq_some_iff.1 ha).1,(List.getElem?_eq_some_iff.1 ha).2]at hk;exact⟨hk.wait,h.wt.wait hlt,h.st.wait h.wt hlt⟩
theorem LPI.done{f:BFunc}{R:Nat}{I O:BB}{b:Nat}{p:LP}(h:LPI f R I O b p)(hj:(Aw f b).length<=p.j):LQI f R ⟨I,O,p.w,p.ws,p.es⟩:=by
 have hk:=h.k;rw[List.drop_eq_nil_iff.2 hj]at hk;exact⟨hk,h.wt,h.st⟩
theorem Kq(f:BFunc)(c:Nat):(Aw f c).length<=2*f.blocks.length+2:=by
 have:=GI f f.blocks.length 0 c
 grind[Di,Aw]
theorem Fo{l:List (List Bool)}{k:Nat}{x:List Bool}(h:l[k]?=some x):(l.take k).map C0++[C0 x]=(l.take (k+1)).map C0:=by
 rw[List.take_add_one,h,List.map_append];rfl
theorem OO{f:BFunc}{k:Nat}(h:k<f.blocks.length):(HX f)[k]?=some (XO f k):=by simp[HX,h]
theorem My{f:BFunc}{k:Nat}{x:Block}(h:f.blocks[k]?=some x):(HT f)[k]?=some (Sg f x):=by simp[HT,h]
theorem Mt{k0:Nat}(h:13<=k0){a b:List (List AV)}:(AObj.row false 2 [[Ek 11 a,Ek 12 b]]).avoid (kf k0)=true:=by
 have hk: ∀c,c<13->kf k0 c=true:=fun c hc=>jg (by omega)
 show(List.all [_,_] (AV.avoid (kf k0))&&true)=true
 grind[Cb,Ek,kf]
structure Site where
  at_:Nat
  r:Bool
  s:Bool
def Er(G:Nat->Bool):List Tac->Nat->List Tac
  | [],_=>[]
  | t::l,j=>bif G j then Er G l (j+1)else t::Er G l (j+1)
theorem Sm(G:Nat->Bool)(l2:List Tac): ∀(l1:List Tac) (j:Nat),Er G (l1++l2) j=Er G l1 j++Er G l2 (j+l1.length)
 | [],j=>by simp[Er]
 | t::l,j=>by
  rw[List.cons_append,Er,Er,Sm G l2 l (j+1),List.length_cons]
  grind
theorem JD{G G':Nat->Bool}: ∀(l:List Tac) (j:Nat),(∀i,j<=i->i<j+l.length->G i=G' i)->Er G l j=Er G' l j
 | [],_,_=>rfl
 | t::l,j,h=>by
  rw[Er,Er,h j (Nat.le_refl _) (by simp),JD l (j+1) fun i h1 h2=>h i (by omega) (by simp;omega)]
theorem M8(G:Nat->Bool): ∀(l:List Tac) (j:Nat),(Er G l j).length<=l.length
 | [],_=>Nat.le_refl _
 | t::l,j=>by
  have:=M8 G l (j+1)
  grind[Er]
theorem Um: ∀(l:List Tac) (j:Nat),Er (fun _=>false) l j=l
 | [],_=>rfl
 | t::l,j=>by rw[Er,Um l (j+1)];rfl
theorem QO{G:Nat->Bool}{l:List Tac}{p:Nat}{t:Tac}(h:l[p]?=some t):Er G l 0=Er G (l.take p) 0++(bif G p then Er G (l.drop (p+1)) (p+1)else t::Er G (l.drop (p+1)) (p+1)):=by
 have hp:=(List.getElem?_eq_some_iff.1 h).1;have e:l=l.take p++t::l.drop (p+1):=by
  have:=List.drop_eq_getElem_cons hp;rw[(List.getElem?_eq_some_iff.1 h).2]at this;rw[<-this,List.take_append_drop]
 grind[Sm,Er]
def GM(z:Bool)(v:Nat):List Tac->Nat->List Site
  | [],j=>bif z then [⟨j,true,false⟩]else []
  | t::l,j=>bif t.uses.contains (v:Int)||t.sets==(v:Int)then⟨j,t.uses.contains (v:Int),t.sets==(v:Int)⟩::GM z v l (j+1)else GM z v l (j+1)
theorem EC(z:Bool)(v:Nat)(t:Tac)(l:List Tac)(j:Nat):GM z v (t::l) j=bif t.uses.contains (v:Int)||t.sets==(v:Int)then⟨j,t.uses.contains (v:Int),t.sets==(v:Int)⟩::GM z v l (j+1)else GM z v l (j+1):=rfl
def A3(x:Block)(v:Nat):List Site:=GM (Df x v) v x.ins 0
def leftS(G:Nat->Bool)(n:Nat)(s:Site):Bool:=s.at_==n|| !G s.at_
def C9(G:Nat->Bool)(n:Nat):List Site->Bool->Bool
  | [],z=>z
  | s::l,z=>bif leftS G n s then s.r||(!s.s&&C9 G n l z)else C9 G n l z
def Dc(G:Nat->Bool)(n:Nat):List Site->Nat
  | []=>0
  | s::l=>bif leftS G n s then(bif s.r then 1 else 2)else Dc G n l
theorem II{G G':Nat->Bool}{n:Nat}{z:Bool}: ∀{l:List Site},(∀s∈l,leftS G n s=leftS G' n s)->C9 G n l z=C9 G' n l z
 | [],_=>rfl
 | s::l,h=>by
  rw[C9,C9,h s (List.mem_cons.2 (.inl rfl)),II fun s hs=>h s (List.mem_cons.2 (.inr hs))]
theorem HV{G:Nat->Bool}{n v:Nat}{e z:Bool}: ∀{l:List Tac} {j:Nat},j+l.length=n->C9 G n (GM e v l j) z=need v (Er G l j) (e||z)
 | [],j,h=>by
  grind[GM,C9,Er,need,leftS]
 | t::l,j,h=>by
  have ih:=HV (G:=G) (n:=n) (v:=v) (e:=e) (z:=z) (l:=l) (j:=j+1) (by simp at h;omega)
  grind[GM,Er,C9,need,leftS]
theorem UR{G:Nat->Bool}{n:Nat}{z:Bool}: ∀{l:List Site},Dc G n l=1->C9 G n l z=true
 | [],h=>by cases h
 | s::l,h=>by
  have ih:=UR (G:=G) (n:=n) (z:=z) (l:=l)
  grind[Dc,C9,leftS]
theorem OZ{G:Nat->Bool}{n:Nat}{z:Bool}: ∀{l:List Site},Dc G n l=0->C9 G n l z=z
 | [],h=>rfl
 | s::l,h=>by
  have ih:=OZ (G:=G) (n:=n) (z:=z) (l:=l)
  grind[Dc,C9,leftS]
theorem UQ{G:Nat->Bool}{n:Nat}{z:Bool}: ∀{l:List Site},(∀s∈l,(s.r||s.s)=true)->Dc G n l=2->C9 G n l z=false
 | [],_,h=>by cases h
 | s::l,hs,h=>by
  have ih:=UQ (G:=G) (n:=n) (z:=z) (l:=l) (fun s h=>hs s (List.mem_cons.2 (.inr h)))
  grind[Dc,C9,leftS]
theorem firstS_le{G:Nat->Bool}{n:Nat}: ∀{l:List Site},Dc G n l=0\/Dc G n l=1\/Dc G n l=2
 | []=>.inl rfl
 | s::l=>by
  have ih:=firstS_le (G:=G) (n:=n) (l:=l)
  grind[Dc,leftS]
theorem NH{z:Bool}{v:Nat}: ∀{l:List Tac} {j:Nat},∀s∈GM z v l j,(s.r||s.s)=true
 | [],j,s,h=>by
  grind[GM]
 | t::l,j,s,h=>by
  unfold GM at h
  cases e:t.uses.contains (v:Int)||t.sets==(v:Int)with
  | false=>rw[e]at h;exact NH s h
  | true=>
   rw[e]at h;rcases List.mem_cons.1 h with rfl | h
   . exact e
   . exact NH s h
theorem siF_get{z:Bool}{v:Nat}: ∀{l:List Tac} {j k:Nat} {s:Site},(GM z v l j)[k]?=some s->
 (s.at_=j+l.length/\s.r=true/\s.s=false/\z=true/\k+1=(GM z v l j).length)\/∃p t,s.at_=j+p/\l[p]?=some t/\s.r=t.uses.contains (v:Int)/\s.s=(t.sets==(v:Int))/\(GM z v l j).drop (k+1)=GM z v (l.drop (p+1)) (j+p+1)
 | [],j,k,s,h=>by
  grind[GM]
 | t::l,j,k,s,h=>by
  have key: ∀k',(GM z v l (j+1))[k']?=some s->(s.at_=j+(t::l).length/\s.r=true/\s.s=false/\z=true/\k'+1=(GM z v l (j+1)).length)\/∃p u,s.at_=j+p/\(t::l)[p]?=some u/\s.r=u.uses.contains (v:Int)/\s.s=(u.sets==(v:Int))/\(GM z v l (j+1)).drop (k'+1)=GM z v ((t::l).drop (p+1)) (j+p+1):=fun k' h'=>by
   rcases siF_get h' with⟨h1,h2,h3,h4,h5⟩ |⟨p,u,h1,h2,h3,h4,h5⟩
   . exact .inl ⟨by rw[h1,List.length_cons];omega,h2,h3,h4,h5⟩
   . refine .inr ⟨p+1,u,by omega,h2,h3,h4,?_⟩;rw[h5,List.drop_succ_cons];congr 1;omega
  rw[EC]at h |-
  cases e:t.uses.contains (v:Int)||t.sets==(v:Int)with
  | false=>rw[e]at h;simp only[cond_false]at h |-;exact key k h
  | true=>
   rw[e]at h;simp only[cond_true]at h |-
   cases k with
   | zero=>
    simp only[List.getElem?_cons_zero,Option.some.injEq]at h;subst h;exact .inr ⟨0,t,rfl,rfl,rfl,rfl,by simp⟩
   | succ k=>
    rw[List.getElem?_cons_succ]at h;rcases key k h with⟨h1,h2,h3,h4,h5⟩ | h1
    . exact .inl ⟨h1,h2,h3,h4,by rw[List.length_cons,h5]⟩
    . rw[List.drop_succ_cons];exact .inr h1
theorem bz{z:Bool}{v:Nat}: ∀{l:List Tac} {j p:Nat} {t:Tac},l[p]?=some t->t.sets=(v:Int)->∃k s,(GM z v l j)[k]?=some s/\s.at_=j+p/\s.s=true/\(GM z v l j).drop (k+1)=GM z v (l.drop (p+1)) (j+p+1)
 | [],j,p,t,h,_=>by simp at h
 | u::l,j,0,t,h,hs=>by
  simp only[List.getElem?_cons_zero,Option.some.injEq]at h;subst h;have e:(u.sets==(v:Int))=true:=by rw[hs];simp
  rw[EC,e,Bool.or_true,cond_true];exact⟨0,_,rfl,rfl,rfl,by simp⟩
 | u::l,j,p+1,t,h,hs=>by
  obtain⟨k,s,h1,h2,h3,h4⟩:=bz (z:=z) (l:=l) (j:=j+1) (p:=p) (by simpa using h) hs;have e2:GM z v ((u::l).drop (p+1+1)) (j+(p+1)+1)=GM z v (l.drop (p+1)) (j+1+p+1):=by
   grind
  rw[EC]
  cases e:u.uses.contains (v:Int)||u.sets==(v:Int)with
  | false=>rw[cond_false];exact⟨k,s,h1,by omega,h3,by rw[e2];exact h4⟩
  | true=>rw[cond_true];exact⟨k+1,s,h1,by omega,h3,by rw[e2,List.drop_succ_cons];exact h4⟩
theorem VU{z:Bool}{v:Nat}: ∀{l:List Tac} {j:Nat},∀s∈GM z v l j,j<=s.at_/\s.at_<=j+l.length
 | [],j,s,h=>by
  grind[GM]
 | t::l,j,s,h=>by
  unfold GM at h;have key:s∈GM z v l (j+1)->j<=s.at_/\s.at_<=j+(t::l).length:=fun h'=>by
   have:=VU s h';simp only[List.length_cons];omega
  grind
abbrev GG:=Nat->Nat->Bool
def Ct(f:BFunc)(G:GG):BFunc:={f with blocks:=f.blocks.zipIdx.map fun p=>p.1.mid (Er (G p.2) p.1.ins 0)}
theorem FD{f:BFunc}{G:GG}{b:Nat}{x:Block}(h:f.blocks[b]?=some x):(Ct f G).blocks[b]?=some (x.mid (Er (G b) x.ins 0)):=by
 simp[Ct,h]
theorem Nh{f:BFunc}{G:GG}{b:Nat}{y:Block}(h:(Ct f G).blocks[b]?=some y): ∃x,f.blocks[b]?=some x/\y=x.mid (Er (G b) x.ins 0):=by
 simp only[Ct,List.getElem?_map,List.getElem?_zipIdx,Option.map_map]at h
 grind
theorem cutF_len(f:BFunc)(G:GG):(Ct f G).blocks.length=f.blocks.length:=by simp[Ct]
theorem ZZ(f:BFunc):Ct f (fun _ _=>false)=f:=by
 have:(Ct f (fun _ _=>false)).blocks=f.blocks:=by
  refine List.ext_getElem? fun i=>?_
  cases e:f.blocks[i]? with
  | none=>
   rw[List.getElem?_eq_none_iff]at e |-;rw[cutF_len];exact e
  | some x=>rw[FD e,Um];rfl
 cases f
 grind[Ct]
def DP(G:GG)(b p:Nat):GG:=fun c q=>G c q||(c==b&&q==p)
theorem Js(G:GG)(b p:Nat):DP G b p b p=true:=by simp[DP]
theorem F1{G:GG}{b p c q:Nat}(h: ¬(c=b/\q=p)):DP G b p c q=G c q:=by
 unfold DP
 grind
theorem eD{f:BFunc}{G:GG}{b p:Nat}{x:Block}{t:Tac}(hx:f.blocks[b]?=some x)(ht:x.ins[p]?=some t)(hG:G b p=false):
 Ct f (DP G b p)=(Ct f G).putB b (x.mid (Er (G b) (x.ins.take p) 0++Er (G b) (x.ins.drop (p+1)) (p+1))):=by
 have e:(Ct f (DP G b p)).blocks=(Ct f G).blocks.set b (x.mid (Er (G b) (x.ins.take p) 0++Er (G b) (x.ins.drop (p+1)) (p+1))):=by
  refine List.ext_getElem? fun c=>?_
  rw[List.getElem?_set]
  by_cases hc:b=c
  . subst hc;have hlt:b<(Ct f G).blocks.length:=by rw[cutF_len];exact(List.getElem?_eq_some_iff.1 hx).1
    rw[if_pos rfl,if_pos hlt,FD hx,QO ht,Js,cond_true];have hlp:(x.ins.take p).length<=p:=by rw[List.length_take];exact Nat.min_le_left _ _
    rw[JD (G:=DP G b p b) (G':=G b) (x.ins.take p) 0 fun i _ hi=>F1 (by omega),JD (G:=DP G b p b) (G':=G b) (x.ins.drop (p+1)) (p+1) fun i hi _=>F1 (by omega)]
  . rw[if_neg hc]
    cases e:f.blocks[c]? with
    | none=>
     have h1:(Ct f (DP G b p)).blocks[c]?=none:=by rw[List.getElem?_eq_none_iff]at e |-;rw[cutF_len];exact e
     have h2:(Ct f G).blocks[c]?=none:=by rw[List.getElem?_eq_none_iff]at e |-;rw[cutF_len];exact e
     rw[h1,h2]
    | some y=>
     rw[FD e,FD e,JD (G:=DP G b p c) (G':=G c) y.ins 0 fun i _ _=>F1 (by omega)]
 have: ∀(g h:BFunc),g.blocks=h.blocks->g.regs=h.regs->g=h:=fun g h h1 h2=>by cases g;cases h;simp only at h1 h2;rw[h1,h2]
 exact this _ _ e rfl
theorem eF{f:BFunc}{G:GG}{b p v:Nat}{x:Block}{t:Tac}(hx:f.blocks[b]?=some x)(ht:x.ins[p]?=some t)(hG:G b p=false)(hp:t.pure=true)(hv:t.sets=(v:Int))
 (hd:need v (Er (G b) (x.ins.drop (p+1)) (p+1)) (endB (Ct f G) x v)=false):
 EZ (Ct f G) (Ct f (DP G b p)) b (x.mid (Er (G b) x.ins 0)) (Er (G b) (x.ins.take p) 0) t (Er (G b) (x.ins.drop (p+1)) (p+1)) v where
 hx:=FD hx
 hi:=by show Er (G b) x.ins 0=_;rw[QO ht,hG];rfl
 pure:=hp
 hv:=hv
 dead:=hd
 hg:=eD hx ht hG
def Mi(g:BFunc)(w:Nat):Prop:=∀h c x l1 t l2,¬EZ g h c x l1 t l2 w
theorem lE{f g:BFunc}{c:Nat}{x:Block}{l1 l2:List Tac}{t:Tac}{v:Nat}(h:EZ f g c x l1 t l2 v){w:Nat}(hw:t.uses.contains (w:Int)=false)(hvw:v≠w)(hn:Mi f w):Mi g w:=by
 intro k d y m1 u m2 h2;have hg:=h.hg
 by_cases hcd:c=d
 . subst hcd;have hy:=h2.hx;rw[hg,D9 h.hx]at hy
   cases hy
   have he:l1++l2=m1++u::m2:=h2.hi
   -- where the two lie
   rcases List.append_eq_append_iff.1 he with⟨a,ha1,ha2⟩ |⟨a,ha1,ha2⟩
   . -- u lies behind t
     subst ha1;refine hn _ c x (l1++t::a) u m2 {hx:=h.hx,hi:=by rw[h.hi,ha2];simp,pure:=h2.pure,hv:=h2.hv,dead:=?_,hg:=rfl};exact false_of (By (Nf h ⟨rfl,rfl,rfl⟩ hw)) h2.dead
   . cases a with
     | nil=>
      simp only[List.append_nil,List.nil_append]at ha1 ha2;subst ha1;refine hn _ c x (l1++[t]) u m2 {hx:=h.hx,hi:=by rw[h.hi,<-ha2];simp,pure:=h2.pure,hv:=h2.hv,dead:=?_,hg:=rfl};exact false_of (By (Nf h ⟨rfl,rfl,rfl⟩ hw)) h2.dead
     | cons q a=>
      simp only[List.cons_append,List.cons.injEq]at ha2;obtain⟨e1,e2⟩:=ha2;subst e1;subst ha1;refine hn _ c x m1 u (a++t::l2) {hx:=h.hx,hi:=by rw[h.hi];simp,pure:=h2.pure,hv:=h2.hv,dead:=?_,hg:=rfl};refine false_of (fun e=>?_) h2.dead;rw[e2];exact By (Nf h ⟨rfl,rfl,rfl⟩ hw) (LS hw e)
 . have hy:=h2.hx;rw[hg,GV hcd]at hy;exact hn _ d y m1 u m2 {hx:=hy,hi:=h2.hi,pure:=h2.pure,hv:=h2.hv,dead:=false_of (By (Nf h ⟨rfl,rfl,rfl⟩ hw)) h2.dead,hg:=rfl}
theorem Xm(z:Bool)(v:Nat): ∀(l:List Tac) (j:Nat),(GM z v l j).length<=l.length+1
 | [],j=>by cases z<;>simp[GM]
 | t::l,j=>by
  have ih:=Xm z v l (j+1)
  grind[EC,GM]
def firstG(f:BFunc)(G:GG)(v b:Nat):Nat:=((f.blocks[b]?).map fun x=>Dc (G b) x.ins.length (A3 x v)).getD 0
theorem Ge{f:BFunc}{G:GG}{v b:Nat}{x:Block}(h:f.blocks[b]?=some x):firstG f G v b=Dc (G b) x.ins.length (A3 x v):=by unfold firstG;rw[h];rfl
theorem L2{f:BFunc}{G:GG}{v b:Nat}{x:Block}(hx:f.blocks[b]?=some x)(z:Bool):need v (Er (G b) x.ins 0) (Df x v||z)=C9 (G b) x.ins.length (A3 x v) z:=(HV (by simp)).symm
theorem aw{f:BFunc}{a c:Nat}(h:a∈Aw f c): ∃x,f.blocks[a]?=some x/\(c:Int)∈x.nexts:=by
 grind[Aw,PO]
def Mb(n:Nat)(w:Nat->Bool):Nat:=((List.range n).map fun b=>if w b then 0 else 1).sum
theorem Lc{w:Nat->Bool}{b:Nat}(h:w b=false): ∀{n:Nat},b<n->Mb n (Cx w b true)+1=Mb n w
 | 0,hb=>by omega
 | n+1,hb=>by
  unfold Mb;rw[List.range_succ,List.map_append,List.map_append,List.sum_append,List.sum_append];simp only[List.map_cons,List.map_nil,List.sum_cons,List.sum_nil,Nat.add_zero]
  by_cases hn:b=n
  . subst hn;rw[C4,h];have:((List.range b).map fun c=>if Cx w b true c then 0 else 1)=(List.range b).map fun c=>if w c then 0 else 1:=List.map_congr_left fun c hc=>by
     rw[CN _ (fun e=>by subst e;exact Nat.lt_irrefl _ (List.mem_range.1 hc))]
    rw[this];simp
  . rw[CN _ (fun e=>hn e.symm)];have ih:=Lc h (n:=n) (by omega);unfold Mb at ih;omega
structure BfI(f:BFunc)(G:GG)(v:Nat)(inn:Nat->Bool)(todo:List Nat)(b0:Nat)(rest:List Nat):Prop where
  sound: ∀b,inn b=true->b<f.blocks.length/\Dq (Ct f G) v b
  src: ∀b,b<f.blocks.length->firstG f G v b=1->inn b=true
  cl: ∀c,inn c=true->c∉todo->∀a y,f.blocks[a]?=some y->(c:Int)∈y.nexts->firstG f G v a=0->inn a=true\/(c=b0/\a∈rest)
  tod: ∀c∈todo,inn c=true
  cnt:todo.length+Mb f.blocks.length inn<=f.blocks.length
theorem BfI.pop{f:BFunc}{G:GG}{v:Nat}{inn:Nat->Bool}{todo:List Nat}{b b1:Nat}(h:BfI f G v inn (todo++[b]) b1 []):BfI f G v inn todo b (Aw f b):=
 ⟨h.sound,h.src,fun c hc hn a y hy hm ha=>by
  by_cases hcb:c=b
  . subst hcb;exact .inr ⟨rfl,Pr hy (List.contains_iff_mem.2 hm)⟩
  . exact(h.cl c hc (fun e=>by
     rcases List.mem_append.1 e with e | e
     . exact hn e
     . exact hcb (List.mem_singleton.1 e)) a y hy hm ha).elim .inl (fun e=>by cases e.2),fun c hc=>h.tod c (List.mem_append.2 (.inl hc)),by have:=h.cnt;simp at this;omega⟩
theorem BfI.skip{f:BFunc}{G:GG}{v:Nat}{inn:Nat->Bool}{todo:List Nat}{b a:Nat}{rest:List Nat}(h:BfI f G v inn todo b (a::rest))(hs: ¬(firstG f G v a=0/\inn a=false)):BfI f G v inn todo b rest:=
 ⟨h.sound,h.src,fun c hc hn a' y hy hm ha=>(h.cl c hc hn a' y hy hm ha).elim .inl fun⟨e1,e2⟩=>by
  rcases List.mem_cons.1 e2 with rfl | e2
  . grind
  . exact .inr ⟨e1,e2⟩,h.tod,h.cnt⟩
theorem BfI.push{f:BFunc}{G:GG}{v:Nat}{inn:Nat->Bool}{todo:List Nat}{b a:Nat}{rest:List Nat}(h:BfI f G v inn todo b (a::rest))(hb:inn b=true)(hab:a∈Aw f b)(h0:firstG f G v a=0)(hi:inn a=false):
 BfI f G v (Cx inn a true) (todo++[a]) b rest:=by
 obtain⟨x,hx,hm⟩:=aw hab;have hlt:=(List.getElem?_eq_some_iff.1 hx).1;refine⟨fun c hc=>?_,fun c hc h1=>?_,fun c hc hn a' y hy hm' ha=>?_,fun c hc=>?_,?_⟩
 . by_cases hca:c=a
   . subst hca;refine⟨hlt,.thru (d:=(b:Int)) (FD hx) ?_ hm (by rw[Int.toNat_natCast];exact(h.sound b hb).2)⟩;show need v (Er (G c) x.ins 0) true=true;have:=L2 (G:=G) (v:=v) hx true;rw[Bool.or_true]at this;rw[this,OZ (by rw[<-Ge hx];exact h0)]
   . rw[CN _ hca]at hc;exact h.sound c hc
 . by_cases hca:c=a
   . grind
   . rw[CN _ hca];exact h.src c hc h1
 . have hcn:c∉todo:=fun e=>hn (List.mem_append.2 (.inl e))
   have hca:c≠a:=fun e=>hn (List.mem_append.2 (.inr (List.mem_singleton.2 e)))
   rw[CN _ hca]at hc;rcases h.cl c hc hcn a' y hy hm' ha with h1 |⟨e1,e2⟩
   . left
     by_cases e:a'=a
     . subst e;rw[C4]
     . rw[CN _ e];exact h1
   . rcases List.mem_cons.1 e2 with rfl | e2
     . left;rw[C4]
     . exact .inr ⟨e1,e2⟩
 . by_cases hca:c=a
   . subst hca;rw[C4]
   . rw[CN _ hca];rcases List.mem_append.1 hc with hc | hc
     . exact h.tod c hc
     . exact absurd (List.mem_singleton.1 hc) hca
 . have:=h.cnt;have e:=Lc hi hlt
   grind
theorem BfI.any{f:BFunc}{G:GG}{v:Nat}{inn:Nat->Bool}{todo:List Nat}{b b':Nat}(h:BfI f G v inn todo b []):BfI f G v inn todo b' []:=
 ⟨h.sound,h.src,fun c hc hn a y hy hm ha=>(h.cl c hc hn a y hy hm ha).elim .inl (fun e=>(by cases e.2)),h.tod,h.cnt⟩
theorem BfI.done{f:BFunc}(hs:f.sane){G:GG}{v:Nat}{inn:Nat->Bool}{b0:Nat}(h:BfI f G v inn [] b0 []){b:Nat}(hb:b<f.blocks.length):inn b=UC (Ct f G) v b:=by
 rw[Bool.eq_iff_iff,inB_iff];refine⟨fun e=>(h.sound b e).2,fun hl=>?_⟩;refine OD (I:=inn) (fun c y hy hn=>?_) hl;obtain⟨x,hx,rfl⟩:=Nh hy;have hlt:=(List.getElem?_eq_some_iff.1 hx).1;have hn':need v (Er (G c) x.ins 0) (Df x v||x.nexts.any fun d=>inn d.toNat)=true:=hn;rw[L2 hx]at hn';rcases firstS_le (G:=G c) (n:=x.ins.length) (l:=A3 x v)with h0 | h1 | h2
 . rw[OZ h0]at hn';obtain⟨d,hd,hid⟩:=List.any_eq_true.1 hn';have h0':=(hs.next x (List.mem_of_getElem? hx) d hd).1;refine(h.cl d.toNat hid (by simp) c x hx (by rw[Int.toNat_of_nonneg h0'];exact hd) (by rw[Ge hx];exact h0)).elim id fun e=>by cases e.2
 . exact h.src c hlt (by rw[Ge hx];exact h1)
 . have e:=UQ (z:=x.nexts.any fun d=>inn d.toNat) (fun s hs=>NH s hs) h2;exact absurd (hn'.symm.trans e) (by simp)
def HH(inn:Nat->Bool)(x:Block):Bool:=x.nexts.any fun d=>inn d.toNat
structure RSd where
  G:GG
  w:Nat->Bool
  ws:List Nat
  es:List (List AV)
def Gq(st:RSd)(u:Nat):RSd:=⟨st.G,JQ st.w u,Hj st.w st.ws u,C3 st.w st.es st.ws.length u⟩
def BW(b p:Nat)(us:List Int)(st:RSd):RSd:=us.foldl (fun st u=>Gq st u.toNat) ⟨DP st.G b p,st.w,st.ws,st.es⟩
def JS(x:Block)(b:Nat)(st:RSd×Bool)(s:Site):RSd×Bool:=
  bif leftS (st.1.G b) x.ins.length s then
    (match x.ins[s.at_]? with
    | some t=>bif s.s&&(!st.2&&t.pure)then(BW b s.at_ t.uses st.1,st.2)else(st.1,s.r||(!s.s&&st.2))
    | none=>(st.1,s.r||(!s.s&&st.2)))
  else st
def ST(inn:Nat->Bool)(v:Nat)(x:Block)(b:Nat)(st:RSd):RSd:=((A3 x v).reverse.foldl (JS x b) (st,HH inn x)).1
structure QId(R:Nat)(st:RSd):Prop where
  wt:WaitI R st.w st.ws
  st:StackI R st.es st.ws
theorem QId.push{R:Nat}{st:RSd}(h:QId R st){u:Nat}(hu:u<R):QId R (Gq st u):=⟨h.wt.wait hu,h.st.wait h.wt hu⟩
theorem QId.leave{R:Nat}{b p:Nat}: ∀{us:List Int} {st:RSd},QId R st->(∀u∈us,0<=u/\u<R)->QId R (us.foldl (fun st u=>Gq st u.toNat) st)
 | [],st,h,_=>h
 | u::us,st,h,hu=>by
  rw[List.foldl_cons];refine QId.leave (b:=b) (p:=p) (h.push ?_) fun u' h'=>hu u' (List.mem_cons.2 (.inr h'))
  (simp_all;done)
theorem TW: ∀(us:List Int) (st:RSd) (w:Nat),(us.foldl (fun st u=>Gq st u.toNat) st).w w=(st.w w||us.any fun u=>u.toNat==w)
 | [],st,w=>by simp
 | u::us,st,w=>by
  rw[List.foldl_cons,TW us];show(Cx st.w u.toNat true w||_)=_
  grind[C4,CN,Gq]
theorem TX: ∀(us:List Int) (st:RSd),(us.foldl (fun st u=>Gq st u.toNat) st).G=st.G
 | [],st=>rfl
 | u::us,st=>by rw[List.foldl_cons,TX us];rfl
theorem M4(b p:Nat)(us:List Int)(st:RSd):(BW b p us st).G=DP st.G b p:=TX _ _
structure RgI(f:BFunc)(R v:Nat)(inn:Nat->Bool)(m0:Nat)(st:RSd)(lo:Nat->Nat):Prop where
  c:Cuts f (Ct f st.G)
  le: ∀b,Dq (Ct f st.G) v b->inn b=true
  ex:st.w v=false->∀b,b<f.blocks.length->inn b=true->Dq (Ct f st.G) v b
  oth: ∀u,u≠v->st.w u=false->Mi (Ct f st.G) u
  q:QId R st
  ms:dy (Ct f st.G)*(R+1)+st.ws.length<=m0
  proc: ∀b x k s t,f.blocks[b]?=some x->lo b<=k->(A3 x v)[k]?=some s->s.s=true->leftS (st.G b) x.ins.length s=true->x.ins[s.at_]?=some t->t.pure=true->C9 (st.G b) x.ins.length ((A3 x v).drop (k+1)) (HH inn x)=true
theorem ar{f:BFunc}(hs:f.sane){G:GG}{v:Nat}{inn:Nat->Bool}{x:Block}(hx:x∈f.blocks)(h: ∀b,Dq (Ct f G) v b->inn b=true):outB (Ct f G) x v=true->HH inn x=true:=fun e=>by
 obtain⟨d,h1,h2⟩:=outB_iff.1 e;exact List.any_eq_true.2 ⟨d,h1,h _ h2⟩
theorem qg(lo:Nat->Nat)(b k:Nat): ∃lo':Nat->Nat,lo' b=k/\∀c,c≠b->lo' c=lo c:=⟨fun c=>if c=b then k else lo c,by simp,fun c hc=>by simp[hc]⟩
theorem RU{z:Bool}{v:Nat}{l:List Tac}{k k':Nat}{s s':Site}(h:(GM z v l 0)[k]?=some s)(h':(GM z v l 0)[k']?=some s')(hlt:k<k'):s.at_<s'.at_:=by
 rcases siF_get h with⟨h1,h2,h3,h4,h5⟩ |⟨p,t,h1,h2,h3,h4,h5⟩
 . grind
 . have e:((GM z v l 0).drop (k+1))[k'-(k+1)]?=some s':=by
    rw[List.getElem?_drop,show k+1+(k'-(k+1))=k' by omega];exact h'
   rw[h5]at e;have:=(VU s' (List.mem_of_getElem? e)).1;omega
theorem RgI.leave{f:BFunc}(hs:f.sane){R v:Nat}{inn:Nat->Bool}{m0:Nat}{st:RSd}{lo lo':Nat->Nat}(h:RgI f R v inn m0 st lo){b k:Nat}{x:Block}{s:Site}{t:Tac}(hx:f.blocks[b]?=some x)(hlo:lo b=k+1)(hk:(A3 x v)[k]?=some s)
 (hss:s.s=true) (hl:leftS (st.G b) x.ins.length s=true) (ht:x.ins[s.at_]?=some t) (hp:t.pure=true) (hb:C9 (st.G b) x.ins.length ((A3 x v).drop (k+1)) (HH inn x)=false) (hR: ∀u∈t.uses,0<=u/\u<R)
 (h1:lo' b=k) (h2: ∀c,c≠b->lo' c=lo c):RgI f R v inn m0 (BW b s.at_ t.uses st) lo':=by
 have hxm:=List.mem_of_getElem? hx;obtain⟨p,t',hat,ht',hr,hsv,hdr⟩: ∃p t',s.at_=0+p/\x.ins[p]?=some t'/\s.r=t'.uses.contains (v:Int)/\s.s=(t'.sets==(v:Int))/\(A3 x v).drop (k+1)=GM (Df x v) v (x.ins.drop (p+1)) (0+p+1):=by
  rcases siF_get hk with⟨_,_,e,_,_⟩ | e
  . grind
  . exact e
 rw[Nat.zero_add]at hat hdr;subst hat;rw[ht]at ht';cases ht';have hplt:=(List.getElem?_eq_some_iff.1 ht).1;have hGp:st.G b s.at_=false:=by
  unfold leftS at hl;have:(s.at_==x.ins.length)=false:=by rw[beq_eq_false_iff_ne];omega
  rw[this,Bool.false_or]at hl;simpa using hl
 have hsets:t.sets=(v:Int):=by rw[hss]at hsv;simpa using hsv.symm
 have hnd:need v (Er (st.G b) (x.ins.drop (s.at_+1)) (s.at_+1)) (endB (Ct f st.G) x v)=false:=by
  have e:=HV (G:=st.G b) (n:=x.ins.length) (v:=v) (e:=Df x v) (z:=HH inn x) (l:=x.ins.drop (s.at_+1)) (j:=s.at_+1) (by rw[List.length_drop];omega);rw[<-hdr,hb]at e;refine false_of (By fun e2=>?_) e.symm;unfold endB at e2;rcases Bool.or_eq_true_iff.1 e2 with e2 | e2
  . rw[e2];rfl
  . rw[ar hs hxm h.le e2,Bool.or_true]
 have hcut:=eF hx ht hGp hp hsets hnd;have hG:(BW b s.at_ t.uses st).G=DP st.G b s.at_:=M4 _ _ _ _;have hw: ∀u,(BW b s.at_ t.uses st).w u=(st.w u||t.uses.any fun a=>a.toNat==u):=fun u=>TW _ _ _
 have hnou: ∀u,(BW b s.at_ t.uses st).w u=false->st.w u=false/\t.uses.contains (u:Int)=false:=fun u hu=>by
  rw[hw,Bool.or_eq_false_iff]at hu;refine⟨hu.1,?_⟩
  cases e:t.uses.contains (u:Int)with
  | false=>rfl
  | true=>
   have:(t.uses.any fun a=>a.toNat==u)=true:=List.any_eq_true.2 ⟨(u:Int),List.contains_iff_mem.1 e,by simp⟩;rw[this]at hu;cases hu.2
 have hq:QId R (BW b s.at_ t.uses st):=QId.leave (b:=b) (p:=s.at_) (st:=⟨DP st.G b s.at_,st.w,st.ws,st.es⟩) ⟨h.q.wt,h.q.st⟩ hR;have hsz:=G2 ⟨_,_,_,_,_,_,hcut⟩;refine⟨?_,?_,?_,?_,hq,?_,?_⟩
 . rw[hG];exact h.c.trans (.one ⟨_,_,_,_,_,_,hcut⟩)
 . rw[hG];exact fun c hc=>h.le c (QJ hcut hc)
 . rw[hG];intro hv c hc hi;have:=hnou v hv;exact XI hcut this.2 (h.ex this.1 c hc hi)
 . rw[hG];intro u huv hu;have:=hnou u hu;exact lE hcut this.2 (fun e=>huv e.symm) (h.oth u huv this.1)
 . rw[hG];have hms:=h.ms;have hle:=hq.wt.le;have:dy (Ct f st.G)*(R+1)=dy (Ct f (DP st.G b s.at_))*(R+1)+(R+1):=by rw[<-hsz,Nat.succ_mul]
   omega
 . rw[hG];intro c y k' s' t' hy hk' hs' hss' hl' ht' hp'
   by_cases hcb:c=b
   . subst hcb;rw[hx]at hy;cases hy;rw[h1]at hk'
     by_cases hkk:k'=k
     . subst hkk;rw[hk]at hs';cases hs';have:leftS (DP st.G c s.at_ c) x.ins.length s=false:=by
        unfold leftS;rw[Js];have:(s.at_==x.ins.length)=false:=by rw[beq_eq_false_iff_ne];omega
        rw[this];rfl
       rw[this]at hl';cases hl'
     . have hlt:k<k':=by omega
       have hne:=RU hk hs' hlt;have e1:leftS (DP st.G c s.at_ c) x.ins.length s'=leftS (st.G c) x.ins.length s':=by
        unfold leftS;rw[F1 (by omega)]
       rw[e1]at hl';have:=h.proc c x k' s' t' hx (by omega) hs' hss' hl' ht' hp';rw[<-this];refine II fun q hq=>?_
       obtain⟨i,hi⟩:=List.mem_iff_getElem?.1 hq;rw[List.getElem?_drop]at hi;have hne2:=RU hk hi (by omega);unfold leftS;rw[F1 (by omega)]
   . rw[h2 c hcb]at hk';have hGc:DP st.G b s.at_ c=st.G c:=funext fun q=>F1 (fun e=>hcb e.1)
     rw[hGc]at hl' |-;exact h.proc c y k' s' t' hy hk' hs' hss' hl' ht' hp'
theorem RgI.keep{f:BFunc}{R v:Nat}{inn:Nat->Bool}{m0:Nat}{st:RSd}{lo lo':Nat->Nat}(h:RgI f R v inn m0 st lo){b k:Nat}{x:Block}{s:Site}(hx:f.blocks[b]?=some x)(hlo:lo b=k+1)(hk:(A3 x v)[k]?=some s)
 (hb:s.s=true->leftS (st.G b) x.ins.length s=true->∀t,x.ins[s.at_]?=some t->t.pure=true->C9 (st.G b) x.ins.length ((A3 x v).drop (k+1)) (HH inn x)=true)
 (h1:lo' b=k) (h2: ∀c,c≠b->lo' c=lo c):RgI f R v inn m0 st lo':=
 ⟨h.c,h.le,h.ex,h.oth,h.q,h.ms,fun c y k' s' t' hy hk' hs' hss' hl' ht' hp'=>by
  by_cases hcb:c=b
  . subst hcb;rw[hx]at hy;cases hy;rw[h1]at hk'
    by_cases hkk:k'=k
    . subst hkk;rw[hk]at hs';cases hs';exact hb hss' hl' t' ht' hp'
    . exact h.proc c x k' s' t' hx (by omega) hs' hss' hl' ht' hp'
  . rw[h2 c hcb]at hk';exact h.proc c y k' s' t' hy hk' hs' hss' hl' ht' hp'⟩
def CJ(inn:Nat->Bool)(v:Nat)(x:Block)(b:Nat)(st:RSd)(m:Nat):RSd×Bool:=((A3 x v).reverse.take m).foldl (JS x b) (st,HH inn x)
theorem Fv{inn:Nat->Bool}{v:Nat}{x:Block}{b:Nat}{st:RSd}{m k:Nat}{s:Site}(hk:(A3 x v)[k]?=some s)(hm:m+k+1=(A3 x v).length):CJ inn v x b st (m+1)=JS x b (CJ inn v x b st m) s:=by
 unfold CJ;have e:(A3 x v).reverse[m]?=some s:=by
  grind
 rw[List.take_add_one,e,List.foldl_append];rfl
theorem NE{inn:Nat->Bool}{v:Nat}{x:Block}{b:Nat}{st:RSd}{m:Nat}(h:(A3 x v).length<=m):(CJ inn v x b st m).1=ST inn v x b st:=by
 unfold CJ ST;rw[List.take_of_length_le (by simpa using h)]
theorem RgI.sites{f:BFunc}(hs:f.sane){R v:Nat}(hRf:f.regs=(R:Int)){inn:Nat->Bool}{m0:Nat}{st:RSd}{lo:Nat->Nat}{b:Nat}{x:Block}(hx:f.blocks[b]?=some x)(h:RgI f R v inn m0 st lo)(hlo:lo b=(A3 x v).length):
 ∀m,m<=(A3 x v).length->∃lo',RgI f R v inn m0 (CJ inn v x b st m).1 lo'/\lo' b=(A3 x v).length-m/\(∀c,c≠b->lo' c=lo c)/\(CJ inn v x b st m).2=C9 ((CJ inn v x b st m).1.G b) x.ins.length ((A3 x v).drop ((A3 x v).length-m)) (HH inn x)
 | 0,_=>⟨lo,h,by simpa using hlo,fun _ _=>rfl,by
  show HH inn x=C9 _ _ ((A3 x v).drop _) _;rw[Nat.sub_zero,List.drop_length];rfl⟩
 | m+1,hm=>by
  obtain⟨lo1,h1,h2,h3,h4⟩:=RgI.sites hs hRf hx h hlo m (by omega);obtain⟨k,hk⟩: ∃k,m+k+1=(A3 x v).length:=⟨(A3 x v).length-m-1,by omega⟩
  obtain⟨s,hsk⟩:=Ae (l:=A3 x v) (k:=k) (by omega);rw[show(A3 x v).length-(m+1)=k by omega];rw[show(A3 x v).length-m=k+1 by omega]at h2 h4;obtain⟨lo2,l1,l2⟩:=qg lo1 b k;have hdk:(A3 x v).drop k=s::(A3 x v).drop (k+1):=by
   rw[List.drop_eq_getElem_cons (List.getElem?_eq_some_iff.1 hsk).1,(List.getElem?_eq_some_iff.1 hsk).2]
  rw[Fv hsk hk];generalize CJ inn v x b st m=S at h1 h4 |-;unfold JS
  cases hl:leftS (S.1.G b) x.ins.length s with
  | false=>
   rw[cond_false];refine⟨lo2,h1.keep hx h2 hsk (fun _ e=>by rw[hl]at e;cases e) l1 l2,l1,fun c hc=>(l2 c hc).trans (h3 c hc),?_⟩;rw[hdk,C9,hl,cond_false];exact h4
  | true=>
   rw[cond_true];have keep: ∀(hb:s.s=true->∀t,x.ins[s.at_]?=some t->t.pure=true->S.2=true),∃lo',RgI f R v inn m0 ((S.1,s.r||(!s.s&&S.2)):RSd×Bool).1 lo'/\lo' b=k/\(∀c,c≠b->lo' c=lo c)/\((S.1,s.r||(!s.s&&S.2)):RSd×Bool).2=C9 (((S.1,s.r||(!s.s&&S.2)):RSd×Bool).1.G b) x.ins.length ((A3 x v).drop k) (HH inn x):=fun hb=>by
    refine⟨lo2,h1.keep hx h2 hsk (fun e1 _ t e2 e3=>by rw[<-h4];exact hb e1 t e2 e3) l1 l2,l1,fun c hc=>(l2 c hc).trans (h3 c hc),?_⟩;rw[hdk,C9,hl,cond_true];show(s.r||(!s.s&&S.2))=_;rw[h4]
   cases ht:x.ins[s.at_]? with
   | none=>exact keep (fun _ t e=>by rw[ht]at e;cases e)
   | some t=>
    cases hc:s.s&&(!S.2&&t.pure)with
    | false=>
     rw[show(match some t with | some t=>bif s.s&&(!S.2&&t.pure)then(BW b s.at_ t.uses S.1,S.2)else(S.1,s.r||(!s.s&&S.2)) | none=>(S.1,s.r||(!s.s&&S.2)))=(S.1,s.r||(!s.s&&S.2)) by simp only[hc,cond_false]];refine keep (fun e1 t' e2 e3=>?_);rw[ht]at e2;cases e2;rw[e1,e3]at hc;simpa using hc
    | true=>
     rw[show(match some t with | some t=>bif s.s&&(!S.2&&t.pure)then(BW b s.at_ t.uses S.1,S.2)else(S.1,s.r||(!s.s&&S.2)) | none=>(S.1,s.r||(!s.s&&S.2)))=(BW b s.at_ t.uses S.1,S.2) by simp only[hc,cond_true]];simp only[Bool.and_eq_true,Bool.not_eq_true']at hc;have hxm:=List.mem_of_getElem? hx;have hlow:=hs.low x hxm t (List.mem_of_getElem? ht);have hplt:=(List.getElem?_eq_some_iff.1 ht).1;refine⟨lo2,h1.leave hs hx h2 hsk hc.1 hl ht hc.2.2 (by rw[<-h4];exact hc.2.1) (fun u hu=>by have:=hlow.2 u hu;rw[hRf]at this;exact this) l1 l2,l1,fun c hcc=>(l2 c hcc).trans (h3 c hcc),?_⟩;rw[hdk,C9];have hg:leftS ((BW b s.at_ t.uses S.1).G b) x.ins.length s=false:=by
      unfold leftS;rw[M4,Js];have:(s.at_==x.ins.length)=false:=by rw[beq_eq_false_iff_ne];omega
      rw[this];rfl
     show S.2=bif leftS ((BW b s.at_ t.uses S.1).G b) x.ins.length s then _ else C9 ((BW b s.at_ t.uses S.1).G b) _ _ _;rw[hg,cond_false,h4];refine II fun q hq=>?_
     obtain⟨i,hi⟩:=List.mem_iff_getElem?.1 hq;rw[List.getElem?_drop]at hi;have hne2:=RU hsk hi (by omega);unfold leftS;rw[M4,F1 (by omega)]
def Hp(f:BFunc)(v i:Nat):List Site:=((f.blocks[i]?).map fun x=>A3 x v).getD []
theorem DJ{f:BFunc}{v i:Nat}{x:Block}(h:f.blocks[i]?=some x):Hp f v i=A3 x v:=by unfold Hp;rw[h];rfl
def FE(f:BFunc)(v:Nat):List Nat:=(List.range f.blocks.length).filter fun i=> !(Hp f v i).isEmpty
def SU(f:BFunc)(inn:Nat->Bool)(v:Nat)(st:RSd)(b:Nat):RSd:=((f.blocks[b]?).map fun x=>ST inn v x b st).getD st
theorem Ro{f:BFunc}{inn:Nat->Bool}{v:Nat}{st:RSd}{b:Nat}{x:Block}(h:f.blocks[b]?=some x):SU f inn v st b=ST inn v x b st:=by unfold SU;rw[h];rfl
def Kd(f:BFunc)(inn:Nat->Bool)(v:Nat)(st:RSd)(k:Nat):RSd:=((FE f v).take k).foldl (SU f inn v) st
noncomputable def HO(f:BFunc)(v:Nat)(st:RSd):RSd:=Kd f (UC (Ct f st.G) v) v st (FE f v).length
theorem P5{f:BFunc}{inn:Nat->Bool}{v:Nat}{st:RSd}{k b:Nat}(h:(FE f v)[k]?=some b):Kd f inn v st (k+1)=SU f inn v (Kd f inn v st k) b:=by
 unfold Kd;rw[List.take_add_one,h,List.foldl_append];rfl
theorem dO{f:BFunc}{v b:Nat}(h:b∈FE f v):b<f.blocks.length:=List.mem_range.1 (List.mem_filter.1 h).1
theorem Q3(f:BFunc)(v:Nat):(FE f v).Nodup:=List.Pairwise.filter _ List.nodup_range
theorem M7{G:Nat->Bool}{t:Tac}{l2:List Tac}: ∀{l l1:List Tac} {j:Nat},Er G l j=l1++t::l2->∃p,l[p]?=some t/\G (j+p)=false/\l2=Er G (l.drop (p+1)) (j+p+1)
 | [],l1,j,h=>by simp[Er]at h
 | u::l,l1,j,h=>by
  rw[Er]at h
  cases hG:G j with
  | true=>
   rw[hG,cond_true]at h;obtain⟨p,h1,h2,h3⟩:=M7 h;exact⟨p+1,h1,by rw[show j+(p+1)=j+1+p by omega];exact h2,by rw[List.drop_succ_cons,show j+(p+1)+1=j+1+p+1 by omega];exact h3⟩
  | false=>
   rw[hG,cond_false]at h
   cases l1 with
   | nil=>
    simp only[List.nil_append,List.cons.injEq]at h;obtain⟨rfl,rfl⟩:=h;exact⟨0,rfl,hG,rfl⟩
   | cons a l1=>
    simp only[List.cons_append,List.cons.injEq]at h;obtain⟨p,h1,h2,h3⟩:=M7 h.2;exact⟨p+1,h1,by rw[show j+(p+1)=j+1+p by omega];exact h2,by rw[List.drop_succ_cons,show j+(p+1)+1=j+1+p+1 by omega];exact h3⟩
theorem RgI.done{f:BFunc}(hs:f.sane){R v:Nat}{inn:Nat->Bool}{m0:Nat}{st:RSd}{lo:Nat->Nat}(h:RgI f R v inn m0 st lo)(hlo: ∀b x,f.blocks[b]?=some x->lo b=0\/A3 x v=[])(hv:st.w v=false):Mi (Ct f st.G) v:=by
 intro g c y l1 t l2 hc;obtain⟨x,hx,rfl⟩:=Nh hc.hx;have hxm:=List.mem_of_getElem? hx;have hi:Er (st.G c) x.ins 0=l1++t::l2:=hc.hi;obtain⟨p,hp,hG,hl2⟩:=M7 hi;rw[Nat.zero_add]at hG hl2;obtain⟨k,s,hk,hat,hss,hdr⟩:=bz (z:=Df x v) (j:=0) hp hc.hv;rw[Nat.zero_add]at hat hdr;have hplt:=(List.getElem?_eq_some_iff.1 hp).1;have hlk:lo c<=k:=by
  rcases hlo c x hx with e | e
  . omega
  . have:(A3 x v)[k]?=some s:=hk;rw[e]at this;simp at this
 have hleft:leftS (st.G c) x.ins.length s=true:=by
  unfold leftS;rw[hat,hG];simp
 have hpr:=h.proc c x k s t hx hlk hk hss hleft (by rw[hat];exact hp) hc.pure;have hpr':C9 (st.G c) x.ins.length (GM (Df x v) v (x.ins.drop (p+1)) (p+1)) (HH inn x)=true:=by rw[<-hdr];exact hpr
 rw[HV (by rw[List.length_drop];omega),<-hl2]at hpr';have hd:=hc.dead;have:need v l2 (endB (Ct f st.G) (x.mid (Er (st.G c) x.ins 0)) v)=true:=by
  refine By (fun e=>?_) hpr';show(Df x v||outB (Ct f st.G) (x.mid (Er (st.G c) x.ins 0)) v)=true;rcases Bool.or_eq_true_iff.1 e with e | e
  . rw[e];rfl
  . obtain⟨d,h1,h2⟩:=List.any_eq_true.1 e;have hd:=hs.next x hxm d h1;have:=h.ex hv d.toNat (by omega) h2;have ho:outB (Ct f st.G) (x.mid (Er (st.G c) x.ins 0)) v=true:=outB_iff.2 ⟨d,h1,this⟩;rw[ho,Bool.or_true]
 rw[this]at hd;cases hd
theorem Oh{f:BFunc}(hs:f.sane){R:Nat}(hRf:f.regs=(R:Int)){G:GG}{u:Nat}(hu:R<=u):Mi (Ct f G) u:=by
 intro g c y l1 t l2 hc;obtain⟨x,hx,rfl⟩:=Nh hc.hx;obtain⟨p,hp,_,_⟩:=M7 (show Er (G c) x.ins 0=l1++t::l2 from hc.hi);have hin:=hs.low x (List.mem_of_getElem? hx) t (List.mem_of_getElem? hp);have hsp:decide (t.sets>=0)=true:=by rw[hc.hv];simp
 have h1:=hin.1 (ED hsp);rw[<-GS (ED hsp),hc.hv,hRf]at h1;omega
structure SI(f:BFunc)(R:Nat)(st:RSd):Prop where
  c:Cuts f (Ct f st.G)
  nd: ∀u,st.w u=false->Mi (Ct f st.G) u
  q:QId R st
def lU(f:BFunc)(R:Nat)(st:RSd):Nat:=dy (Ct f st.G)*(R+1)+st.ws.length
def lV(R:Nat):RSd:=⟨fun _ _=>false,fun b=>decide (b<R),List.range R,(List.range R).map BH⟩
theorem SI.first{f:BFunc}(hs:f.sane){R:Nat}(hRf:f.regs=(R:Int)):SI f R (lV R):=by
 refine⟨?_,fun u hu=>Oh hs hRf ?_,⟨Is _ (Nat.le_refl _),stackI_range _⟩⟩
 . grind[Cuts,Ct,ZZ,lV]
 . have: ¬u<R:=by simpa[lV]using hu
   omega
def V9(st:RSd)(v:Nat)(ws:List Nat):RSd:=⟨st.G,Cx st.w v false,ws,st.es⟩
theorem SI.pop{f:BFunc}{R v:Nat}{ws:List Nat}{st:RSd}(h:SI f R st)(hw:st.ws=ws++[v]):v<R/\RgI f R v (UC (Ct f st.G) v) (lU f R (V9 st v ws)) (V9 st v ws) (fun b=>(Hp f v b).length):=by
 have hwt:=h.q.wt;have hst:=h.q.st;rw[hw]at hwt hst;have hp:=hwt.pop;refine⟨hp.2.1,h.c,fun b hb=>inB_iff.2 hb,fun _ b _ hb=>inB_iff.1 hb,fun u huv hu=>h.nd u ?_,⟨hp.1,hst.pop⟩,Nat.le_refl _,?_⟩
 . show st.w u=false;have hu':Cx st.w v false u=false:=hu;rw[CN _ huv]at hu';exact hu'
 . intro b x k s t hx hlk hk;rw[DJ hx]at hlk;have:=(List.getElem?_eq_some_iff.1 hk).1;omega
theorem RgI.blocks{f:BFunc}(hs:f.sane){R v:Nat}(hRf:f.regs=(R:Int)){inn:Nat->Bool}{m0:Nat}{st:RSd}(h:RgI f R v inn m0 st (fun b=>(Hp f v b).length)):
 ∀k,k<=(FE f v).length->∃lo,RgI f R v inn m0 (Kd f inn v st k) lo/\(∀b,b∈(FE f v).take k->lo b=0)/\(∀b,b∉(FE f v).take k->lo b=(Hp f v b).length)
 | 0,_=>⟨_,h,fun b hb=>by simp at hb,fun _ _=>rfl⟩
 | k+1,hk=>by
  obtain⟨lo,h1,h2,h3⟩:=RgI.blocks hs hRf h k (by omega);obtain⟨b,hb⟩:=Ae (l:=FE f v) (k:=k) (by omega);have hbl:=dO (List.mem_of_getElem? hb);obtain⟨x,hx⟩:=Ae hbl;have hnb:b∉(FE f v).take k:=fun e=>by
   obtain⟨i,hi⟩:=List.mem_iff_getElem?.1 e;have hik:i<k:=by
    rcases Nat.lt_or_ge i k with h | h
    . exact h
    . rw[List.getElem?_eq_none (by rw[List.length_take];omega)]at hi;cases hi
   rw[List.getElem?_take_of_lt hik]at hi;have:=(List.getElem?_inj (by omega:i<(FE f v).length) (Q3 f v)).1 (hi.trans hb.symm);omega
  have hlo:=h3 b hnb;rw[DJ hx]at hlo;obtain⟨lo',l1,l2,l3,_⟩:=h1.sites hs hRf hx hlo (A3 x v).length (Nat.le_refl _);rw[NE (Nat.le_refl _),<-Ro hx,<-P5 hb]at l1;have e:(FE f v).take (k+1)=(FE f v).take k++[b]:=by rw[List.take_add_one,hb];rfl
  refine⟨lo',l1,fun c hc=>?_,fun c hc=>?_⟩
  . by_cases hcb:c=b
    . subst hcb;omega
    . rw[l3 c hcb];rw[e]at hc;rcases List.mem_append.1 hc with hc | hc
      . exact h2 c hc
      . exact absurd (List.mem_singleton.1 hc) hcb
  . rw[e]at hc;have hcb:c≠b:=fun e=>hc (List.mem_append.2 (.inr (List.mem_singleton.2 e)))
    rw[l3 c hcb];exact h3 c fun e=>hc (List.mem_append.2 (.inl e))
theorem SI.reg{f:BFunc}(hs:f.sane){R v:Nat}(hRf:f.regs=(R:Int)){ws:List Nat}{st:RSd}(h:SI f R st)(hw:st.ws=ws++[v]):SI f R (HO f v (V9 st v ws))/\lU f R (HO f v (V9 st v ws))<lU f R st:=by
 obtain⟨hv,hg⟩:=h.pop hw;obtain⟨lo,h1,h2,h3⟩:=hg.blocks hs hRf (FE f v).length (Nat.le_refl _);rw[List.take_length]at h2 h3;have h1':RgI f R v (UC (Ct f st.G) v) (lU f R (V9 st v ws)) (HO f v (V9 st v ws)) lo:=h1;refine⟨⟨h1'.c,fun u hu=>?_,h1'.q⟩,?_⟩
 . by_cases huv:u=v
   . subst huv;refine h1'.done hs (fun b x hx=>?_) hu
     by_cases hm:b∈FE f u
     . exact .inl (h2 b hm)
     . right;have hbl:=(List.getElem?_eq_some_iff.1 hx).1;have:(Hp f u b).isEmpty=true:=by
        cases e:(Hp f u b).isEmpty with
        | true=>rfl
        | false=>exact absurd (List.mem_filter.2 ⟨List.mem_range.2 hbl,by rw[e];rfl⟩) hm
       rw[DJ hx]at this;exact List.isEmpty_iff.1 this
   . exact h1'.oth u huv hu
 . refine Nat.lt_of_le_of_lt h1'.ms ?_;unfold lU V9;rw[hw,List.length_append]
   simp
theorem SI.done{f:BFunc}(hs:f.sane){R:Nat}(hRf:f.regs=(R:Int)){st:RSd}(h:SI f R st)(hw:st.ws=[]):Ct f st.G=Vp f:=by
 refine lD h.c fun g hg=>?_
 obtain⟨c,x,l1,t,l2,v,hc⟩:=hg
 by_cases hv:v<R
 . refine h.nd v ?_ g c x l1 t l2 hc
   cases e:st.w v with
   | false=>rfl
   | true=>exact absurd ((h.q.wt.mem v).2 ⟨hv,e⟩) (by rw[hw];simp)
 . exact Oh hs hRf (by omega) g c x l1 t l2 hc
def F4(r0 r1 r2 r3:Nat->AObj):Nat->AObj:=fun x=>if x%4=0 then r0 (x/4)else if x%4=1 then r1 (x/4)else if x%4=2 then r2 (x/4)else r3 (x/4)
theorem qT(r0 r1 r2 r3:Nat->AObj)(b:Nat):F4 r0 r1 r2 r3 (4*b+0)=r0 b:=by
 grind[F4]
theorem qS(r0 r1 r2 r3:Nat->AObj)(b:Nat):F4 r0 r1 r2 r3 (4*b+1)=r1 b:=by
 grind[F4]
theorem lS(r0 r1 r2 r3:Nat->AObj)(b:Nat):F4 r0 r1 r2 r3 (4*b+2)=r2 b:=by
 grind[F4]
theorem lR(r0 r1 r2 r3:Nat->AObj)(b:Nat):F4 r0 r1 r2 r3 (4*b+3)=r3 b:=by
 grind[F4]
theorem qR(r0 r1 r2 r3:Nat->AObj)(b:Nat)(o:AObj)(x:Nat):F4 (J4 r0 b o) r1 r2 r3 x=if x=4*b+0 then o else F4 r0 r1 r2 r3 x:=by
 grind[F4,J4]
theorem jr(r0 r1 r2 r3:Nat->AObj)(b:Nat)(o:AObj)(x:Nat):F4 r0 (J4 r1 b o) r2 r3 x=if x=4*b+1 then o else F4 r0 r1 r2 r3 x:=by
 grind[F4,J4]
theorem jq(r0 r1 r2 r3:Nat->AObj)(b:Nat)(o:AObj)(x:Nat):F4 r0 r1 (J4 r2 b o) r3 x=if x=4*b+2 then o else F4 r0 r1 r2 r3 x:=by
 grind[F4,J4]
theorem jp(r0 r1 r2 r3:Nat->AObj)(b:Nat)(o:AObj)(x:Nat):F4 r0 r1 r2 (J4 r3 b o) x=if x=4*b+3 then o else F4 r0 r1 r2 r3 x:=by
 grind[F4,J4]
theorem Lm{k:Nat->Bool}{r0 r1 r2 r3:Nat->AObj}(h0: ∀b,(r0 b).avoid k=true)(h1: ∀b,(r1 b).avoid k=true)(h2: ∀b,(r2 b).avoid k=true)(h3: ∀b,(r3 b).avoid k=true)(x:Nat):(F4 r0 r1 r2 r3 x).avoid k=true:=by
 grind[F4]
def Dv(b:Nat):Nat:=if b<16 then b else 16+(b-16)%4
theorem eL(i:Nat):Dv (4*i+0+16)=16:=by unfold Dv;rw[if_neg (by omega)];omega
theorem eK(i:Nat):Dv (4*i+1+16)=17:=by unfold Dv;rw[if_neg (by omega)];omega
theorem eJ(i:Nat):Dv (4*i+2+16)=18:=by unfold Dv;rw[if_neg (by omega)];omega
theorem eI(i:Nat):Dv (4*i+3+16)=19:=by unfold Dv;rw[if_neg (by omega)];omega
def kD:Nat->Bool:=fun c=>(Nat.ble 2 c&&Nat.blt c 8)||Nat.ble 16 c
def EV(h g:Ac):Ac:=fun c=>bif kD c then g c else h c
theorem CF(x:Nat):kD (x+16)=true:=by
 unfold kD;rw[show Nat.ble 16 (x+16)=true by rw[Nat.ble_eq];omega];simp
theorem Ux{c:Nat}(h:kD c=false):c=0\/c=1\/(8<=c/\c<16):=by
 unfold kD at h;simp only[Bool.or_eq_false_iff,Bool.and_eq_false_iff]at h;obtain⟨h1,h2⟩:=h;have h3: ¬16<=c:=fun e=>by rw[<-Nat.ble_eq]at e;rw[e]at h2;cases h2
 rcases h1 with h1 | h1
 . have: ¬2<=c:=fun e=>by rw[<-Nat.ble_eq]at e;rw[e]at h1;cases h1
   omega
 . have: ¬c<8:=fun e=>by
    have:Nat.blt c 8=true:=by unfold Nat.blt;rw[Nat.ble_eq];omega
    rw[this]at h1;cases h1
   omega
theorem So{c:Nat}(h:kD c=true):(2<=c/\c<8)\/16<=c:=by
 unfold kD at h
 (simp_all;done)
theorem EG(h g:Ac)(x:Nat):EV h g (x+16)=g (x+16):=by unfold EV;rw[CF];rfl
theorem BT{h g:Ac}{c:Nat}(hc:kD c=true):EV h g c=g c:=by unfold EV;rw[hc];rfl
theorem Xz{h g:Ac}{c:Nat}(hc:kD c=false):EV h g c=h c:=by unfold EV;rw[hc];rfl
abbrev DH(L:List AObj)(F:Nat->AObj):Ac:=HA (nb (.free:: .free::L)) F
theorem fB{L:List AObj}(F:Nat->AObj)(hL:L.length=6){i:Nat}(hi:i<6):DH L F (2+i)=some (Vo L i):=by
 show HA (nb _) F (2+i)=_;rw[IY _ _ (by omega)];unfold nb;congr 1;rw[Nat.add_comm 2 i];rfl
theorem gS{L:List AObj}{p:AObj->Prop}(h: ∀o∈L,p o)(hf:p .free): ∀i,p (Vo L i):=by
 induction L with
 | nil=>intro i;exact hf
 | cons o L ih=>
  intro i
  cases i with
  | zero=>exact h o (List.mem_cons.2 (.inl rfl))
  | succ i=>exact ih (fun q hq=>h q (List.mem_cons.2 (.inr hq))) i
theorem Py{L:List AObj}{F:Nat->AObj}(hL:L.length=6)(hA: ∀o∈L,o.avoid kD=true)(hF: ∀x,(F x).avoid kD=true){c:Nat}(hc:kD c=true): ∃q,DH L F c=some q/\q.avoid kD=true:=by
 rcases So hc with h | h
 . obtain⟨i,rfl⟩: ∃i,c=2+i:=⟨c-2,by omega⟩
   exact⟨_,fB F hL (by omega),gS hA rfl i⟩
 . obtain⟨x,rfl⟩: ∃x,c=x+16:=⟨c-16,by omega⟩
   exact⟨_,Ao _ _ _,hF x⟩
theorem Ye{h:Ac}{L:List AObj}{F:Nat->AObj}(hL:L.length=6)(h1:LowS h 2 L)(h2: ∀x,h (x+16)=some (F x)){c:Nat}(hc:kD c=true):h c=DH L F c:=by
 rcases So hc with hh | hh
 . obtain⟨i,rfl⟩: ∃i,c=2+i:=⟨c-2,by omega⟩
   rw[fB F hL (by omega)];exact h1.get (by omega)
 . obtain⟨x,rfl⟩: ∃x,c=x+16:=⟨c-16,by omega⟩
   rw[h2];exact(Ao _ _ _).symm
theorem dI{h:Ac}{L:List AObj}{F:Nat->AObj}(hL:L.length=6)(h1:LowS h 2 L)(h2: ∀x,h (x+16)=some (F x)):En h kD=DH L F:=funext fun c=>by
 unfold En
 cases e:kD c with
 | true=>exact Ye hL h1 h2 e
 | false=>
  rcases Ux e with rfl | rfl | hc
  . rfl
  . rfl
  . show some AObj.free=HA (nb (.free:: .free::L)) F c;rw[IY _ _ (by omega)];show some AObj.free=some (Vo (.free:: .free::L) c);rw[nth_out (by show L.length+1+1<=c;omega)]
theorem Em{P:Program}{o:Oper}{e:Av}{h:Ac}{g:FuncId}{fn:Func}{args:Array Operand}{tys:Array TypeId}{xs:List AV}{r:AV}(L L':List AObj){F:Nat->AObj}(F':Nat->AObj)
 (ho:o.op= .call {callee:=.value (.func g),args:=args,argTypes:=tys}) (hf:P.funcs[g]?=some fn) (hn:(fn.name== "runtime.NumGoroutine")=false) (hb:fn.body.isSome=true) (hx:AX e args.toList=some xs)
 (hxa:xs.all (AV.avoid kD)=true) (hL:L.length=6) (hL':L'.length=6) (hA: ∀o∈L,o.avoid kD=true) (hA': ∀o∈L',o.avoid kD=true) (h1:LowS h 2 L) (h2: ∀x,h (x+16)=some (F x)) (hF: ∀x,(F x).avoid kD=true) (hF': ∀x,(F' x).avoid kD=true) (hra:r.avoid kD=true)
 (hcall:ACall P g xs (DH L F) (fun r' h'=>r'=r/\HSub (EV hNone (DH L' F')) h')):MM P o e h (EV h (DH L' F')) r:=
 KR (hw:=EV hNone (DH L' F')) kD ho hf hn hb hx hxa (fun b hb=>by rw[Ye hL h1 h2 hb];exact Py hL hA hF hb) (dI hL h1 h2) (fun b hb=>Xz hb)
  (fun b hb=>by obtain⟨q,q1,q2⟩:=Py (L:=L') (F:=F') hL' hA' hF' hb;exact⟨q,(BT hb).trans q1,(BT hb).trans q1,q2⟩) hra hcall
theorem Ma{h:Ac}{L:List AObj}{F:Nat->AObj}(hL:L.length=6)(h1:LowS h 2 L)(h2: ∀x,h (x+16)=some (F x)):HSub (EV hNone (DH L F)) h:=fun c o ho=>by
 cases e:kD c with
 | true=>rw[BT e]at ho;rw[Ye hL h1 h2 e];exact ho
 | false=>rw[Xz e]at ho;cases ho
def Gy(f:BFunc)(i:Nat):Nat:=((f.blocks[i]?).map fun x=>x.ins.length).getD 0
theorem Cz{f:BFunc}{i:Nat}{x:Block}(h:f.blocks[i]?=some x):Gy f i=x.ins.length:=by unfold Gy;rw[h];rfl
abbrev CV:=Nat->Nat->List Site
def G8(s:Site):List AV:=[.int .i64 (s.at_:Int),.bool s.r,.bool s.s]
def aR(A:Nat->List Nat)(c:Nat):AV:=Ek (4*c+0+16) ((A c).map BH)
def gR(f:BFunc)(i:Nat):AV:=.ref (4*i+1+16) (Gy f i) 0 (Gy f i)
def Nb(S:CV)(n v:Nat):List Nat:=(List.range n).filter fun i=> !(S i v).isEmpty
def UI(R:Nat)(S:CV)(v i:Nat):List AV:=[.int .i64 (i:Int),.ref (4*(v+R*i)+3+16) (S i v).length 0 (S i v).length]
def JX(n R:Nat)(S:CV)(v:Nat):List (List AV):=(Nb S n v).map (UI R S v)
def oR(n R:Nat)(S:CV)(v:Nat):AV:=Ek (4*v+2+16) (JX n R S v)
def R8(n:Nat)(A:Nat->List Nat):Nat->AObj:=CK n fun c=>Ie 1 ((A c).map BH)
def PF(f:BFunc)(n:Nat)(G:GG):Nat->AObj:=CK n fun i=>.row true 1 (bC (Gy f i) (G i))
def N0(n R:Nat)(S:CV):Nat->AObj:=CK R fun v=>PE 2 (JX n R S v)
def MS(R:Nat)(S:CV):Nat->AObj:=fun m=>Ie 3 ((S (m/R) (m%R)).map G8)
theorem XQ{R v i:Nat}(h:v<R):(v+R*i)/R=i:=by
 rw[Nat.add_mul_div_left _ _ (by omega),Nat.div_eq_of_lt h,Nat.zero_add]
theorem XP{R v i:Nat}(h:v<R):(v+R*i)%R=v:=by
 rw[Nat.add_mul_mod_self_left,Nat.mod_eq_of_lt h]
theorem bY{R v i:Nat}{S:CV}(h:v<R):MS R S (v+R*i)=Ie 3 ((S i v).map G8):=by
 unfold MS;rw[XQ h,XP h]
abbrev Ta(f:BFunc)(R m len:Nat):List AV:=[.int .i64 f.regs,B8 f.blocks,A1 f.nexts,.ref 3 f.blocks.length 0 f.blocks.length,.ref 4 R 0 R,.ref 5 f.blocks.length 0 f.blocks.length,.ref 6 m 0 len,.ref 7 R 0 R]
abbrev Ip(f:BFunc)(R:Nat)(S:CV)(es:List (List AV))(len:Nat)(w:Nat->Bool):List AObj:=
  [.row false 8 [Ta f R es.length len],.row false 1 (Ay (aR (Aw f)) f.blocks.length),.row false 1 (Ay (oR f.blocks.length R S) R),.row false 1 (Ay (gR f) f.blocks.length),.row true 1 es,.row true 1 (bC R w)]
abbrev DF(f:BFunc)(R:Nat)(S:CV)(G:GG):Nat->AObj:=F4 (R8 f.blocks.length (Aw f)) (PF f f.blocks.length G) (N0 f.blocks.length R S) (MS R S)
theorem Bf{k:Nat->Bool}(hk: ∀x,k (x+16)=true)(A:Nat->List Nat)(c:Nat):(aR A c).avoid k=true:=Cb _ (hk _)
theorem A4{k:Nat->Bool}(hk: ∀x,k (x+16)=true)(n R:Nat)(S:CV)(v:Nat):(oR n R S v).avoid k=true:=Cb _ (hk _)
theorem BZ{k:Nat->Bool}(hk: ∀x,k (x+16)=true)(f:BFunc)(i:Nat):(gR f i).avoid k=true:=by
 grind[gR,AV.avoid,AV.flat]
theorem Jr{k:Nat->Bool}{n:Nat}{A:Nat->List Nat}(b:Nat):(R8 n A b).avoid k=true:=EE (fun _=>Dy _ _) b
theorem Jq{k:Nat->Bool}{f:BFunc}{n:Nat}{G:GG}(b:Nat):(PF f n G b).avoid k=true:=EE (fun _=>rfl) b
theorem Zy{k:Nat->Bool}(hk: ∀x,k (x+16)=true){n R:Nat}{S:CV}{v:Nat}{p:Bool}:(AObj.row p 2 (JX n R S v)).avoid k=true:=by
 cases p with
 | true=>rfl
 | false=>
  show(JX n R S v).all (fun cs=>cs.all (AV.avoid k))=true;refine List.all_eq_true.2 fun cs hc=>?_
  obtain⟨i,_,rfl⟩:=List.mem_map.1 hc;show(List.all [_,_] (AV.avoid k))=true;simp only[List.all_cons,List.all_nil,Bool.and_true,Bool.and_eq_true];exact⟨rfl,by simp[AV.avoid,AV.flat,hk]⟩
theorem Jp{k:Nat->Bool}(hk: ∀x,k (x+16)=true){n R:Nat}{S:CV}(b:Nat):(N0 n R S b).avoid k=true:=EE (fun v=>by
 unfold PE
 cases (JX n R S v).isEmpty with
 | true=>rfl
 | false=>exact Zy hk) b
theorem Jo{k:Nat->Bool}{R:Nat}{S:CV}(m:Nat):(MS R S m).avoid k=true:=Dy _ _
theorem Bd{k:Nat->Bool}(hk: ∀x,k (x+16)=true)(f:BFunc)(R:Nat)(S:CV)(G:GG)(x:Nat):(DF f R S G x).avoid k=true:=Lm (fun _=>Jr _) (fun _=>Jq _) (fun _=>Jp hk _) (fun _=>Jo _) x
theorem Cf(f:BFunc)(R:Nat)(S:CV)(es:List (List AV))(len:Nat)(w:Nat->Bool): ∀o∈Ip f R S es len w,o.avoid kD=true:=fun o ho=>by
 simp only[Ip,List.mem_cons,List.not_mem_nil,or_false]at ho;rcases ho with rfl | rfl | rfl | rfl | rfl | rfl
 . rfl
 . exact Ad (fun b _=>Bf CF _ _)
 . exact Ad (fun b _=>A4 CF _ _ _ _)
 . exact Ad (fun b _=>BZ CF _ _)
 . rfl
 . rfl
theorem Ar(k0:Nat): ∀x,kf k0 (x+16)=true:=fun x=>Us k0 x
theorem V4{f:BFunc}{n i:Nat}{G:GG}{r0 r2 r3:Nat->AObj}{x:Block}(hi:i<n)(hx:f.blocks[i]?=some x):F4 r0 (PF f n G) r2 r3 (4*i+1)= .row true 1 (bC x.ins.length (G i)):=by
 rw[qS];unfold PF;rw[Ex hi,Cz hx]
theorem gA{f:BFunc}{n i p:Nat}{G:GG}{r0 r2 r3:Nat->AObj}{x:Block}(hi:i<n)(hx:f.blocks[i]?=some x)(y:Nat):
 F4 r0 (PF f n (DP G i p)) r2 r3 y=if y=4*i+1 then .row true 1 ((bC x.ins.length (G i)).set (0+((p:Nat):Int).toNat) [AV.bool true])else F4 r0 (PF f n G) r2 r3 y:=by
 have e:PF f n (DP G i p)=J4 (PF f n G) i (.row true 1 ((bC x.ins.length (G i)).set (0+((p:Nat):Int).toNat) [AV.bool true])):=by
  refine(Gm (k:=n) (o:=fun c=>.row true 1 (bC (Gy f c) (G c))) (o':=fun c=>.row true 1 (bC (Gy f c) (DP G i p c))) (b:=i) hi fun c hc=>?_).trans ?_
  . congr 2;refine funext fun q=>?_
    rw[F1 (fun e=>hc e.1)]
  . unfold PF;congr 1;show AObj.row true 1 (bC (Gy f i) (DP G i p i))=_;rw[H8,Cz hx];congr 2;refine funext fun q=>?_
    congr 1
    by_cases hq:q=p
    . subst hq;rw[Js,C4]
    . rw[F1 (fun e=>hq e.2),CN _ hq]
 rw[e,jr]
theorem Ea(n R:Nat)(S:CV)(v:Nat):(JX n R S v).length=(Nb S n v).length:=by simp[JX]
theorem SA(S:CV)(n v:Nat):(Nb S n v).length<=n:=by
 unfold Nb
 grind
theorem Mw{us:List Int}{k:Nat}{u:Int}{st:RSd}(h:us[k]?=some u):(us.take (k+1)).foldl (fun st u=>Gq st u.toNat) st=Gq ((us.take k).foldl (fun st u=>Gq st u.toNat) st) u.toNat:=by
 rw[List.take_add_one,h,List.foldl_append];rfl
theorem lT{f:BFunc}{R i p:Nat}{S:CV}{G:GG}{x:Block}(hi:i<f.blocks.length)(hx:f.blocks[i]?=some x)(y:Nat):
 DF f R S (DP G i p) y=if y=4*i+1 then .row true 1 ((bC x.ins.length (G i)).set (0+((p:Nat):Int).toNat) [AV.bool true])else DF f R S G y:=gA hi hx y
theorem Nn{f:BFunc}{R v i:Nat}{S:CV}{G:GG}(hv:v<R)(h:0<(S i v).length):DF f R S G (4*(v+R*i)+3)= .row true 3 ((S i v).map G8):=by
 refine(lR _ _ _ _ _).trans ?_;rw[bY hv]
 cases e:S i v with
 | nil=>rw[e]at h;simp at h
 | cons s l=>rfl
theorem S4{f:BFunc}{R v:Nat}{S:CV}{G:GG}(hv:v<R):DF f R S G (4*v+2)=PE 2 (JX f.blocks.length R S v):=(lS _ _ _ _ _).trans (Ex hv)
theorem jy{f:BFunc}{R b:Nat}{S:CV}{G:GG}(hb:b<f.blocks.length):DF f R S G (4*b+0)=Ie 1 ((Aw f b).map BH):=(qT _ _ _ _ _).trans (Ex hb)
theorem SC{S:CV}{n v k i:Nat}(h:(Nb S n v)[k]?=some i):i<n/\0<(S i v).length:=by
 have:=List.mem_filter.1 (List.mem_of_getElem? h)
 grind
theorem RQ{sz k:Nat}{es:List (List AV)}(h:k<es.length):PE sz es= .row false sz es:=by
 grind[PE]
theorem N2{P:Program}{T:Nat->Option As}{o:Oper}{e:Av}{h:Ac}(hT:Cq P T){t:TypeId}{x y:Operand}{b sz:Nat}{es:List (List AV)}{k:IntKind}{n:Int}{i j:As}{u:Nat}(ho:o.op= .indexAddr t x y)(hx:Al e x=some (Ek b es))(hy:Al e y=some (.int k n))
 (hi:T t=some i) (hk:i.k= .slice u) (hj:T u=some j) (hb:h b=some (PE sz es)) (hsz:sz=j.size) (h0:0<=n) (hn:n<es.length):QLoc P o e h [b] (.ptr b es.length n.toNat 0):=by
 have hlt:n.toNat<es.length:=by omega
 rw[ND hlt]at hx;rw[RQ hlt]at hb;have:=Ab hT ho hx hy hi hk hj hb rfl hsz h0 hn;rwa[Nat.zero_add]at this
theorem left_yes{n:Nat}{s:Site}{g:Bool}(h:s.at_=n):true=(s.at_==n||g):=by simp[h]
theorem g7{n:Nat}{s:Site}{g:Bool}(h: ¬s.at_=n):g=(s.at_==n||g):=by
 grind
abbrev SB(f:BFunc):CV:=fun i v=>Hp f v i
abbrev iC(n:Nat)(w:Nat->Nat):List (List AV):=Ay (fun b=>.int .i64 (w b:Int)) n
def Lr(w:Nat->Nat)(b z:Nat):Nat->Nat:=fun c=>if c=b then z else w c
theorem dG{n b:Nat}{w:Nat->Nat}(z:Nat):(iC n w).set (0+((b:Nat):Int).toNat) [AV.int .i64 (z:Int)]=iC n (Lr w b z):=by
 rw[Nat.zero_add,Int.toNat_natCast];show(Ay _ n).set b _=_;rw[HD];refine CX fun c _=>?_
 unfold Lr;split<;>rfl
theorem XS{n b:Nat}{w:Nat->Nat}:(iC n w).set (0+((b:Nat):Int).toNat) [AV.int .i64 2]=iC n (Lr w b 2):=dG 2
theorem ic{n b:Nat}{w:Nat->Nat}:(iC n w).set (0+((b:Nat):Int).toNat) [AV.int .i64 1]=iC n (Lr w b 1):=dG 1
theorem bl(w:Nat->Nat)(b y z:Nat):Lr (Lr w b y) b z=Lr w b z:=funext fun c=>by
 grind[Lr]
theorem fe(n:Nat)(w:Nat->Bool):bC n w=(Hb n w).map A5:=by
 unfold Hb;show(List.range n).map _=_;rw[List.map_map];rfl
def HZ(f:BFunc)(G:GG)(v k:Nat):Nat->Nat:=fun b=>if b∈(FE f v).take k then firstG f G v b else 0
def S9(f:BFunc)(G:GG)(v k:Nat):Nat->Bool:=fun b=>HZ f G v k b==1
def todoK(f:BFunc)(G:GG)(v k:Nat):List Nat:=((FE f v).take k).filter fun b=>firstG f G v b==1
theorem Hc{l:List Nat}{k i:Nat}(h:l[k]?=some i)(b:Nat):b∈l.take (k+1)↔b∈l.take k\/b=i:=by
 rw[List.take_add_one,h]
 simp
theorem Hz{f:BFunc}{G:GG}{v k i:Nat}(h:(FE f v)[k]?=some i):HZ f G v (k+1)=Lr (HZ f G v k) i (firstG f G v i):=funext fun b=>by
 unfold HZ Lr
 by_cases hb:b=i
 . subst hb;rw[if_pos ((Hc h b).2 (.inr rfl)),if_pos rfl]
 . rw[if_neg hb];dsimp only
   by_cases h2:b∈(FE f v).take k
   . rw[if_pos h2,if_pos ((Hc h b).2 (.inl h2))]
   . rw[if_neg h2,if_neg (fun e=>((Hc h b).1 e).elim h2 hb)]
theorem Q6{f:BFunc}{G:GG}{v:Nat}:HZ f G v 0=fun _=>0:=funext fun b=>by unfold HZ;simp
theorem ln{f:BFunc}{v k i:Nat}(h:(FE f v)[k]?=some i):i∉(FE f v).take k:=fun e=>by
 obtain⟨j,hj⟩:=List.mem_iff_getElem?.1 e;have hjk:j<k:=by
  grind
 rw[List.getElem?_take_of_lt hjk]at hj;have hkl:=(List.getElem?_eq_some_iff.1 h).1;have:=(List.getElem?_inj (by omega:j<(FE f v).length) (Q3 f v)).1 (hj.trans h.symm);omega
theorem UL{f:BFunc}{G:GG}{v k i:Nat}(h:(FE f v)[k]?=some i):HZ f G v k i=0:=by
 unfold HZ;rw[if_neg (ln h)]
theorem lv{f:BFunc}{G:GG}{v k i:Nat}(h:(FE f v)[k]?=some i)(h0:firstG f G v i=0):HZ f G v k=HZ f G v (k+1):=by
 rw[Hz h,h0];refine funext fun b=>?_
 unfold Lr;split
 . subst_vars;exact UL h
 . rfl
theorem dA{f:BFunc}{G:GG}{v k i:Nat}(h:(FE f v)[k]?=some i)(h1:firstG f G v i=1):Cx (S9 f G v k) i true=S9 f G v (k+1):=funext fun b=>by
 unfold S9 Cx;rw[Hz h,h1];unfold Lr;split<;>rfl
theorem dB{f:BFunc}{G:GG}{v k i:Nat}(h:(FE f v)[k]?=some i)(h1:firstG f G v i≠1):S9 f G v k=S9 f G v (k+1):=funext fun b=>by
 unfold S9;rw[Hz h];unfold Lr;split
 . rename_i hb;rw[hb,UL h];have:(firstG f G v i==1)=false:=by rw[beq_eq_false_iff_ne];exact h1
   rw[this];rfl
 . rfl
theorem Nx{f:BFunc}{G:GG}{v k i:Nat}(h:(FE f v)[k]?=some i)(h1:firstG f G v i=1):todoK f G v k++[i]=todoK f G v (k+1):=by
 unfold todoK;rw[List.take_add_one,h,List.filter_append];simp[h1]
theorem Ny{f:BFunc}{G:GG}{v k i:Nat}(h:(FE f v)[k]?=some i)(h1:firstG f G v i≠1):todoK f G v k=todoK f G v (k+1):=by
 unfold todoK;rw[List.take_add_one,h,List.filter_append];simp[h1]
theorem YH(f:BFunc)(G:GG)(v k:Nat):(todoK f G v k).length<=k:=by
 unfold todoK
 grind
theorem UM{f:BFunc}{G:GG}{v k:Nat}(h:(FE f v).length<=k):HZ f G v k=firstG f G v:=funext fun b=>by
 unfold HZ;rw[List.take_of_length_le h];split
 . rfl
 . rename_i hn
   cases e:f.blocks[b]? with
   | none=>unfold firstG;rw[e];rfl
   | some x=>
    rw[Ge e];have hbl:=(List.getElem?_eq_some_iff.1 e).1;have:(Hp f v b).isEmpty=true:=by
     cases e2:(Hp f v b).isEmpty with
     | true=>rfl
     | false=>exact absurd (List.mem_filter.2 ⟨List.mem_range.2 hbl,by rw[e2];rfl⟩) hn
    rw[DJ e]at this;rw[List.isEmpty_iff.1 this];rfl
theorem Pj(p:Nat->Bool): ∀n,((List.range n).filter p).length+Mb n p=n
 | 0=>rfl
 | n+1=>by
  have ih:=Pj p n;unfold Mb at ih |-;rw[List.range_succ,List.filter_append,List.length_append,List.map_append,List.sum_append]
  cases e:p n<;>simp[e]<;>omega
theorem BfI.first{f:BFunc}{G:GG}{v k:Nat}(h:(FE f v).length<=k):BfI f G v (S9 f G v k) (todoK f G v k) 0 []:=by
 have hf:=UM (G:=G) h;have hin: ∀b,S9 f G v k b=true->b∈todoK f G v k:=fun b hb=>by
  unfold S9 at hb;unfold todoK;rw[List.take_of_length_le h];unfold HZ at hb;rw[List.take_of_length_le h]at hb;split at hb
  . rename_i hm;exact List.mem_filter.2 ⟨hm,hb⟩
  . cases hb
 refine⟨fun b hb=>?_,fun b hb h1=>?_,fun c hc hn=>absurd (hin c hc) hn,fun c hc=>?_,?_⟩
 . have hm:=hin b hb;unfold todoK at hm;obtain⟨h1,h2⟩:=List.mem_filter.1 hm;have hbl:=dO (List.mem_of_mem_take h1);obtain⟨x,hx⟩:=Ae hbl;refine⟨hbl,.here (FD hx) ?_⟩;have h3:Dc (G b) x.ins.length (A3 x v)=1:=by rw[<-Ge hx];simpa using h2
   have:=L2 (G:=G) (v:=v) hx false;rw[UR h3,Bool.or_false]at this;exact this
 . unfold S9;rw[hf,h1];rfl
 . unfold todoK at hc;obtain⟨h1,h2⟩:=List.mem_filter.1 hc;unfold S9;rw[hf];exact h2
 . have e:=Pj (S9 f G v k) f.blocks.length;have hle:(todoK f G v k).length<=((List.range f.blocks.length).filter (S9 f G v k)).length:=by
    unfold todoK;rw[List.take_of_length_le h];unfold FE;rw[List.filter_filter];have: ∀(l:List Nat) (p q:Nat->Bool),(∀x,p x=true->q x=true)->(l.filter p).length<=(l.filter q).length:=fun l p q hpq=>by
     induction l with
     | nil=>simp
     | cons a l ih=>
      rw[List.filter_cons,List.filter_cons]
      cases ep:p a with
      | true=>rw[hpq a ep];simp;exact ih
      | false=>cases q a<;>simp<;>omega
    refine this _ _ _ fun x hx=>?_
    unfold S9;rw[hf];simp only[Bool.and_eq_true]at hx;exact hx.1
   omega
theorem StackI.push{n:Nat}{es:List (List AV)}{ws:List Nat}(h:StackI n es ws){b:Nat}(hlt:ws.length<n):StackI n (CY es ws.length (BH b)) (ws++[b]):=by
 refine⟨?_,?_,Qc h.le h.max hlt⟩
 . rw[List.length_append];simp only[List.length_cons,List.length_nil];rw[Kf h.le,h.top,List.map_append];rfl
 . rw[List.length_append];simp only[List.length_cons,List.length_nil];exact LJ h.le
theorem StackI.none(n:Nat):StackI n [] []:=⟨rfl,Nat.le_refl _,Nat.zero_le _⟩
structure MQ where
  inn:Nat->Bool
  todo:List Nat
  es:List (List AV)
structure MP where
  inn:Nat->Bool
  todo:List Nat
  es:List (List AV)
  j:Nat
theorem first_skip{G:Nat->Bool}{n j:Nat}{l:List Site}{s:Site}(hs:l[j]?=some s)(h:leftS G n s=false):Dc G n (l.drop j)=Dc G n (l.drop (j+1)):=by
 rw[List.drop_eq_getElem_cons (List.getElem?_eq_some_iff.1 hs).1,(List.getElem?_eq_some_iff.1 hs).2,Dc,h,cond_false]
theorem OY{G:Nat->Bool}{n j:Nat}{l:List Site}{s:Site}(hs:l[j]?=some s)(h:leftS G n s=true):Dc G n (l.drop j)=bif s.r then 1 else 2:=by
 rw[List.drop_eq_getElem_cons (List.getElem?_eq_some_iff.1 hs).1,(List.getElem?_eq_some_iff.1 hs).2,Dc,h,cond_true]
theorem kO{f:BFunc}{G:GG}{v k i n:Nat}(h:(FE f v)[k]?=some i)(h1:firstG f G v i=1):((iC n (HZ f G v k)).set (0+((i:Nat):Int).toNat) [AV.int .i64 2]).set (0+((i:Nat):Int).toNat) [AV.int .i64 1]=iC n (HZ f G v (k+1)):=by
 rw[XS,ic,bl,Hz h,h1]
theorem kN{f:BFunc}{G:GG}{v k i n:Nat}(h:(FE f v)[k]?=some i)(h1:firstG f G v i=2):(iC n (HZ f G v k)).set (0+((i:Nat):Int).toNat) [AV.int .i64 2]=iC n (HZ f G v (k+1)):=by
 rw[XS,Hz h,h1]
theorem BfI.room{f:BFunc}{G:GG}{v:Nat}{inn:Nat->Bool}{todo:List Nat}{b:Nat}{rest:List Nat}(h:BfI f G v inn todo b rest){a:Nat}(ha:a<f.blocks.length)(hi:inn a=false):todo.length<f.blocks.length:=by
 have:=h.cnt;have e:=Lc hi ha;omega
theorem Pb{l:List Nat}{j a:Nat}(h:l[j]?=some a):l.drop j=a::l.drop (j+1):=by
 rw[List.drop_eq_getElem_cons (List.getElem?_eq_some_iff.1 h).1,(List.getElem?_eq_some_iff.1 h).2]
theorem MZ{f:BFunc}{v i:Nat}{x:Block}(hx:f.blocks[i]?=some x):(Hp f v i).length<=x.ins.length+1:=by
 rw[DJ hx];exact Xm _ _ _ _
theorem EM{R v i:Nat}{S:CV}(k0:Nat):(AObj.row false 2 [UI R S v i]).avoid (kf k0)=true:=by
 show(List.all [_,_] (AV.avoid (kf k0))&&true)=true;simp only[List.all_cons,List.all_nil,Bool.and_true,Bool.and_eq_true];exact⟨rfl,by simp[AV.avoid,AV.flat,Us]⟩
theorem Xj{f:BFunc}{v i j:Nat}{x:Block}(hx:f.blocks[i]?=some x){s:Site}(h:(Hp f v i)[j]?=some s):s.at_<=x.ins.length:=by
 rw[DJ hx]at h;have:=(VU s (List.mem_of_getElem? h)).2;omega
structure MPI(f:BFunc)(G:GG)(v b m0:Nat)(p:MP):Prop where
  k:BfI f G v p.inn p.todo b ((Aw f b).drop p.j)
  b:p.inn b=true
  st:StackI f.blocks.length p.es p.todo
  mu:2*Mb f.blocks.length p.inn+p.todo.length<=m0
theorem MPI.skip{f:BFunc}{G:GG}{v b m0:Nat}{p:MP}(h:MPI f G v b m0 p){a:Nat}(ha:(Aw f b)[p.j]?=some a)(hs: ¬(firstG f G v a=0/\p.inn a=false)):MPI f G v b m0 ⟨p.inn,p.todo,p.es,p.j+1⟩:=by
 have hk:=h.k;rw[Pb ha]at hk;exact⟨hk.skip hs,h.b,h.st,h.mu⟩
theorem MPI.push{f:BFunc}{G:GG}{v b m0:Nat}{p:MP}(h:MPI f G v b m0 p){a:Nat}(ha:(Aw f b)[p.j]?=some a)(h0:firstG f G v a=0)(hi:p.inn a=false):MPI f G v b m0 ⟨Cx p.inn a true,p.todo++[a],CY p.es p.todo.length (BH a),p.j+1⟩:=by
 have hk:=h.k;have hal:=JM (List.mem_of_getElem? ha);have hr:=hk.room hal hi;rw[Pb ha]at hk;have hne:b≠a:=fun e=>by have:=h.b;rw[e,hi]at this;cases this
 refine⟨hk.push h.b (List.mem_of_getElem? ha) h0 hi,?_,h.st.push hr,?_⟩
 . show Cx p.inn a true b=true;rw[CN _ hne];exact h.b
 . have:=h.mu;have e:=Lc hi hal;show 2*Mb f.blocks.length (Cx p.inn a true)+(p.todo++[a]).length<=m0;rw[List.length_append]
   simp
   omega
theorem VQ{x:Block}{b:Nat}{st:RSd×Bool}{s:Site}(h:leftS (st.1.G b) x.ins.length s=false):JS x b st s=st:=by
 grind[JS,leftS]
theorem Tu{x:Block}{b:Nat}{st:RSd×Bool}{s:Site}{t:Tac}(h:leftS (st.1.G b) x.ins.length s=true)(ht:x.ins[s.at_]?=some t)(hs:s.s=true)(hb:st.2=false)(hp:t.pure=true):JS x b st s=(BW b s.at_ t.uses st.1,st.2):=by
 grind[JS,leftS,BW]
theorem NF{x:Block}{b:Nat}{st:RSd×Bool}{s:Site}(h:leftS (st.1.G b) x.ins.length s=true)(hk:s.s=true->∀t,x.ins[s.at_]?=some t->(!st.2&&t.pure)=false):JS x b st s=(st.1,s.r||(!s.s&&st.2)):=by
 grind[JS,leftS]
def U9(inn:Nat->Bool)(x:Block)(j:Nat):Bool:=(x.nexts.take j).any fun d=>inn d.toNat
theorem anyK_succ{inn:Nat->Bool}{x:Block}{j:Nat}{d:Int}(h:x.nexts[j]?=some d):U9 inn x (j+1)=(U9 inn x j||inn d.toNat):=by
 unfold U9;rw[List.take_add_one,h,List.any_append];simp
theorem fh{inn:Nat->Bool}{x:Block}{j:Nat}(h:x.nexts.length<=j):U9 inn x j=HH inn x:=by
 unfold U9 HH;rw[List.take_of_length_le h]
theorem YZ{f:BFunc}{inn:Nat->Bool}{v:Nat}{st:RSd}{k i m:Nat}{x:Block}(h:(FE f v)[k]?=some i)(hx:f.blocks[i]?=some x)(hm:(Hp f v i).length<=m):(CJ inn v x i (Kd f inn v st k) m).1=Kd f inn v st (k+1):=by
 rw[DJ hx]at hm;rw[P5 h,Ro hx,NE hm]
theorem bw{f:BFunc}{v i j:Nat}{x:Block}(hx:f.blocks[i]?=some x){s:Site}(h:(Hp f v i)[j]?=some s)(hs:s.s=true): ∃t,x.ins[s.at_]?=some t:=by
 rw[DJ hx]at h;rcases siF_get h with⟨_,_,e,_,_⟩ |⟨p,t,h1,h2,_⟩
 . grind
 grind
theorem YW{L:Nat}(hL:L<=1000000000):AM .sub (.int .i64 (L:Int)) (.int .i64 1)=some (.int .i64 (((L-0:Nat):Int)-1)):=by
 grind[AM,Bw,isShift,BJ]
theorem i7{L m kk:Nat}(h:m+kk+1=L)(hL:L<=1000000000):AM .sub (.int .i64 (kk:Int)) (.int .i64 1)=some (.int .i64 (((L-(m+1):Nat):Int)-1)):=by
 grind[AM,Bw,isShift,BJ]
theorem QId.leaveR{R b p:Nat}{us:List Int}{st:RSd}(h:QId R st)(hu: ∀u∈us,0<=u/\u<R):QId R (BW b p us st):=QId.leave (b:=b) (p:=p) (st:=⟨DP st.G b p,st.w,st.ws,st.es⟩) ⟨h.wt,h.st⟩ hu
theorem YY{f:BFunc}{v:Nat}{st:RSd}(h:(FE f v).length=0):HO f v st=st:=by
 unfold HO;rw[h];rfl
def Cm(S:CV)(i v:Nat)(l:List Site):CV:=fun i' v'=>if i'=i/\v'=v then l else S i' v'
theorem Hq(S:CV)(i v:Nat)(l:List Site):Cm S i v l i v=l:=by unfold Cm;rw[if_pos ⟨rfl,rfl⟩]
theorem HK{S:CV}{i v i' v':Nat}(l:List Site)(h: ¬(i'=i/\v'=v)):Cm S i v l i' v'=S i' v':=by unfold Cm;rw[if_neg h]
theorem Lv(S:CV)(i v:Nat):Cm S i v (S i v)=S:=funext fun a=>funext fun b=>by
 unfold Cm;split
 . grind
 . rfl
def Cg(S:CV)(i v:Nat):List Nat:=(List.range i).filter fun j=> !(S j v).isEmpty
theorem L3{S:CV}{n i v:Nat}(hi:i<n)(h: ∀j,i<j->S j v=[]):Nb S n v=Cg S i v++(if(S i v).isEmpty then []else [i]):=by
 unfold Nb Cg;have key: ∀m,(List.range (i+1+m)).filter (fun j=> !(S j v).isEmpty)=(List.range (i+1)).filter (fun j=> !(S j v).isEmpty):=fun m=>by
  induction m with
  | zero=>rfl
  | succ m ih=>
   rw[show i+1+(m+1)=(i+1+m)+1 by omega,List.range_succ,List.filter_append,ih,List.filter_cons,h (i+1+m) (by omega)]
   simp
 have:=key (n-(i+1));rw[show i+1+(n-(i+1))=n by omega]at this;rw[this,List.range_succ,List.filter_append,List.filter_cons]
 cases (S i v).isEmpty<;>rfl
theorem cy{S:CV}{i v j:Nat}(h:j∈Cg S i v):j<i:=List.mem_range.1 (List.mem_filter.1 h).1
theorem Ql{S:CV}{i v:Nat}(l:List Site)(u:Nat):Cg (Cm S i v l) i u=Cg S i u:=by
 unfold Cg;refine List.filter_congr fun j hj=>?_
 rw[HK l (fun e=>by have:=List.mem_range.1 hj;omega)]
def JH(R:Nat)(v i:Nat)(l:List Site):List AV:=[.int .i64 (i:Int),Ek (4*(v+R*i)+3+16) (l.map G8)]
def Cs(R:Nat)(S:CV)(v i:Nat):List (List AV):=(Cg S i v).map (UI R S v)
theorem lp{R v i:Nat}{S:CV}(h:0<(S i v).length):JH R v i (S i v)=UI R S v i:=by
 unfold JH UI;have:=ND (b:=4*(v+R*i)+3+16) (es:=(S i v).map G8) (k:=0) (by rw[List.length_map];exact h)
 grind
theorem Zc{R:Nat}{S:CV}{v i:Nat}(l:List Site):Cs R (Cm S i v l) v i=Cs R S v i:=by
 unfold Cs;rw[Ql];refine List.map_congr_left fun j hj=>?_
 unfold UI;rw[HK l (fun e=>by have:=cy hj;omega)]
theorem Nc{n R:Nat}{S:CV}{v i:Nat}(hi:i<n)(h: ∀j,i<j->S j v=[])(hl:0<(S i v).length):JX n R S v=Cs R S v i++[JH R v i (S i v)]:=by
 unfold JX Cs;have e:(S i v).isEmpty=false:=by
  grind
 rw[L3 hi h,e,List.map_append,lp hl];rfl
theorem XT{n R:Nat}{S:CV}{v i:Nat}(hi:i<n)(h: ∀j,i<j->S j v=[])(hl:S i v=[]):JX n R S v=Cs R S v i:=by
 unfold JX Cs;rw[L3 hi h,hl];simp
def oX(n R:Nat)(S:CV)(v i:Nat):Nat->AV:=fun u=>if u=v then .ref (4*v+2+16) ((Cg S i v).length+1) 0 ((Cg S i v).length+1)else oR n R S u
def P8(n R:Nat)(S:CV)(v i:Nat)(l:List Site):Nat->AObj:=J4 (N0 n R S) v (.row false 2 (Cs R S v i++[JH R v i l]))
def Y7(R:Nat)(S:CV)(v i:Nat)(l:List Site):Nat->AObj:=J4 (MS R S) (v+R*i) (Ie 3 (l.map G8))
theorem jb{n R:Nat}{S:CV}{v i u:Nat}(l:List Site)(h:u≠v):JX n R (Cm S i v l) u=JX n R S u:=by
 unfold JX Nb;have e:((List.range n).filter fun j=> !(Cm S i v l j u).isEmpty)=(List.range n).filter fun j=> !(S j u).isEmpty:=List.filter_congr fun j _=>by rw[HK l (fun e=>h e.2)]
 rw[e];refine List.map_congr_left fun j _=>?_
 unfold UI;rw[HK l (fun e=>h e.2)]
theorem ja{n R:Nat}{S:CV}{v i:Nat}{l:List Site}(hi:i<n)(h: ∀j,i<j->S j v=[])(hl:0<l.length):Ay (oX n R S v i) R=Ay (oR n R (Cm S i v l)) R:=CX fun u _=>by
 unfold oX oR
 by_cases hu:u=v
 . subst hu;rw[if_pos rfl,Nc hi (fun j hj=>by rw[HK l (fun e=>by omega)];exact h j hj) (by rw[Hq];exact hl),Ho];unfold Cs;rw[List.length_map,Ql]
 . rw[if_neg hu,jb l hu]
theorem cb{n R:Nat}{S:CV}{v i:Nat}{l:List Site}(hv:v<R)(hi:i<n)(h: ∀j,i<j->S j v=[])(hl:0<l.length):P8 n R S v i l=N0 n R (Cm S i v l):=by
 unfold P8;have:=Gm (k:=R) (o:=fun u=>PE 2 (JX n R S u)) (o':=fun u=>PE 2 (JX n R (Cm S i v l) u)) hv (fun c hc=>by rw[jb l hc]);refine Eq.trans ?_ this.symm;unfold N0;congr 1;rw[Nc hi (fun j hj=>by rw[HK l (fun e=>by omega)];exact h j hj) (by rw[Hq];exact hl),Hq,Zc];simp[PE,MY]
theorem R7{R:Nat}{S:CV}{v i:Nat}{l:List Site}(hv:v<R):Y7 R S v i l=MS R (Cm S i v l):=funext fun m=>by
 unfold Y7 J4 MS
 by_cases hm:m=v+R*i
 . subst hm;rw[if_pos rfl,XQ hv,XP hv,Hq]
 . rw[if_neg hm,HK l (fun e=>hm ?_)];have:=Nat.mod_add_div m R;rw[e.1,e.2]at this;exact this.symm
theorem bW{R:Nat}{S:CV}{v i:Nat}(hv:v<R):Y7 R S v i (S i v)=MS R S:=by rw[R7 hv,Lv]
theorem ca{n R:Nat}{S:CV}{v i:Nat}(hv:v<R)(hi:i<n)(h: ∀j,i<j->S j v=[])(hl:0<(S i v).length):P8 n R S v i (S i v)=N0 n R S:=by rw[cb hv hi h hl,Lv]
theorem gO{n R:Nat}{S:CV}{v i:Nat}(hi:i<n)(h: ∀j,i<j->S j v=[])(hl:0<(S i v).length):Ay (oX n R S v i) R=Ay (oR n R S) R:=by rw[ja hi h hl,Lv]
def A6(l:List Site)(p:Nat):List Site:=if(l.getLast?.map Site.at_)=some p then l else l++[⟨p,false,false⟩]
theorem Cy(l:List Site)(p:Nat):0<(A6 l p).length:=by
 grind[A6]
theorem Jz{l:List Site}{p k:Nat}{s:Site}(hk:l[k]?=some s)(hl:k+1=l.length)(h:s.at_≠p):A6 l p=l++[⟨p,false,false⟩]:=by
 grind[A6]
theorem Qs{l:List Site}{p k:Nat}{s:Site}(hk:l[k]?=some s)(hl:k+1=l.length)(h:s.at_=p):A6 l p=l:=by
 grind[A6]
theorem Qr{n R:Nat}{S:CV}{v i:Nat}(hi:i<n)(h: ∀j,i<j->S j v=[])(hl:(JX n R S v).length=0):S i v=[]:=by
 cases e:S i v with
 | nil=>rfl
 | cons a l=>
  rw[Nc hi h (by rw[e];simp)]at hl;simp at hl
theorem note_new2{n:Nat}{S:CV}{v i k j0:Nat}(hi:i<n)(h: ∀j,i<j->S j v=[])(hk:(Nb S n v)[k]?=some j0)(hl:k+1=(Nb S n v).length)(hne:j0≠i):S i v=[]:=by
 cases e:S i v with
 | nil=>rfl
 | cons a l=>
  have hs:Nb S n v=Cg S i v++[i]:=by rw[L3 hi h,e];rfl
  rw[hs]at hk hl;have:k=(Cg S i v).length:=by simp at hl;omega
  subst this;rw[List.getElem?_append_right (Nat.le_refl _)]at hk;simp at hk;exact absurd hk.symm hne
theorem cU{n:Nat}{S:CV}{v i k:Nat}(hi:i<n)(h: ∀j,i<j->S j v=[])(hk:(Nb S n v)[k]?=some i):0<(S i v).length:=(SC hk).2
theorem cR{n R:Nat}{S:CV}{v i:Nat}(hi:i<n)(h: ∀j,i<j->S j v=[])(hl:0<(S i v).length):oR n R S v= .ref (4*v+2+16) ((Cg S i v).length+1) 0 ((Cg S i v).length+1):=by
 unfold oR;rw[Nc hi h hl,Ho];unfold Cs;rw[List.length_map]
theorem Yt{es:List (List AV)}{x y:List AV}(h:WkAll x y): ∀(i:Nat) (ds ds':List AV),(es++[x])[i]?=some ds->(es++[y])[i]?=some ds'->ds'.length=ds.length/\∀(j:Nat) (a b:AV),ds[j]?=some a->ds'[j]?=some b->(a.cell1=true->b.cell1=true)/\∀H ι v,Rel H ι a v->Rel H ι b v:=fun i ds ds' h1 h2=>by
 grind[List.getElem?_append_left,Wk.refl,List.getElem?_append_right,Nq,WkAll]
theorem lf{n R:Nat}{S:CV}{v i:Nat}{es:List (List AV)}{x:List AV}(hp:es.length=(Cg S i v).length):(Ay (oR n R S) R).set (0+((v:Nat):Int).toNat) [Ek (4*v+2+16) (es++[x])]=Ay (oX n R S v i) R:=by
 rw[Nat.zero_add,Int.toNat_natCast,HD];refine CX fun u _=>?_
 unfold oX
 by_cases hu:u=v
 . subst hu;rw[if_pos rfl,if_pos rfl,Ho,hp]
 . rw[if_neg hu,if_neg hu]
theorem Ey(R:Nat)(S:CV)(v i:Nat):(Cs R S v i).length=(Cg S i v).length:=by simp[Cs]
theorem Zb(S:CV)(i v:Nat):(Cg S i v).length<=i:=by
 unfold Cg
 grind
theorem Zi(l:List Site)(p:Nat):(A6 l p).length<=l.length+1:=by
 grind[A6]
theorem FL{n R v i:Nat}{S:CV}{l:List Site}{r0 r1 r3:Nat->AObj}:F4 r0 r1 (P8 n R S v i l) r3 (4*v+2)= .row false 2 (Cs R S v i++[JH R v i l]):=by
 rw[lS];unfold P8 J4;rw[if_pos rfl]
theorem kQ{R v i:Nat}{S:CV}{l:List Site}{r0 r1 r2:Nat->AObj}:F4 r0 r1 r2 (Y7 R S v i l) (4*(v+R*i)+3)=Ie 3 (l.map G8):=by
 rw[lR];unfold Y7 J4;rw[if_pos rfl]
theorem cx{R v i:Nat}{S:CV}{l:List Site}:(Cs R S v i++[JH R v i l])[(Cg S i v).length]?=some (JH R v i l):=by
 rw[<-Ey R S v i,List.getElem?_append_right (Nat.le_refl _)];simp
theorem kR{n R v i:Nat}{S:CV}{l:List Site}{r0 r1 r3:Nat->AObj}(x:Nat):F4 r0 r1 (P8 n R S v i l) r3 x=if x=4*v+2 then .row false 2 (Cs R S v i++[JH R v i l])else F4 r0 r1 (N0 n R S) r3 x:=jq _ _ _ _ _ _ _
theorem Y8{n R v i:Nat}{S:CV}{l l':List Site}:P8 n R S v i l'=J4 (P8 n R S v i l) v (.row false 2 (Cs R S v i++[JH R v i l'])):=funext fun c=>by
 unfold P8 J4;split<;>rfl
theorem cw{R v i:Nat}{S:CV}{l:List Site}{y:List AV}:(Cs R S v i++[JH R v i l]).set (Cg S i v).length y=Cs R S v i++[y]:=by
 rw[<-Ey R S v i,List.set_append_right _ _ (Nat.le_refl _)];simp
theorem M0{l:List Site}(h:0<l.length):Ie 3 (l.map G8)= .row true 3 (l.map G8):=RR (k:=0) (by rw[List.length_map];exact h)
theorem V3{n R v:Nat}{S:CV}{r0 r1 r3:Nat->AObj}(hv:v<R):F4 r0 r1 (N0 n R S) r3 (4*v+2)=PE 2 (JX n R S v):=(lS _ _ _ _ _).trans (Ex hv)
theorem P7{R v i:Nat}{S:CV}{r0 r1 r2:Nat->AObj}(hv:v<R):F4 r0 r1 r2 (MS R S) (4*(v+R*i)+3)=Ie 3 ((S i v).map G8):=(lR _ _ _ _ _).trans (bY hv)
theorem P0{L:Nat}(h:0<L)(hL:L<=1000000000):AM .sub (.int .i64 (L:Int)) (.int .i64 1)=some (.int .i64 ((L-1:Nat):Int)):=by
 grind[AM,Bw,isShift,BJ]
theorem SG{L:Nat}(h:(((L:Nat):Int)==0)=false):0<L:=by
 grind
theorem Eo{L:Nat}(h:(((L:Nat):Int)==0)=true):L=0:=by
 grind
theorem M3{α:Type}{l:List α}(h:l.length=0):l=[]:=List.length_eq_zero_iff.1 h
theorem kA(l:List Site): ∀cs∈l.map G8,cs.length=3:=fun cs hc=>by
 grind[G8]
theorem Ng{h:Ac}{L:List AObj}{F:Nat->AObj}(hL:L.length=6)(h0:h 0=some .free)(h1:h 1=some .free)(hl:LowS h 2 L)(hh: ∀x,h (x+16)=some (F x))(hf: ∀c,8<=c->c<16->h c=some .free):HSub (DH L F) h:=fun c o ho=>by
 cases e:kD c with
 | true=>rw[Ye hL hl hh e];exact ho
 | false=>
  rcases Ux e with rfl | rfl | hc
  . have:some AObj.free=some o:=ho;rw[h0];exact this
  . have:some AObj.free=some o:=ho;rw[h1];exact this
  . have e2:DH L F c=some .free:=by
     show HA (nb (.free:: .free::L)) F c=_;rw[IY _ _ (by omega)];show some (Vo (.free:: .free::L) c)=_;rw[nth_out (by show L.length+1+1<=c;omega)]
    rw[e2]at ho;rw[hf c hc.1 hc.2];exact ho
theorem Ws(h:Ac)(z:Nat)(o1 o2:AObj):hput (hput h z o1) z o2=hput h z o2:=funext fun c=>by
 by_cases hc:c=z
 . subst hc;rw[Aq,Aq]
 . rw[AL _ _ hc,AL _ _ hc,AL _ _ hc]
theorem gt{n R v i:Nat}{S:CV}{r0 r1 r3:Nat->AObj}(hS0:S i v=[])(x:Nat):F4 r0 r1 (P8 n R S v i (S i v)) r3 x=if x=4*v+2 then .row false 2 (Cs R S v i++[[.int .i64 (i:Int),Ek (4*(v+R*i)+3+16) []]])else F4 r0 r1 (N0 n R S) r3 x:=by
 rw[kR,hS0];rfl
theorem bZ{n R v i:Nat}{S:CV}{l l':List Site}{r0 r1 r3:Nat->AObj}{y:List AV}(hy:y=JH R v i l')(x:Nat):F4 r0 r1 (P8 n R S v i l') r3 x=if x=4*v+2 then .row false 2 ((Cs R S v i++[JH R v i l]).set (0+(((Cg S i v).length:Nat):Int).toNat) y)else F4 r0 r1 (P8 n R S v i l) r3 x:=by
 rw[Y8 (l:=l),jq,Nat.zero_add,Int.toNat_natCast,cw,hy]
theorem bV{R v i:Nat}{S:CV}{l:List Site}{s:Site}{r0 r1 r2:Nat->AObj}(x:Nat):F4 r0 r1 r2 (Y7 R S v i (l++[s])) x=if x=4*(v+R*i)+3 then Ie 3 (l.map G8++[G8 s])else F4 r0 r1 r2 (MS R S) x:=by
 unfold Y7;rw[jp,List.map_append];rfl
theorem dP{R v i:Nat}{l:List Site}{s:Site}:[AV.int .i64 (i:Int),Ek (4*(v+R*i)+3+16) (l.map G8++[G8 s])]=JH R v i (l++[s]):=by
 unfold JH;rw[List.map_append];rfl
theorem Tw(z:Bool)(v:Nat)(t:Tac): ∀(l:List Tac) (j:Nat),GM false v (l++[t]) j=GM false v l j++(bif t.uses.contains (v:Int)||t.sets==(v:Int)then [⟨j+l.length,t.uses.contains (v:Int),t.sets==(v:Int)⟩]else [])
 | [],j=>by
  rw[List.nil_append,EC]
  cases t.uses.contains (v:Int)||t.sets==(v:Int)<;>simp[GM]
 | u::l,j=>by
  rw[List.cons_append,EC,EC,Tw z v t l (j+1)];have:j+1+l.length=j+(u::l).length:=by rw[List.length_cons];omega
  rw[this]
  cases u.uses.contains (v:Int)||u.sets==(v:Int)<;>simp
theorem Xn(z:Bool)(v:Nat): ∀(l:List Tac) (j:Nat),GM z v l j=GM false v l j++(bif z then [⟨j+l.length,true,false⟩]else [])
 | [],j=>by cases z<;>simp[GM]
 | u::l,j=>by
  rw[EC,EC,Xn z v l (j+1)];have:j+1+l.length=j+(u::l).length:=by rw[List.length_cons];omega
  rw[this]
  cases u.uses.contains (v:Int)||u.sets==(v:Int)<;>simp
def PK(x:Block)(v j:Nat):List Site:=GM false v (x.ins.take j) 0
theorem Tv(x:Block)(v:Nat):PK x v 0=[]:=by simp[PK,GM]
theorem NG{x:Block}{v j:Nat}{t:Tac}(h:x.ins[j]?=some t):PK x v (j+1)=PK x v j++(bif t.uses.contains (v:Int)||t.sets==(v:Int)then [⟨j,t.uses.contains (v:Int),t.sets==(v:Int)⟩]else []):=by
 unfold PK;have hj:=(List.getElem?_eq_some_iff.1 h).1;have e:x.ins.take (j+1)=x.ins.take j++[t]:=by rw[List.take_add_one,h];rfl
 rw[e,Tw false,List.length_take,Nat.min_eq_left (by omega),Nat.zero_add]
theorem Xl(x:Block)(v:Nat):A3 x v=PK x v x.ins.length++(bif Df x v then [⟨x.ins.length,true,false⟩]else []):=by
 unfold A3 PK;rw[Xn,List.take_length,Nat.zero_add]
theorem bx{x:Block}{v j:Nat}: ∀s∈PK x v j,s.at_<j:=fun s hs=>by
 unfold PK at hs;obtain⟨k,hk⟩:=List.mem_iff_getElem?.1 hs;rcases siF_get hk with⟨_,_,_,e,_⟩ |⟨p,t,h1,h2,_⟩
 . cases e
 . have:=(List.getElem?_eq_some_iff.1 h2).1;rw[List.length_take]at this;omega
theorem noteL_fresh{l:List Site}{p:Nat}(h: ∀s∈l,s.at_<p):A6 l p=l++[⟨p,false,false⟩]:=by
 unfold A6
 cases e:l.getLast? with
 | none=>simp
 | some s=>
  have:=h s (List.mem_of_getLast? e);rw[if_neg (by simp;omega)]
theorem noteL_there{l:List Site}{p:Nat}{r s:Bool}:A6 (l++[⟨p,r,s⟩]) p=l++[⟨p,r,s⟩]:=by
 unfold A6;rw[List.getLast?_concat];simp
def C7(f:BFunc)(i:Nat)(cur:Nat->List Site):CV:=fun i' v=>if i'<i then Hp f v i' else if i'=i then cur v else []
theorem N7(f:BFunc)(i:Nat)(cur:Nat->List Site)(v:Nat): ∀j,i<j->C7 f i cur j v=[]:=fun j hj=>by
 unfold C7;rw[if_neg (by omega),if_neg (by omega)]
theorem Sd(f:BFunc)(i:Nat)(cur:Nat->List Site)(v:Nat):C7 f i cur i v=cur v:=by
 unfold C7;rw[if_neg (Nat.lt_irrefl i),if_pos rfl]
theorem Sc(f:BFunc)(i:Nat)(cur:Nat->List Site)(v:Nat)(l:List Site):Cm (C7 f i cur) i v l=C7 f i (fun u=>if u=v then l else cur u):=funext fun a=>funext fun u=>by
 unfold Cm C7
 by_cases ha:a=i
 . subst ha;rw[if_neg (Nat.lt_irrefl a),if_pos rfl,if_neg (Nat.lt_irrefl a),if_pos rfl]
   by_cases hu:u=v
   . rw[if_pos ⟨rfl,hu⟩];exact(if_pos hu).symm
   . rw[if_neg (fun e=>hu e.2)];exact(if_neg hu).symm
 . rw[if_neg (fun e=>ha e.1)]
   by_cases h2:a<i
   . rw[if_pos h2,if_pos h2]
   . rw[if_neg h2,if_neg h2,if_neg ha,if_neg ha]
theorem T2{f:BFunc}{i:Nat}{x:Block}(hx:f.blocks[i]?=some x){cur:Nat->List Site}(h: ∀v,cur v=A3 x v):C7 f i cur=C7 f (i+1) (fun _=>[]):=funext fun a=>funext fun u=>by
 unfold C7
 by_cases ha:a=i
 . subst ha;rw[if_neg (Nat.lt_irrefl a),if_pos rfl,if_pos (Nat.lt_succ_self a),h,DJ hx]
 . by_cases h2:a<i
   . rw[if_pos h2,if_pos (by omega)]
   . rw[if_neg h2,if_neg ha,if_neg (by omega)];split<;>rfl
theorem gF{f:BFunc}:C7 f f.blocks.length (fun _=>[])=SB f:=funext fun a=>funext fun u=>by
 unfold C7
 by_cases h:a<f.blocks.length
 . rw[if_pos h]
 . rw[if_neg h];have:f.blocks[a]?=none:=List.getElem?_eq_none_iff.2 (by omega);have e:Hp f u a=[]:=by unfold Hp;rw[this];rfl
   show _=Hp f u a;rw[e];split<;>rfl
theorem Jt{f:BFunc}{i:Nat}{cur cur':Nat->List Site}(h: ∀v,cur v=cur' v):C7 f i cur=C7 f i cur':=by rw[funext h]
def Bu(x:Block)(j:Nat)(us:List Int)(v:Nat):List Site:=PK x v j++(bif us.contains (v:Int)then [⟨j,true,false⟩]else [])
theorem HC(x:Block)(j v:Nat):Bu x j [] v=PK x v j:=by simp[Bu]
def flagR(l:List Site):List Site:=l.dropLast++(l.getLast?.map fun s=>(⟨s.at_,true,s.s⟩:Site)).toList
def flagS(l:List Site):List Site:=l.dropLast++(l.getLast?.map fun s=>(⟨s.at_,s.r,true⟩:Site)).toList
theorem H3(l:List Site)(s:Site):flagR (l++[s])=l++[⟨s.at_,true,s.s⟩]:=by
 unfold flagR;rw[List.dropLast_concat,List.getLast?_concat];rfl
theorem Km(l:List Site)(s:Site):flagS (l++[s])=l++[⟨s.at_,s.r,true⟩]:=by
 unfold flagS;rw[List.dropLast_concat,List.getLast?_concat];rfl
theorem jc{x:Block}{j v:Nat}{us:List Int}: ∃r,A6 (Bu x j us v) j=PK x v j++[⟨j,r,false⟩]/\r=us.contains (v:Int):=by
 unfold Bu
 cases e:us.contains (v:Int)with
 | true=>exact⟨true,noteL_there,rfl⟩
 | false=>
  refine⟨false,?_,rfl⟩;rw[cond_false,List.append_nil];exact noteL_fresh bx
theorem use_noted{x:Block}{j:Nat}{us:List Int}{k:Nat}{u:Int}(h:us[k]?=some u)(h0:0<=u)(v:Nat):(if v=u.toNat then flagR (A6 (Bu x j (us.take k) u.toNat) j)else Bu x j (us.take k) v)=Bu x j (us.take (k+1)) v:=by
 have e:us.take (k+1)=us.take k++[u]:=by rw[List.take_add_one,h];rfl
 by_cases hv:v=u.toNat
 . rw[if_pos hv];obtain⟨r,h1,_⟩:=jc (x:=x) (j:=j) (v:=u.toNat) (us:=us.take k);rw[h1,H3];unfold Bu;have:(us.take (k+1)).contains (v:Int)=true:=by
    rw[List.contains_iff_mem,e,List.mem_append,List.mem_singleton];right;omega
   rw[this,hv];rfl
 . rw[if_neg hv];unfold Bu;have:(us.take (k+1)).contains (v:Int)=(us.take k).contains (v:Int):=by
    rw[Bool.eq_iff_iff,List.contains_iff_mem,List.contains_iff_mem,e,List.mem_append,List.mem_singleton];exact⟨fun h=>h.elim id fun e=>absurd (show v=u.toNat by omega) hv,.inl⟩
   rw[this]
theorem YP{x:Block}{j:Nat}{t:Tac}(ht:x.ins[j]?=some t)(h0:0<=t.sets)(v:Nat):(if v=t.sets.toNat then flagS (A6 (Bu x j t.uses t.sets.toNat) j)else Bu x j t.uses v)=PK x v (j+1):=by
 rw[NG ht]
 by_cases hv:v=t.sets.toNat
 . rw[if_pos hv];obtain⟨r,h1,h2⟩:=jc (x:=x) (j:=j) (v:=t.sets.toNat) (us:=t.uses);rw[h1,Km];have e:(t.sets==(v:Int))=true:=by rw[beq_iff_eq];omega
   rw[e,Bool.or_true,cond_true,h2,hv]
 . rw[if_neg hv];have e:(t.sets==(v:Int))=false:=by rw[beq_eq_false_iff_ne];omega
   rw[e,Bool.or_false];unfold Bu
   cases t.uses.contains (v:Int)<;>rfl
theorem T9{x:Block}{j:Nat}{t:Tac}(ht:x.ins[j]?=some t)(h0: ¬0<=t.sets)(v:Nat):Bu x j t.uses v=PK x v (j+1):=by
 rw[NG ht];have e:(t.sets==(v:Int))=false:=by rw[beq_eq_false_iff_ne];omega
 rw[e,Bool.or_false];unfold Bu
 cases t.uses.contains (v:Int)<;>rfl
theorem ZN{x:Block}(h:x.fin=2)(h0:0<=x.v)(v:Nat):(if v=x.v.toNat then flagR (A6 (PK x x.v.toNat x.ins.length) x.ins.length)else PK x v x.ins.length)=A3 x v:=by
 rw[Xl]
 by_cases hv:v=x.v.toNat
 . rw[if_pos hv,noteL_fresh bx,H3];have:Df x v=true:=by unfold Df;rw[h];simp;omega
   rw[this,hv];rfl
 . rw[if_neg hv];have:Df x v=false:=by
    unfold Df;have:(x.v==(v:Int))=false:=by rw[beq_eq_false_iff_ne];omega
    rw[this,Bool.and_false]
   rw[this,cond_false,List.append_nil]
theorem Ua{x:Block}(h: ¬x.fin=2)(v:Nat):PK x v x.ins.length=A3 x v:=by
 rw[Xl];have:Df x v=false:=by unfold Df;simp[h]
 rw[this,cond_false,List.append_nil]
theorem lM{n d k:Nat}{A A':Nat->List Nat}(h: ∀c,A' c=if c=d then A c++[k]else A c):(Ay (aR A) n).set (0+d) [Ek (4*d+0+16) ((A d).map BH++[BH k])]=Ay (aR A') n:=by
 grind[HD,CX,aR,Ay,Ek,BH]
theorem gC{n d k:Nat}{A A':Nat->List Nat}{r1 r2 r3:Nat->AObj}(hd:d<n)(h: ∀c,A' c=if c=d then A c++[k]else A c)(x:Nat):F4 (R8 n A') r1 r2 r3 x=if x=4*d+0 then Ie 1 ((A d).map BH++[BH k])else F4 (R8 n A) r1 r2 r3 x:=by
 have e:R8 n A'=J4 (R8 n A) d (Ie 1 ((A' d).map BH)):=Gm hd fun c hc=>by rw[h,if_neg hc]
 grind[qR,F4,R8,Ie,BH]
theorem Qa{n:Nat}{A A':Nat->List Nat}(h: ∀c,A c=A' c):R8 n A=R8 n A':=by rw[funext h]
theorem qm{n:Nat}{A:Nat->List Nat}{r1 r2 r3:Nat->AObj}{b:Nat}(h:b<n):F4 (R8 n A) r1 r2 r3 (4*b+0)=Ie 1 ((A b).map BH):=(qT _ _ _ _ _).trans (Ex h)
abbrev G0:GG:=fun _ _=>false
def S0:CV:=fun _ _=>[]
def gK(f:BFunc)(k:Nat):Nat->AV:=fun b=>if b<k then gR f b else .nil
theorem il(f:BFunc)(n:Nat):List.replicate n [AV.nil]=Ay (gK f 0) n:=by
 grind[HE,CX,gK,Ay]
theorem lr(f:BFunc):Ay (gK f f.blocks.length) f.blocks.length=Ay (gR f) f.blocks.length:=CX fun b hb=>by
 grind[gK,Ay,gR]
theorem lq{f:BFunc}{n k:Nat}{m:Nat}(hm:Gy f k=m):(Ay (gK f k) n).set (0+((k:Nat):Int).toNat) [.ref (4*k+1+16) m 0 m]=Ay (gK f (k+1)) n:=by
 rw[Nat.zero_add,Int.toNat_natCast,HD]
 grind[CX,gK,gR,Gy,Ay]
theorem D0{p:Nat->Bool}(hp: ∀x,p (x+16)=true)(f:BFunc)(k b:Nat):(gK f k b).avoid p=true:=by
 unfold gK;split
 . exact BZ hp f b
 . rfl
theorem gB{f:BFunc}{k:Nat}{G:GG}{r0 r2 r3:Nat->AObj}:F4 r0 (PF f k G) r2 r3 (4*k+1)= .free:=(qS _ _ _ _ _).trans (J9 (Nat.le_refl _))
theorem cn{f:BFunc}{k m:Nat}{r0 r2 r3:Nat->AObj}(hm:Gy f k=m)(x:Nat):F4 r0 (PF f (k+1) G0) r2 r3 x=if x=4*k+1 then .row true 1 (List.replicate m [AV.bool false])else F4 r0 (PF f k G0) r2 r3 x:=by
 unfold PF;rw[IA,jr,hm];have:bC m (G0 k)=List.replicate m [AV.bool false]:=by
  show Ay (fun _=>AV.bool false) m=_;exact(HE _ _).symm
 rw[this]
theorem fd(R:Nat):List.replicate R [AV.bool false]=bC R (fun b=>decide (b<0)):=by
 show _=Ay (fun b=>AV.bool (decide (b<0))) R;rw[HE]
 grind
theorem dL(n v:Nat):Nb S0 n v=[]:=by
 unfold Nb;exact List.filter_eq_nil_iff.2 fun a _=>by simp[S0]
theorem UG(n R v:Nat):JX n R S0 v=[]:=by unfold JX;rw[dL];rfl
theorem gP(n R v:Nat):oR n R S0 v=Ek (4*v+2+16) []:=by unfold oR;rw[UG]
theorem F4_start{f:BFunc}{n R x:Nat}:F4 (R8 n (fun _=>[])) (PF f 0 G0) (N0 n R S0) (MS R S0) x= .free:=by
 have e0: ∀b,R8 n (fun _=>[]) b= .free:=fun b=>by unfold R8 CK;split<;>rfl
 have e1: ∀b,PF f 0 G0 b= .free:=fun b=>by unfold PF CK;rw[if_neg (Nat.not_lt_zero b)]
 have e2: ∀b,N0 n R S0 b= .free:=fun b=>by unfold N0 CK;dsimp only;rw[UG];split<;>rfl
 have e3: ∀b,MS R S0 b= .free:=fun b=>rfl
 unfold F4;split
 . exact e0 _
 . split
   . exact e1 _
   . split
     . exact e2 _
     . exact e3 _
theorem dM{S S':CV}{n v:Nat}(h: ∀i,(S i v).length=(S' i v).length):Nb S n v=Nb S' n v:=by
 unfold Nb
 grind
theorem UH{S S':CV}{n R v:Nat}(h: ∀i,(S i v).length=(S' i v).length):JX n R S v=JX n R S' v:=by
 unfold JX;rw[dM h];refine List.map_congr_left fun i _=>?_
 unfold UI;rw[h i]
theorem gQ{S S':CV}{n R:Nat}(h: ∀v i,(S i v).length=(S' i v).length):Ay (oR n R S) R=Ay (oR n R S') R:=CX fun v _=>by
 unfold oR;rw[UH (h v)]
theorem cd{S S':CV}{n R:Nat}(h: ∀v i,(S i v).length=(S' i v).length):N0 n R S=N0 n R S':=by
 unfold N0;congr 1;exact funext fun v=>by rw[UH (h v)]
theorem P1{S:CV}{i v:Nat}{l l':List Site}(h:l'.length=l.length): ∀v' i',(Cm S i v l i' v').length=(Cm S i v l' i' v').length:=fun v' i'=>by
 unfold Cm;split
 . exact h.symm
 . rfl
theorem Gd{l:List Site}:(flagR l).length=l.length:=by
 grind[H3,flagR]
theorem L5{l:List Site}:(flagS l).length=l.length:=by
 grind[Km,flagS]
theorem ge{l:List Site}(h:0<l.length): ∃l' s,l=l'++[s]:=by
 rcases List.eq_nil_or_concat l with rfl |⟨l',s,rfl⟩
 . simp at h
 grind
theorem si_last{l:List Site}(h:0<l.length): ∃s,l[l.length-1]?=some s/\(l.map G8).set (l.length-1) [.int .i64 (s.at_:Int),.bool true,.bool s.s]=(flagR l).map G8/\(l.map G8).set (l.length-1) [.int .i64 (s.at_:Int),.bool s.r,.bool true]=(flagS l).map G8:=by
 grind[ge,List.getElem?_append_right,H3,G8,Km,flagR,flagS]
theorem bX{R v i:Nat}{S:CV}{l l':List Site}{r0 r1 r2:Nat->AObj}{q:List (List AV)}(hv:v<R)(hl:0<l'.length)(hq:q=l'.map G8)(x:Nat):F4 r0 r1 r2 (MS R (Cm S i v l')) x=if x=4*(v+R*i)+3 then .row true 3 q else F4 r0 r1 r2 (MS R (Cm S i v l)) x:=by
 have e:MS R (Cm S i v l')=J4 (MS R (Cm S i v l)) (v+R*i) (.row true 3 q):=by
  rw[<-R7 hv,<-R7 hv];refine funext fun m=>?_
  unfold Y7 J4;split
  . rw[hq,M0 hl]
  . rfl
 rw[e,jp]
theorem OU{R v i:Nat}{S:CV}{l:List Site}{r0 r1 r2:Nat->AObj}(hv:v<R)(hl:0<l.length):F4 r0 r1 r2 (MS R (Cm S i v l)) (4*(v+R*i)+3)= .row true 3 (l.map G8):=by
 rw[P7 hv,Hq,M0 hl]
theorem Xk(x:Block)(v:Nat): ∀j,(PK x v j).length<=j
 | 0=>by rw[Tv];exact Nat.le_refl _
 | j+1=>by
  have ih:=Xk x v j
  cases e:x.ins[j]? with
  | none=>
   have:PK x v (j+1)=PK x v j:=by
    have:=List.getElem?_eq_none_iff.1 e;unfold PK;rw[List.take_of_length_le (by omega),List.take_of_length_le this]
   rw[this];omega
  | some t=>
   rw[NG e,List.length_append]
   cases t.uses.contains (v:Int)||t.sets==(v:Int)<;>simp<;>omega
theorem eG(x:Block)(j:Nat)(us:List Int)(v:Nat):(Bu x j us v).length<=j+1:=by
 grind[Bu,Xk,List.length_append]
theorem Za(f:BFunc):S0=C7 f 0 (fun _=>[]):=funext fun a=>funext fun u=>by
 grind[C7,S0]
theorem Qf(f:BFunc)(k:Nat)(x:Block):C7 f k (fun _=>[])=C7 f k (Bu x 0 []):=Jt fun v=>by rw[HC,Tv]
abbrev lW(f:BFunc)(R:Nat):List AV:=[.int .i64 f.regs,B8 f.blocks,A1 f.nexts,.ref 3 f.blocks.length 0 f.blocks.length,.ref 4 R 0 R,.ref 5 f.blocks.length 0 f.blocks.length,.nil,.nil]
abbrev fv(f:BFunc)(R:Nat)(S:CV)(k:Nat):List AObj:=[.row false 8 [lW f R],.row false 1 (Ay (aR (Aw f)) f.blocks.length),.row false 1 (Ay (oR f.blocks.length R S) R),.row false 1 (Ay (gK f k) f.blocks.length),.free,.free]
abbrev aF(f:BFunc)(R:Nat)(S:CV)(k:Nat):Nat->AObj:=F4 (R8 f.blocks.length (Aw f)) (PF f k G0) (N0 f.blocks.length R S) (MS R S)
theorem Gg(f:BFunc)(R:Nat)(S:CV)(k:Nat): ∀o∈fv f R S k,o.avoid kD=true:=fun o ho=>by
 simp only[fv,List.mem_cons,List.not_mem_nil,or_false]at ho;rcases ho with rfl | rfl | rfl | rfl | rfl | rfl
 . rfl
 . exact Ad (fun b _=>Bf CF _ _)
 . exact Ad (fun b _=>A4 CF _ _ _ _)
 . exact Ad (fun b _=>D0 CF _ _ _)
 . rfl
 . rfl
theorem De{p:Nat->Bool}(hp: ∀x,p (x+16)=true)(f:BFunc)(R:Nat)(S:CV)(k x:Nat):(aF f R S k x).avoid p=true:=Lm (fun _=>Jr _) (fun _=>Jq _) (fun _=>Jp hp _) (fun _=>Jo _) x
theorem SY{f:BFunc}{R k v i:Nat}{S S2:CV}{l l':List Site}{q:List (List AV)}(hv:v<R)(hl:l'.length=l.length)(h0:0<l.length)(hS:S2=Cm S i v l')(hq:q=l'.map G8)(x:Nat):
 aF f R S2 k x=if x=4*(v+R*i)+3 then .row true 3 q else aF f R (Cm S i v l) k x:=by
 subst hS;have e:N0 f.blocks.length R (Cm S i v l')=N0 f.blocks.length R (Cm S i v l):=cd (P1 hl.symm);show F4 _ _ (N0 f.blocks.length R (Cm S i v l')) _ x=_;rw[e];exact bX hv (by omega) hq x
theorem JN{n R v i:Nat}{S S2:CV}{l l':List Site}(hl:l'.length=l.length)(hS:S2=Cm S i v l'):Ay (oR n R (Cm S i v l)) R=Ay (oR n R S2) R:=by
 subst hS;exact gQ (P1 hl)
theorem Wa{f:BFunc}{k:Nat}{x:Block}{j:Nat}{us:List Int}{q:Nat}{u:Int}(h:us[q]?=some u)(h0:0<=u):C7 f k (Bu x j (us.take (q+1)))=Cm (C7 f k (Bu x j (us.take q))) k u.toNat (flagR (A6 (C7 f k (Bu x j (us.take q)) k u.toNat) j)):=by
 rw[Sd,Sc];exact Jt fun v=>(use_noted h h0 v).symm
theorem Wb{f:BFunc}{k:Nat}{x:Block}{j:Nat}{t:Tac}(ht:x.ins[j]?=some t)(h0:0<=t.sets):C7 f k (Bu x (j+1) [])=Cm (C7 f k (Bu x j t.uses)) k t.sets.toNat (flagS (A6 (C7 f k (Bu x j t.uses) k t.sets.toNat) j)):=by
 rw[Sd,Sc]
 grind[Jt,HC,YP,C7,Bu,Cm,flagS,A6]
theorem T0{f:BFunc}{k:Nat}{x:Block}{j:Nat}{t:Tac}(ht:x.ins[j]?=some t)(h0: ¬0<=t.sets):C7 f k (Bu x j t.uses)=C7 f k (Bu x (j+1) []):=Jt fun v=>by
 rw[HC];exact T9 ht h0 v
theorem Wd{f:BFunc}{k:Nat}{x:Block}(hx:f.blocks[k]?=some x)(h:x.fin=2)(h0:0<=x.v):C7 f (k+1) (fun _=>[])=Cm (C7 f k (Bu x x.ins.length [])) k x.v.toNat (flagR (A6 (C7 f k (Bu x x.ins.length []) k x.v.toNat) x.ins.length)):=by
 rw[Sd,Sc,HC]
 grind[T2,HC,ZN,C7,Cm,Bu,flagR,A6]
theorem T1{f:BFunc}{k:Nat}{x:Block}(hx:f.blocks[k]?=some x)(h: ¬x.fin=2):C7 f k (Bu x x.ins.length [])=C7 f (k+1) (fun _=>[]):=T2 hx fun v=>by rw[HC];exact Ua h v
theorem Wc{f:BFunc}{k:Nat}{x:Block}{j:Nat}{us:List Int}{v:Nat}(hj:j<=100000):(C7 f k (Bu x j us) k v).length<=1000000:=by
 grind[Sd,eG,C7,Bu]
section
variable {P : Program} {o : Oper} {e : Av} {h : Ac}
def KM(κ:Nat->Bool)(h g:Ac):Ac:=fun c=>bif κ c then g c else h c
theorem IE{κ:Nat->Bool}{h g:Ac}{c:Nat}(hc:κ c=true):KM κ h g c=g c:=by unfold KM;rw[hc];rfl
theorem Xy{κ:Nat->Bool}{h g:Ac}{c:Nat}(hc:κ c=false):KM κ h g c=h c:=by unfold KM;rw[hc];rfl
theorem TV{κ:Nat->Bool}{W h:Ac}(hH: ∀b,κ b=true->h b=W b):HSub (KM κ hNone W) h:=fun c o ho=>by
 cases e:κ c with
 | true=>rw[IE e]at ho;rw[hH c e];exact ho
 | false=>rw[Xy e]at ho;cases ho
theorem OQ{κ:Nat->Bool}{W h:Ac}(hH: ∀b,κ b=true->h b=W b)(hN: ∀b,κ b=false->W b=some .free):En h κ=W:=funext fun b=>by
 unfold En
 cases e:κ b with
 | true=>rw[cond_true];exact hH b e
 | false=>rw[cond_false];exact(hN b e).symm
theorem cO{f:FuncId}{fn:Func}{args:Array Operand}{tys:Array TypeId}{xs:List AV}{r:AV}{W:Ac}(κ:Nat->Bool)(ho:o.op= .call {callee:=.value (.func f),args:=args,argTypes:=tys})(hf:P.funcs[f]?=some fn)(hnm:(fn.name== "runtime.NumGoroutine")=false)(hb:fn.body.isSome=true)
 (hx:AX e args.toList=some xs) (hxa:xs.all (AV.avoid κ)=true) (hH: ∀b,κ b=true->h b=W b) (hA: ∀b,κ b=true->∃q,W b=some q/\q.avoid κ=true) (hN: ∀b,κ b=false->W b=some .free) (hra:r.avoid κ=true)
 (hcall:ACall P f xs W (fun r' h'=>r'=r/\HSub (KM κ hNone W) h')):MM P o e h h r:=
 KR (hw:=KM κ hNone W) κ ho hf hnm hb hx hxa (fun b hb=>by rw[hH b hb];exact hA b hb) (OQ hH hN) (fun _ _=>rfl)
  (fun b hb=>by obtain⟨q,q1,q2⟩:=hA b hb;exact⟨q,(IE hb).trans q1,(hH b hb).trans q1,q2⟩) hra hcall
theorem cN{f:FuncId}{fn:Func}{args:Array Operand}{tys:Array TypeId}{xs:List AV}{r:AV}{W W':Ac}(κ:Nat->Bool)(ho:o.op= .call {callee:=.value (.func f),args:=args,argTypes:=tys})(hf:P.funcs[f]?=some fn)(hnm:(fn.name== "runtime.NumGoroutine")=false)(hb:fn.body.isSome=true)
 (hx:AX e args.toList=some xs) (hxa:xs.all (AV.avoid κ)=true) (hH: ∀b,κ b=true->h b=W b) (hA: ∀b,κ b=true->∃q,W b=some q/\q.avoid κ=true) (hN: ∀b,κ b=false->W b=some .free) (hA': ∀b,κ b=true->∃q,W' b=some q/\q.avoid κ=true) (hra:r.avoid κ=true)
 (hcall:ACall P f xs W (fun r' h'=>r'=r/\HSub (KM κ hNone W') h')):MM P o e h (KM κ h W') r:=
 KR (hw:=KM κ hNone W') κ ho hf hnm hb hx hxa (fun b hb=>by rw[hH b hb];exact hA b hb) (OQ hH hN) (fun _ hb=>Xy hb)
  (fun b hb=>by obtain⟨q,q1,q2⟩:=hA' b hb;exact⟨q,(IE hb).trans q1,(IE hb).trans q1,q2⟩) hra hcall
theorem cQ{f:FuncId}{fn:Func}{x:Operand}{args:Array Operand}{tys:Array TypeId}{fs xs cs:List AV}{r:AV}{hc hw hn:Ac}(κ:Nat->Bool)(ho:o.op= .call {callee:=.value x,args:=args,argTypes:=tys})(hfn:Al e x=some (.fn (.func f) fs cs))(hf:P.funcs[f]?=some fn)(hnm:(fn.name== "runtime.NumGoroutine")=false)(hb:fn.body.isSome=true)
 (hx:AX e args.toList=some xs) (hxa:(fs++xs++cs).all (AV.avoid κ)=true) (hL: ∀b,κ b=true->∃q,h b=some q/\q.avoid κ=true) (hres':En h κ=hc) (hW: ∀b,κ b=false->hn b=h b)
 (hk: ∀b,κ b=true->∃q,hw b=some q/\hn b=some q/\q.avoid κ=true) (hra:r.avoid κ=true)
 (hcall:ACall P f (fs++xs++cs) hc (fun r' h'=>r'=r/\HSub hw h')):MM P o e h hn r:=by
 intro H ι a w n Q hs;have hvf:=Am hs hfn;obtain⟨us,vs,hve,k1,k2,k3,k4⟩:=hvf.fn_inv;have hraa:=Cv (Cv ⟨k1,k3⟩ (Cc hs hx)) ⟨k2,k4⟩;have hra':RelAll H (lcut ι κ) (fs++xs++cs) (us++args.map a.eval++vs):=⟨hraa.1,fun j x v h1 h2=>Ee (hraa.2 j x v h1 h2) (ES hxa h1)⟩;have hrc:HeapRel H (lcut ι κ) (En h κ) w:=by
  exact mM
 have hcalls:=hcall H (lcut ι κ) w _ hra' (hres'▸hrc);have hexec:(execOp a.eval o).run P w= .ok (.enter f (us++args.map a.eval++vs)) w:=by
  simp only[execOp,ho,resolve,hve,Deferred.ofValue,invoke,Sem.run_bind,Sem.run_pure,Result.andThen_ok,BY hf hnm hb]
 exact mI
theorem cP{f:FuncId}{fn:Func}{x:Operand}{args:Array Operand}{tys:Array TypeId}{fs xs cs:List AV}{r:AV}{W:Ac}(κ:Nat->Bool)(ho:o.op= .call {callee:=.value x,args:=args,argTypes:=tys})(hfn:Al e x=some (.fn (.func f) fs cs))(hf:P.funcs[f]?=some fn)(hnm:(fn.name== "runtime.NumGoroutine")=false)(hb:fn.body.isSome=true)
 (hx:AX e args.toList=some xs) (hxa:(fs++xs++cs).all (AV.avoid κ)=true) (hH: ∀b,κ b=true->h b=W b) (hA: ∀b,κ b=true->∃q,W b=some q/\q.avoid κ=true) (hN: ∀b,κ b=false->W b=some .free) (hra:r.avoid κ=true)
 (hcall:ACall P f (fs++xs++cs) W (fun r' h'=>r'=r/\HSub (KM κ hNone W) h')):MM P o e h h r:=
 cQ (hw:=KM κ hNone W) κ ho hfn hf hnm hb hx hxa (fun b hb=>by rw[hH b hb];exact hA b hb) (OQ hH hN) (fun _ _=>rfl)
  (fun b hb=>by obtain⟨q,q1,q2⟩:=hA b hb;exact⟨q,(IE hb).trans q1,(hH b hb).trans q1,q2⟩) hra hcall
end
def kW:Nat->Bool:=fun c=>(Nat.ble 2 c&&Nat.blt c 9)||(Nat.beq c 12||Nat.ble 16 c)
theorem Uw(x:Nat):kW (x+16)=true:=by
 unfold kW;rw[show Nat.ble 16 (x+16)=true by rw[Nat.ble_eq];omega];simp
theorem dt{c:Nat}(h:c<16):c=0\/c=1\/c=2\/c=3\/c=4\/c=5\/c=6\/c=7\/c=8\/c=9\/c=10\/c=11\/c=12\/c=13\/c=14\/c=15:=by omega
abbrev WH(r2 r3 r4 r5 r6 r7 A B:AObj)(F:Nat->AObj):Ac:=HA (nb [.free,.free,r2,r3,r4,r5,r6,r7,A,.free,.free,.free,B]) F
theorem Yc{r2 r3 r4 r5 r6 r7 A B:AObj}{F:Nat->AObj}: ∀b,kW b=false->WH r2 r3 r4 r5 r6 r7 A B F b=some .free:=fun b hb=>by
 rcases Nat.lt_or_ge b 16 with h | h
 . rcases dt h with rfl | rfl | rfl | rfl | rfl | rfl | rfl | rfl | rfl | rfl | rfl | rfl | rfl | rfl | rfl | rfl<;>first | rfl |(exact absurd hb (by decide))
 . obtain⟨x,rfl⟩: ∃x,b=x+16:=⟨b-16,by omega⟩
   rw[Uw]at hb;cases hb
theorem fk{r2 r3 r4 r5 r6 r7 A B:AObj}{F:Nat->AObj}(h2:r2.avoid kW=true)(h3:r3.avoid kW=true)(h4:r4.avoid kW=true)(h5:r5.avoid kW=true)(h6:r6.avoid kW=true)(h7:r7.avoid kW=true)(hA:A.avoid kW=true)(hB:B.avoid kW=true)(hF: ∀x,(F x).avoid kW=true):
 ∀b,kW b=true->∃q,WH r2 r3 r4 r5 r6 r7 A B F b=some q/\q.avoid kW=true:=fun b hb=>by
 rcases Nat.lt_or_ge b 16 with h | h
 . rcases dt h with rfl | rfl | rfl | rfl | rfl | rfl | rfl | rfl | rfl | rfl | rfl | rfl | rfl | rfl | rfl | rfl<;>first | exact absurd hb (by decide) | exact⟨_,rfl,h2⟩ | exact⟨_,rfl,h3⟩ | exact⟨_,rfl,h4⟩ | exact⟨_,rfl,h5⟩ | exact⟨_,rfl,h6⟩ | exact⟨_,rfl,h7⟩ | exact⟨_,rfl,hA⟩ | exact⟨_,rfl,hB⟩
 . obtain⟨x,rfl⟩: ∃x,b=x+16:=⟨b-16,by omega⟩
   exact⟨_,Ao _ _ _,hF x⟩
theorem Yb{h:Ac}{r2 r3 r4 r5 r6 r7 A B:AObj}{F:Nat->AObj}(h2:h 2=some r2)(h3:h 3=some r3)(h4:h 4=some r4)(h5:h 5=some r5)(h6:h 6=some r6)(h7:h 7=some r7)(hA:h 8=some A)(hB:h 12=some B)(hF: ∀x,h (x+16)=some (F x)):
 ∀b,kW b=true->h b=WH r2 r3 r4 r5 r6 r7 A B F b:=fun b hb=>by
 rcases Nat.lt_or_ge b 16 with g | g
 . rcases dt g with rfl | rfl | rfl | rfl | rfl | rfl | rfl | rfl | rfl | rfl | rfl | rfl | rfl | rfl | rfl | rfl<;>first | exact absurd hb (by decide) | exact h2 | exact h3 | exact h4 | exact h5 | exact h6 | exact h7 | exact hA | exact hB
 . obtain⟨x,rfl⟩: ∃x,b=x+16:=⟨b-16,by omega⟩
   exact(hF x).trans (Ao _ _ _).symm
abbrev ArW:AObj:=.row false 1 [[.ptr 2 1 0 0]]
abbrev tO(i:Nat):AObj:=.row false 1 [[.int .i64 (i:Int)]]
abbrev WS(f:BFunc)(R:Nat)(S:CV)(G:GG)(es:List (List AV))(len:Nat)(w:Nat->Bool)(i:Nat):Ac:=
  WH (.row false 8 [Ta f R es.length len]) (.row false 1 (Ay (aR (Aw f)) f.blocks.length)) (.row false 1 (Ay (oR f.blocks.length R S) R)) (.row false 1 (Ay (gR f) f.blocks.length)) (.row true 1 es) (.row true 1 (bC R w)) ArW (tO i) (DF f R S G)
theorem Vb(f:BFunc)(R:Nat)(S:CV)(G:GG)(es:List (List AV))(len:Nat)(w:Nat->Bool)(i:Nat): ∀b,kW b=true->∃q,WS f R S G es len w i b=some q/\q.avoid kW=true:=
 fk rfl (Ad (fun b _=>Bf Uw _ _)) (Ad (fun b _=>A4 Uw _ _ _ _)) (Ad (fun b _=>BZ Uw _ _)) rfl rfl rfl rfl (Bd Uw f R S G)
theorem Ul{G:Nat->Bool}{l:List Tac}{j:Nat}{t:Tac}(h:l[j]?=some t):Er G (l.take (j+1)) 0=Er G (l.take j) 0++(bif G j then []else [t]):=by
 have hj:=(List.getElem?_eq_some_iff.1 h).1;have e:l.take (j+1)=l.take j++[t]:=by rw[List.take_add_one,h];rfl
 grind[Sm,Er]
theorem Up{G:Nat->Bool}{l:List Tac}{j:Nat}{t:Tac}(h:l[j]?=some t)(hg:G j=true):Er G (l.take (j+1)) 0=Er G (l.take j) 0:=by rw[Ul h,hg];simp
theorem Uo{G:Nat->Bool}{l:List Tac}{j:Nat}{t:Tac}(h:l[j]?=some t)(hg:G j=false):(Er G (l.take j) 0).map Tac.cells++[t.cells]=(Er G (l.take (j+1)) 0).map Tac.cells:=by rw[Ul h,hg,List.map_append];rfl
theorem eE{f:BFunc}{G:GG}{m:Nat}(h: ∀x∈f.blocks,x.ins.length<=m): ∀x∈(Ct f G).blocks,x.ins.length<=m:=fun y hy=>by
 obtain⟨b,hb⟩:=List.mem_iff_getElem?.1 hy;obtain⟨x,hx,rfl⟩:=Nh hb;exact Nat.le_trans (M8 (G b) x.ins 0) (h x (List.mem_of_getElem? hx))
theorem gm{f:BFunc}{R:Nat}:some (AObj.row false 8 [Ta f R ((List.range R).map BH).length R])=some (AObj.row false 8 [Ta f R (lV R).es.length (lV R).ws.length]):=by
 show some (AObj.row false 8 [Ta f R ((List.range R).map BH).length R])=some (AObj.row false 8 [Ta f R ((List.range R).map BH).length (List.range R).length]);rw[List.length_range]
theorem cW{x:Block}{n:Nat}{r:Int}(h:x.ends n r=true): ∀d∈x.nexts,0<=d/\d<n:=fun d hd=>by
 unfold Block.ends at h;unfold Block.nexts at hd
 cases e1:x.fin==1 with
 | true=>
  rw[e1]at h hd;simp[AT]at h hd;omega
 | false=>
  cases e2:x.fin==2 with
  | true=>
   rw[e1,e2]at h hd;simp[AT]at h hd;omega
  | false=>
   rw[e1,e2]at hd;simp at hd
theorem one_sane{f:BFunc}{n w:Int}(h:f.one n w=true):f.sane:=by
 obtain⟨h1,h2,h3,h4⟩:=CD h;refine⟨h1,fun x hx t ht=>OV ((h4 x hx).2 t ht),fun x hx e=>?_,fun x hx=>cW (h4 x hx).1⟩;have he:=(h4 x hx).1;unfold Block.ends at he;rw[e]at he;simp[AT]at he;omega
theorem dnf_insW{b:Blocks}(h:b.insW):b.dnf.insW:=fun g hg x hx=>by
 obtain⟨f,hf,rfl⟩:=List.mem_map.1 hg;have key: ∀{f g:BFunc},Cuts f g->(∀x∈f.blocks,Sv.In x.ins)->∀x∈g.blocks,Sv.In x.ins:=fun {f g} hc=>by
  induction hc with
  | refl=>exact fun h=>h
  | step a _ ih=>
   intro h;refine ih fun y hy=>?_
   obtain⟨c,x,l1,t,l2,v,ha⟩:=a;rw[ha.hg]at hy;rcases List.mem_or_eq_of_mem_set hy with hy | rfl
   . exact h y hy
   . have:=h x (List.mem_of_getElem? ha.hx);rw[ha.hi]at this;intro t ht;refine this t ?_;rcases List.mem_append.1 (show t∈l1++l2 from ht)with h | h
     . exact List.mem_append.2 (.inl h)
     . exact List.mem_append.2 (.inr (List.mem_cons.2 (.inr h)))
 exact key (GE f) (h f hf) x hx
inductive Part:List Tac->List Tac->Prop
  | nil:Part [] []
  | keep (t:Tac) {x y:List Tac}:Part x y->Part (t::x) (t::y)
  | drop {t:Tac} {x y:List Tac}:t.pure=true->Part x y->Part (t::x) y
theorem Part.trans{x y z:List Tac}(h:Part x y):Part y z->Part x z:=by
 induction h generalizing z with
 | nil=>exact fun h=>h
 | keep t _ ih=>
  intro h
  cases h with
  | keep _ h=>exact .keep t (ih h)
  | drop h1 h2=>exact .drop h1 (ih h2)
 | drop h1 _ ih=>exact fun h=>.drop h1 (ih h)
theorem br{f:BFunc}(h:f.tame){x:Block}(hx:x∈f.tidy.blocks): ∃p,ra f.blocks.length p/\p.length<=f.blocks.length+1/\x.ins=f.joined p:=by
 simp only[BFunc.tidy,List.mem_map]at hx;obtain⟨p,hp,rfl⟩:=hx;exact⟨p,IH h.leads _ (Nat.le_refl _) p hp,Fz _ p hp,rfl⟩
theorem YJ{f:BFunc}(h:f.tame)(hw: ∀x∈f.blocks,Sv.In x.ins): ∀x∈f.tidy.blocks,Sv.In x.ins:=fun x hx t ht=>by
 obtain⟨p,h1,h2,h3⟩:=br h hx;rw[h3]at ht;obtain⟨i,hi,hti⟩:=Oy ht;exact hw _ (List.mem_of_getElem? (Be (h1.2 i hi))) t hti
noncomputable def Dg(f:BFunc)(k:Int):OPass:=bif k==1 then⟨1,f.all,[],f.fold⟩else bif k==2 then⟨2,f.fcert,[],f.forward⟩else bif k==3 then⟨3,⟨HX (Vp f)⟩,[],Vp f⟩else⟨4,⟨[]⟩,f.tpaths,f.tidy⟩
structure PS35(n w:Int)(f:BFunc):Prop where
  one:f.one n w=true
  r:f.regs<=30
  c:f.count<=200
  i: ∀x∈f.blocks,In x.ins
section
variable {n w : Int} {f : BFunc}
theorem PS35.len(h:PS35 n w f):f.blocks.length<=200/\∀x∈f.blocks,x.ins.length<=200:=by
 have hc:=h.c;refine⟨by have:=D2 f;omega,fun x hx=>?_⟩;have:x.count<=f.count:=IT hx;simp only[Block.count]at this;omega
theorem PS35.mild(h:PS35 n w f):f.mild:=by
 obtain⟨h1,h2,h3,h4⟩:=CD h.one;have hl:=h.len;exact⟨h1,by omega,by omega,fun x hx=>⟨by have:=hl.2 x hx;omega,h.i x hx⟩⟩
theorem PS35.tame(h:PS35 n w f):f.tame:=by
 have hle:=EI h.one;have hl:=h.len;exact⟨by omega,fun x hx=>by have:=hl.2 x hx;omega,hle,fun k hk=>Q1 hle hk⟩
theorem Rh(f:BFunc):(Vp f).count<=f.count:=by
 have key: ∀{f g:BFunc},Cuts f g->g.count<=f.count:=fun {f g} hc=>by
  induction hc with
  | refl=>exact Nat.le_refl _
  | @step f g h a b ih=>
   have h1:=G2 a;have h2:=(Lb (Cuts.one a)).2;have h3:=D2 f;have h4:=D2 g;have h5:Dn f.blocks=dy f:=rfl;have h6:Dn g.blocks=dy g:=rfl;omega
 exact key (GE f)
theorem OR(f:BFunc):f.fold.count=f.count:=by
 show((f.blocks.map _).map Block.count).sum=_;rw[List.map_map];exact congrArg List.sum (List.map_congr_left fun x _=>by show 1+(C2 [] x.ins).length=1+x.ins.length;rw[BQ])
theorem PS35.step(h:PS35 n w f)(k:Int):PS35 n w (Dg f k).f:=by
 have hle:=EI h.one;have hne:=(CD h.one).2.2.1;unfold Dg
 cases k==1 with
 | true=>exact⟨cG h.one,h.r,by show f.fold.count<=200;rw[OR];exact h.c,fun x hx=>((ZF h.mild).2.2.2 x hx).2⟩
 | false=>
 cases k==2 with
 | true=>exact⟨T5 h.one,h.r,by show f.forward.count<=200;rw[JY];exact h.c,fun x hx=>by
  obtain⟨y,hy,rfl⟩:=List.mem_map.1 (show x∈f.blocks.map _ from hx);exact Q4 _ _ (h.i y hy)⟩
 | false=>
 cases k==3 with
 | true=>exact⟨iA h.one,by show(Vp f).regs<=30;rw[(Lb (GE f)).1];exact h.r,Nat.le_trans (Rh f) h.c,fun x hx=>dnf_insW (b:=⟨0,[f]⟩) (fun g hg=>by rw[List.mem_singleton.1 hg];exact h.i) (Vp f) (by simp[Blocks.dnf]) x hx⟩
 | false=>exact⟨gI (J6 hle hne) h.one,h.r,Nat.le_trans (Nz hle) h.c,YJ h.tame h.i⟩
end
section
variable {call call' : Int -> Mach -> Mach} {s : ByteArray}
theorem OK: ∀(l:List Tac) (regs:List Int) (m:Mach),(Bo call s l regs m).2.1.length=regs.length
 | [],_,_=>rfl
 | t::r,regs,m=>by
  unfold Bo
  cases (mone call s t regs m).2.fin==0 with
  | false=>exact mone_len t regs m
  | true=>exact(OK r _ _).trans (mone_len t regs m)
theorem QP: ∀(l:List Tac) (K:CH) (regs:List Int) (m:Mach),(∀t∈l,setsOp t.op=true->0<=t.d/\t.d<regs.length)->Uq K regs->Ft K->Bo call s (C2 K l) regs m=Bo call s l regs m
 | [],_,_,_,_,_,_=>rfl
 | t::r,K,regs,m,hl,hk,hu=>by
  have h1:=Ot (call:=call) (s:=s) hk t m;have hkn:=OJ (call:=call) (s:=s) hk hu (u:=CZ K t) (fun h=>by rw[XV];exact hl t (by simp) (HY h)) m;rw[h1]at hkn;simp only[C2,Bo,h1];rw[QP r (GZ K (CZ K t)) _ _ (fun u hu' hs=>by rw[mone_len];exact hl u (by simp[hu']) hs) hkn (Mp hu _)]
theorem QS{f:BFunc}(hf: ∀x∈f.blocks,∀t∈x.ins,setsOp t.op=true->0<=t.d/\t.d<f.regs.toNat): ∀(g:Nat) (i:Int) (regs:List Int) (m:Mach),regs.length=f.regs.toNat->kblk call s f.fold g i regs m=kblk call s f g i regs m
 | 0,_,_,_,_=>rfl
 | g+1,i,regs,m,hr=>by
  have e:f.fold.blocks[i.toNat]?=(f.blocks[i.toNat]?).map Block.fold:=by simp[BFunc.fold]
  cases hk:f.blocks[i.toNat]? with
  | none=>unfold kblk;rw[e,hk];rfl
  | some k=>
   have hm:Bo call s k.fold.ins regs m.tick=Bo call s k.ins regs m.tick:=QP k.ins [] regs m.tick (fun t ht hs=>by rw[hr];exact hf k (List.mem_of_getElem? hk) t ht hs) (fun z v h=>by cases h) (by simp[Ft]);rw[EK hk,EK (k:=k.fold) (by rw[e,hk];rfl),hm];have ih:=QS hf g (k.next (Bo call s k.ins regs m.tick).2.1) (Bo call s k.ins regs m.tick).2.1 (Bo call s k.ins regs m.tick).2.2 (by rw[OK];exact hr);unfold FT;rw[show k.fold.fin=k.fin from rfl,show k.fold.next (Bo call s k.ins regs m.tick).2.1=k.next (Bo call s k.ins regs m.tick).2.1 from rfl,ih]
def aG(R:Nat)(fr regs:List Int):Prop:=regs.length=R/\∀v:Int,0<=v->v<R->rget regs v=rget regs (rget fr v)
theorem dS{R:Nat}{regs:List Int}(h:regs.length=R):aG R (Kr R) regs:=⟨h,fun v h0 h1=>by
 obtain⟨u,rfl⟩: ∃u:Nat,v=u:=⟨v.toNat,by omega⟩
 rw[JG (by omega)]⟩
theorem Ud{R:Nat}{fr regs:List Int}(h:aG R fr regs){t:Tac}(ht:fp R t)(m:Mach):mone call s (subT fr t) regs m=mone call s t regs m:=by
 unfold subT
 cases e1:use1 t.op with
 | true=>
  have ha:=ht.u1 e1;simp only[cond_true];unfold mone;dsimp only;rw[<-h.2 t.a ha.1 ha.2]
 | false=>
  cases e2:use2 t.op with
  | true=>
   obtain⟨ha,hb⟩:=ht.u2 e2;simp only[cond_true,cond_false];unfold mone;dsimp only;rw[<-h.2 t.a ha.1 ha.2,<-h.2 t.b hb.1 hb.2]
  | false=>rfl
theorem UK{R:Nat}{fr regs:List Int}(h:aG R fr regs)(hr:Mh R fr){t:Tac}(ht:fp R t){m:Mach}(h0:(mone call s t regs m).2.fin=0):aG R (Dt fr t) (mone call s t regs m).1:=by
 obtain⟨_,hm⟩:=Uc (call:=call) (s:=s) t (r:=regs) (r':=regs) (fun _=>rfl) (fun _=>rfl) m;rcases hm with⟨hs,v,hv,_⟩ |⟨hv,_,hs⟩
 . have hd:=ht.d hs;have hsd:t.sets=t.d:=by unfold Tac.sets;rw[hs];rfl
   have hlt:t.d<regs.length:=by rw[h.1];exact hd.2
   have main:aG R (Cn t.sets fr) (mone call s t regs m).1:=by
    rw[hv,hsd];refine⟨by rw[C5];exact h.1,fun u u0 u1=>?_⟩;obtain⟨w,rfl⟩: ∃w:Nat,u=w:=⟨u.toNat,by omega⟩
    rw[Dk (by rw[hr.len];omega)]
    cases e:((w:Int)==t.d||rget fr w==t.d)with
    | true=>rfl
    | false=>
     simp only[Bool.or_eq_false_iff,beq_eq_false_iff_ne]at e;simp only[cond_false];rw[D8 hd.1 u0 e.1,D8 hd.1 (hr.ran w u0 u1).1 e.2];exact h.2 w u0 u1
   unfold Dt;rw[show decide (t.sets>=0)=true by rw[hsd];simpa using hd.1]
   cases e2:(t.op==2&&t.a !=t.sets)with
   | false=>exact main
   | true=>
    simp only[Bool.and_eq_true,beq_iff_eq,bne_iff_ne]at e2;simp only[cond_true];have ha:=ht.u1 (by rw[e2.1];rfl);have hval:(mone call s t regs m).1=AS regs t.d (rget regs t.a):=by unfold mone;rw[e2.1];rfl
    refine⟨main.1,fun u u0 u1=>?_⟩;rw[hsd]at e2 main |-
    by_cases e:u=t.d
    . subst e;rw[HN ⟨u0,by rw[Dj,hr.len];exact u1⟩,hval,HN ⟨u0,hlt⟩,D8 u0 ha.1 e2.2]
    . rw[D8 hd.1 u0 e];exact main.2 u u0 u1
 grind[Tac.sets,Dt,aG,mone]
theorem kins_fwd{n w:Int}{R:Nat}: ∀(l:List Tac) (fr regs:List Int) (m:Mach),Mh R fr->aG R fr regs->(∀t∈l,t.fits n R w=true)->
 Bo call s (Db fr l).1 regs m=Bo call s l regs m/\((Bo call s l regs m).1=true->aG R (Db fr l).2 (Bo call s l regs m).2.1)
 | [],_,_,_,_,h,_=>⟨rfl,fun _=>h⟩
 | t::r,fr,regs,m,hr,h,hl=>by
  have ht:=hl t (by simp);have hsub:=RI hr ht;have h1:=Ud (call:=call) (s:=s) h (fits_tacR ht) m;show Bo call s (subT fr t::(Db (Dt fr (subT fr t)) r).1) regs m=_/\(_->aG R (Db (Dt fr (subT fr t)) r).2 _);unfold Bo;rw[h1]
  cases hf:(mone call s t regs m).2.fin==0 with
  | false=>exact⟨rfl,fun e=>by cases e⟩
  | true=>
   have hn:=UK (call:=call) (s:=s) h hr (fits_tacR hsub) (m:=m) (by rw[h1];simpa using hf);rw[h1]at hn;exact kins_fwd r _ _ _ (LD hr hsub) hn fun u hu=>hl u (by simp[hu])
theorem Uu{n w:Int}{f:BFunc}{R:Nat}(hR:f.regs=(R:Int))(hf: ∀x∈f.blocks,(x.fin=2->0<=x.v/\x.v<R)/\∀t∈x.ins,t.fits n R w=true): ∀(g:Nat) (i:Int) (regs:List Int) (m:Mach),regs.length=R->kblk call s f.forward g i regs m=kblk call s f g i regs m
 | 0,_,_,_,_=>rfl
 | g+1,i,regs,m,hr=>by
  have e:f.forward.blocks[i.toNat]?=(f.blocks[i.toNat]?).map (Block.forward R):=by
   show(f.blocks.map _)[i.toNat]?=_;rw[List.getElem?_map,hR];rfl
  cases hk:f.blocks[i.toNat]? with
  | none=>unfold kblk;rw[e,hk];rfl
  | some k=>
   obtain⟨hv,hi⟩:=hf k (List.mem_of_getElem? hk);obtain⟨hm,ha⟩:=kins_fwd (call:=call) (s:=s) k.ins (Kr R) regs m.tick (R6 R) (dS hr) hi;rw[EK hk,EK (k:=k.forward R) (by rw[e,hk];rfl)];show(bif (Bo call s (Db (Kr R) k.ins).1 regs m.tick).1 then FT call s f.forward (k.forward R) g (Bo call s (Db (Kr R) k.ins).1 regs m.tick).2.1 (Bo call s (Db (Kr R) k.ins).1 regs m.tick).2.2 else(Bo call s (Db (Kr R) k.ins).1 regs m.tick).2.2)=_;rw[hm]
   cases hc:(Bo call s k.ins regs m.tick).1 with
   | false=>rfl
   | true=>
    simp only[cond_true];have ha':=ha hc;unfold FT;have hnx:(k.forward R).next (Bo call s k.ins regs m.tick).2.1=k.next (Bo call s k.ins regs m.tick).2.1:=by
     exact mh
    rw[hnx,Uu hR hf g _ _ _ (by rw[OK];exact hr)];rfl
theorem JE(hc:BD call call' fF){z:Nat->Bool}: ∀(l:List Tac),(∀t∈l,t.low)->∀{a b:List Int} {m m':Mach},DM (fun v=>need v l (z v)) a b->m.fin=0->m.Le m'->Fq z (Bo call s l a m) (Bo call' s l b m')
 | [],_,a,b,m,m',ha,h0,h=>.inr ⟨rfl,h,fun _=>⟨h0,ha⟩,fun e=>by cases e⟩
 | t::r,hl,a,b,m,m',ha,h0,h=>by
  unfold Bo;obtain⟨b2,b1⟩:=Qx (s:=s) hc (fun _=>trivial) (hl t (by simp)) ha h0 h;rcases b2 with b2 | b2
  . rw[show((mone call s t a m).2.fin==0)=false by rw[b2];rfl];exact .inl ⟨rfl,b2⟩
  . rw[b2.fin]
    cases hf:(mone call s t a m).2.fin==0 with
    | false=>
     simp only[cond_false];exact .inr ⟨rfl,b2,(fun e=>by cases e),fun _=>by simpa using hf⟩
    | true=>
     simp only[cond_true];exact JE hc r (fun u hu=>hl u (by simp[hu])) (b1 (by simpa using hf)) (by simpa using hf) b2
theorem dj(hc:BD call call' fF){z:Nat->Bool}{l1 l2:List Tac}{t:Tac}{v:Nat}(hl: ∀u∈l1++t::l2,u.low)(hp:t.pure=true)(hk:t.op=3->4<=t.k/\t.k<=15)(hv:t.sets=(v:Int))(hd:need v l2 (z v)=false)
 {a b:List Int} {m m':Mach} (ha:DM (fun v=>need v (l1++t::l2) (z v)) a b) (h0:m.fin=0) (h:m.Le m'):Fq z (Bo call s (l1++t::l2) a m) (Bo call' s (l1++l2) b m'):=by
 have h1:=JE (s:=s) hc (z:=fun v=>need v (t::l2) (z v)) l1 (fun u hu=>hl u (by simp[hu])) (a:=a) (b:=b) ⟨ha.1,fun w hw=>ha.2 w (by show need w _ _=true;rw[Hw];exact hw)⟩ h0 h;rw[GY,GY];generalize Bo call s l1 a m=X at h1 |-;generalize Bo call' s l1 b m'=Y at h1 |-;obtain⟨X1,X2,X3⟩:=X;obtain⟨Y1,Y2,Y3⟩:=Y;rcases h1 with⟨h1,h2⟩ |⟨h1,h2,h3,h4⟩
 . simp only at h1 h2;subst h1;exact .inl ⟨rfl,h2⟩
 . simp only at h1 h2 h3 h4;subst h1
   cases X1 with
   | false=>exact .inr ⟨rfl,h2,(fun e=>by cases e),h4⟩
   | true=>
    simp only[cond_true];obtain⟨hz,hag⟩:=h3 rfl;obtain⟨val,hmo⟩:=Qw (call:=call) (s:=s) hp hk X2 X3;have hlt:=hl t (by simp);have hso:=Qd hp;have hdv:t.d=(v:Int):=by rw[<-GS hso];exact hv
    have hkey:=JE (s:=s) hc (z:=z) l2 (fun u hu=>hl u (by simp[hu])) (a:=AS X2 t.d val) (b:=Y2) (m:=X3) (m':=Y3)
     ⟨by rw[KD];exact hag.1,fun w hw=>by
      have hne: ¬t.d=(w:Int):=fun e=>by
       have:v=w:=by omega
       subst this;rw[show need v l2 (z v)=true from hw]at hd;cases hd
      rw[Jn (hlt.1 hso),if_neg (fun e=>hne e.1)];refine hag.2 w ?_;show need w (t::l2) (z w)=true;unfold need;rw[GS hso,show(t.d==(w:Int))=false by simpa using hne,show need w l2 (z w)=true from hw]
      simp⟩ hz h2
    show Fq z (bif (mone call s t X2 X3).2.fin==0 then Bo call s l2 (mone call s t X2 X3).1 (mone call s t X2 X3).2 else(false,mone call s t X2 X3)) _;rw[hmo];simp only[hz];exact hkey
theorem Uv(hc:BD call call' fF){f g:BFunc}{c:Nat}{x:Block}{l1 l2:List Tac}{t:Tac}{v:Nat}(hcut:EZ f g c x l1 t l2 v)(hf:WR fF f):
 ∀(n:Nat) (i:Int) (a b:List Int) (m m':Mach),DM (fun v=>UC f v i.toNat) a b->m.fin=0->m.Le m'->(kblk call s f n i a m).Sim (kblk call' s g n i b m')
 | 0,_,_,_,_,_,_,_,_=>.inl rfl
 | n+1,i,a,b,m,m',hag,h0,h=>by
  cases hk:f.blocks[i.toNat]? with
  | none=>
   have hk':g.blocks[i.toNat]?=none:=by
    rw[List.getElem?_eq_none_iff]at hk |-;rw[hcut.hg,IF];exact hk
   unfold kblk;rw[hk,hk'];exact .inr h
  | some k=>
   obtain⟨k',hk',hkn,hs⟩: ∃k',g.blocks[i.toNat]?=some k'/\(k'.fin=k.fin/\∀r,k'.next r=k.next r)/\Fq (endB f k) (Bo call s k.ins a m.tick) (Bo call' s k'.ins b m'.tick):=by
    have hin:=hf.ins k (List.mem_of_getElem? hk);have hag':DM (fun v=>need v k.ins (endB f k v)) a b:=⟨hag.1,fun w hw=>hag.2 w (by show UC f w _=true;rw[Wr hk];exact hw)⟩
    by_cases hci:c=i.toNat
    . subst hci;have:=hcut.hx.symm.trans hk;cases this;refine⟨x.mid (l1++l2),by rw[hcut.hg];exact D9 hcut.hx,⟨rfl,fun _=>rfl⟩,?_⟩;have hi:=hcut.hi;show Fq (endB f x) (Bo call s x.ins a m.tick) (Bo call' s (l1++l2) b m'.tick);rw[hi]at hin hag' |-;exact dj hc (fun u hu=>(hin u hu).2.1) hcut.pure (hin t (by simp)).2.2 hcut.hv hcut.dead hag' h0 h.tick
    . exact⟨k,by rw[hcut.hg,GV hci];exact hk,⟨rfl,fun _=>rfl⟩,JE hc k.ins (fun u hu=>(hin u hu).2.1) hag' h0 h.tick⟩
   rw[EK hk,EK hk'];have hfin:=hf.fin k (List.mem_of_getElem? hk);generalize Bo call s k.ins a m.tick=X at hs |-;generalize Bo call' s k'.ins b m'.tick=Y at hs |-;obtain⟨X1,X2,X3⟩:=X;obtain⟨Y1,Y2,Y3⟩:=Y;rcases hs with⟨h1,h2⟩ |⟨h1,h3,h4,h5⟩
   . simp only at h1 h2;subst h1;exact .inl h2
   . simp only at h1 h3 h4 h5;subst h1
     cases X1 with
     | false=>exact .inr h3
     | true=>
      simp only[cond_true];obtain⟨hz,hag2⟩:=h4 rfl;unfold FT;rw[hkn.1,hkn.2]
      cases hfin3:k.fin==3 with
      | true=>exact .inr h3
      | false=>
       simp only[cond_false];rw[<-Oj hfin.2 hag2];exact Uv hc hcut hf n _ _ _ _ _ (Pt hfin.1 hfin3 hag2) hz h3
end
theorem FSm.fold{f:BFunc}{n w:Int}(h:f.one n w=true):FSm f f.fold:=fun call s G hc m m' h0 hl=>by
 have hs:=CD h;rw[show f.fold.regs=f.regs from rfl,QS (fun x hx t ht e=>by
  have:=(OV ((hs.2.2.2 x hx).2 t ht)).1 e;omega) G 0 _ m' (by simp)]
 exact JF hc G _ _ h0 hl
theorem FSm.forward{f:BFunc}{n w:Int}(h:f.one n w=true):FSm f f.forward:=fun call s G hc m m' h0 hl=>by
 obtain⟨h1,h2,h3,h4⟩:=CD h;obtain⟨R,hR⟩: ∃R:Nat,f.regs=(R:Int):=⟨f.regs.toNat,by omega⟩
 rw[show f.forward.regs=f.regs from rfl,Uu (n:=n) (w:=w) hR (fun x hx=>⟨fun e=>by
  have he:=(h4 x hx).1;unfold Block.ends at he;rw[e]at he;simp[AT]at he;omega,fun t ht=>by rw[<-hR];exact(h4 x hx).2 t ht⟩) G 0 _ m' (by rw[hR];simp)]
 exact JF hc G _ _ h0 hl
theorem fy{f g:BFunc}(h:Cuts f g)(hf:WR fF f):FSm f g:=by
 induction h with
 | refl f=>exact Vd f
 | @step f g h a1 b ih=>
  refine FSm.trans ?_ (ih (US a1 hf));have hr:=(Lb (Cuts.one a1)).1;obtain⟨c,x,l1,t,l2,v,a1⟩:=a1;intro call s G hc m m' h0 hl;rw[hr];exact Uv hc a1 hf G 0 _ _ m m' ⟨rfl,fun _ _=>rfl⟩ h0 hl
theorem FSm.dnf{f:BFunc}{n w:Int}(h:f.one n w=true):FSm f (Vp f):=by
 have hf:=T6 h;exact fy (GE f) ⟨fun x hx t ht=>⟨fun _=>trivial,(hf.ins x hx t ht).2⟩,hf.fin⟩
section
variable {n w : Int}
theorem PS35.fs{f:BFunc}(h:PS35 n w f)(k:Int):FSm f (Dg f k).f:=by
 have hs:=CD h.one;unfold Dg
 cases k==1 with
 | true=>exact FSm.fold h.one
 | false=>
 cases k==2 with
 | true=>exact FSm.forward h.one
 | false=>
 cases k==3 with
 | true=>exact FSm.dnf h.one
 | false=>exact FSm.tidy (J6 (EI h.one) hs.2.2.1) fun x hx=>O7 (hs.2.2.2 x hx).1
theorem UU: ∀(ks:List Int) (f:BFunc),PS35 n w f->PS35 n w (Lo Dg ks f)/\FSm f (Lo Dg ks f)
 | [],f,h=>⟨h,Vd f⟩
 | k::r,f,h=>by
  obtain⟨h1,h2⟩:=UU r (Dg f k).f (h.step k);exact⟨h1,(h.fs k).trans h2⟩
end
noncomputable def Hs(b:Blocks)(ks:List Int):Blocks:=⟨b.words,b.funcs.map (Lo Dg ks)⟩
structure All35(b:Blocks):Prop where
  n:b.funcs.length<=6
  r:b.right=true
  e: ∀(i:Nat) (f:BFunc),b.funcs[i]?=some f->PS35 (i:Int) b.words f
theorem All35.of{b:Blocks}(h:GR b=true)(hw:b.insW):All35 b:=by
 have hS:=VP h;refine⟨hS.n,hS.r,fun i f hf=>⟨(E4 hS.r).2.2.2 i f hf,hS.g f (List.mem_of_getElem? hf),Nat.le_trans (IT (List.mem_of_getElem? hf)) hS.c,hw f (List.mem_of_getElem? hf)⟩⟩
theorem cE{b:Blocks}{ks:List Int}{i:Nat}{g:BFunc}(h:(Hs b ks).funcs[i]?=some g): ∃f,b.funcs[i]?=some f/\g=Lo Dg ks f:=by
 grind[Hs,Lo,Dg]
theorem YU{b:Blocks}(h1:0<=b.words)(h2:b.words<=1048576)(h3:b.funcs≠[])(h4: ∀(i:Nat) (f:BFunc),b.funcs[i]?=some f->f.one (i:Int) b.words=true):b.right=true:=by
 grind[Lz,List.all_eq_true,List.getElem?_eq_some_iff,Ae,Gh]
theorem All35.opt{b:Blocks}(h:All35 b)(ks:List Int):All35 (Hs b ks):=by
 obtain⟨h1,h2,h3,h4⟩:=E4 h.r;have he: ∀(i:Nat) (g:BFunc),(Hs b ks).funcs[i]?=some g->PS35 (i:Int) b.words g:=fun i g hg=>by
  obtain⟨f,hf,rfl⟩:=cE hg;exact(UU ks f (h.e i f hf)).1
 refine⟨by show(b.funcs.map _).length<=6;rw[List.length_map];exact h.n,YU (b:=Hs b ks) h1 h2 (fun e=>h3 (List.map_eq_nil_iff.1 e)) fun i g hg=>(he i g hg).one,he⟩
theorem All35.insW{b:Blocks}(h:All35 b):b.insW:=fun f hf=>by
 obtain⟨i,hi⟩:=List.getElem?_of_mem hf;exact(h.e i f hi).i
theorem bu{l:List Nat}{q:Nat}(h: ∀x∈l,x<=q):l.sum<=q*l.length:=by
 induction l with
 | nil=>exact Nat.le_refl _
 | cons x l ih=>
  have h1:=ih fun y hy=>h y (by simp[hy])
  have h2:=h x (by simp);rw[List.sum_cons,List.length_cons,Nat.mul_succ];omega
theorem All35.count{b:Blocks}(h:All35 b):b.count<=1200:=by
 have:=bu (l:=b.funcs.map BFunc.count) (q:=200) fun x hx=>by
  obtain⟨f,hf,rfl⟩:=List.mem_map.1 hx;obtain⟨i,hi⟩:=List.getElem?_of_mem hf;exact(h.e i f hi).c
 rw[List.length_map]at this;have h2:=h.n;show(b.funcs.map BFunc.count).sum<=1200;have:200*b.funcs.length<=1200:=by omega
 omega
theorem All35.lim{b:Blocks}(h:All35 b):b.Lim:=⟨Nat.le_trans h.n (by decide),Nat.le_trans h.count (by decide)⟩
end Go.Proofs.YtbbfelelocccmaaGreat.Sv
