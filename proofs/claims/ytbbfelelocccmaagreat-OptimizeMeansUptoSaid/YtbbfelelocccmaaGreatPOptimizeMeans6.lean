/-
  A PROGRAM WITHOUT WHAT IS DEAD ENDS ALIKE, IN NO MORE STEPS, in plain Lean: own work.
-/
import Derived.Test.YtbbfelelocccmaaGreatPOptimizeMeans5
import Derived.Test.YtbbfelelocccmaaGreatPOptimizeMeans4
import Derived.Test.YtbbfelelocccmaaGreatPOptimizeMeans3
set_option linter.unusedVariables false
set_option linter.unusedSimpArgs false
set_option maxRecDepth 100000
set_option maxHeartbeats 2000000
namespace Go.Proofs.YtbbfelelocccmaaGreat.Sv
open Go
section
variable {call call' : Int -> Mach -> Mach} {s : ByteArray} {fuel : Int}
theorem NG(l:List Int)(z v:Int):(AS l z v).length=l.length:=List.length_set
theorem TU(t:Tac){r r':List Int}(ha:use1 t.op=true\/use2 t.op=true->rget r t.a=rget r' t.a)(hb:use2 t.op=true->rget r t.b=rget r' t.b)(m:Mach):
 (mone call s t r m).2=(mone call s t r' m).2/\((setsOp t.op=true/\∃v,(mone call s t r m).1=AS r t.d v/\(mone call s t r' m).1=AS r' t.d v)\/((mone call s t r m).1=r/\(mone call s t r' m).1=r'/\(setsOp t.op=false\/(mone call s t r m).2.fin≠0))):=by
 unfold mone
 cases e1:t.op==1 with
 | true=>exact⟨rfl,.inl ⟨by simp[setsOp,e1],_,rfl,rfl⟩⟩
 | false=>
 cases e2:t.op==2 with
 | true=>rw[ha (.inl (by simp[use1,e2]))];exact⟨rfl,.inl ⟨by simp[setsOp,e2],_,rfl,rfl⟩⟩
 | false=>
 cases e3:t.op==3 with
 | true=>
  grind[use2,B3,rget,setsOp,use1,mone,AS]
 | false=>
 cases e4:t.op==4 with
 | true=>exact⟨rfl,.inl ⟨by simp[setsOp,e4],_,rfl,rfl⟩⟩
 | false=>
 cases e5:t.op==5 with
 | true=>rw[ha (.inl (by simp[use1,e5]))];exact⟨rfl,.inr ⟨rfl,rfl,.inl (by rw[eq_of_beq e5];rfl)⟩⟩
 | false=>
 cases e6:t.op==6 with
 | true=>
  grind[use1,rget,setsOp,use2,mone,AS,B3]
 | false=>
 cases e7:t.op==7 with
 | true=>
  grind[use2,rget,use1,mone,setsOp,AS,B3]
 | false=>
 cases e8:t.op==8 with
 | true=>
  grind[setsOp,use1,use2,rget,mone,AS,B3]
 | false=>
 have hs:setsOp t.op=false:=by simp[setsOp,e1,e2,e3,e4,e6,e8]
 cases e9:t.op==9 with
 | true=>
  grind[use1,use2,rget,mone,setsOp,AS,B3]
 | false=>
 cases t.op==10<;>exact⟨rfl,.inr ⟨rfl,rfl,.inl hs⟩⟩
theorem Ls{l:List Int}{z:Int}{w:Nat}{v:Int}(hz:0<=z):rget (AS l z v) (w:Int)=if z=(w:Int)/\z.toNat<l.length then v else rget l (w:Int):=by
 grind[rget,AS]
def Tac.low(t:Tac):Prop:=(setsOp t.op=true->0<=t.d)/\(use1 t.op=true\/use2 t.op=true->0<=t.a)/\(use2 t.op=true->0<=t.b)
def Fa(p:Nat->Bool)(r r':List Int):Prop:=r.length=r'.length/\∀v:Nat,p v=true->rget r (v:Int)=rget r' (v:Int)
theorem Jg{t:Tac}(h:setsOp t.op=true):t.sets=t.d:=by unfold Tac.sets;rw[h];rfl
theorem YB{t:Tac}(h:setsOp t.op=false):t.sets= -1:=by unfold Tac.sets;rw[h];rfl
def KS(z:Nat->Bool)(X Y:Bool×List Int×Mach):Prop:=X.1=false/\X.2.2.fin=5\/X.1=Y.1/\X.2.2.Le Y.2.2/\(X.1=true->X.2.2.fin=0/\Fa z X.2.1 Y.2.1)/\(X.1=false->X.2.2.fin≠0)
theorem Wx{t:Tac}{r:List Tac}{z:Nat->Bool}{a b:List Int}(h:Fa (fun v=>need v (t::r) (z v)) a b)(hl:t.low):(use1 t.op=true\/use2 t.op=true->rget a t.a=rget b t.a)/\(use2 t.op=true->rget a t.b=rget b t.b):=by
 have key: ∀u,0<=u->t.uses.contains u=true->rget a u=rget b u:=fun u hu hc=>by
  grind[need,Fa,use1,use2,rget]
 have e12:=Nl t.op;constructor
 . intro e;refine key t.a (hl.2.1 e) ?_;rcases e with e | e<;>simp[Tac.uses,e]<;>cases use1 t.op<;>simp
 . intro e;rw[e,Bool.and_true]at e12;exact key t.b (hl.2.2 e) (by simp[Tac.uses,e,e12])
theorem Zb{ok:Int->Prop}(hc:Cr call call' ok){t:Tac}{r:List Tac}{z:Nat->Bool}(ht:t.op=10->ok t.base)(hl:t.low){a b:List Int}(h:Fa (fun v=>need v (t::r) (z v)) a b){m m':Mach}(h0:m.fin=0)(hm:m.Le m'):
 (mone call s t a m).2.Sim (mone call' s t b m').2/\((mone call s t a m).2.fin=0->Fa (fun v=>need v r (z v)) (mone call s t a m).1 (mone call' s t b m').1):=by
 obtain⟨u1,u2⟩:=Wx h hl;obtain⟨e1,e2⟩:=TU (call:=call) (s:=s) t u1 u2 m;obtain⟨s1,s2⟩:=Of (s:=s) hc t ht b h0 hm;rw[e1,<-s1];refine⟨s2,fun hf=>?_⟩;rcases e2 with⟨hs,v,a1,a2⟩ |⟨a1,a2,a3⟩
 . rw[a1,a2];refine⟨by rw[NG,NG];exact h.1,fun w hw=>?_⟩;rw[Ls (hl.1 hs),Ls (hl.1 hs),h.1]
   by_cases hd:t.d=(w:Int)
   . by_cases hlen:t.d.toNat<b.length
     . rw[if_pos ⟨hd,hlen⟩,if_pos ⟨hd,hlen⟩]
     . rw[if_neg (fun e=>hlen e.2),if_neg (fun e=>hlen e.2)];have hw2:w>=b.length:=by omega
       unfold rget;rw[Int.toNat_natCast,List.getElem?_eq_none_iff.2 hw2,List.getElem?_eq_none_iff.2 (by rw[h.1];exact hw2)]
   . rw[if_neg (fun e=>hd e.1),if_neg (fun e=>hd e.1)];refine h.2 w ?_;show need w (t::r) (z w)=true;unfold need;rw[Jg hs,show(t.d==(w:Int))=false by simpa using hd,show need w r (z w)=true from hw]
     simp
 . grind[need,YB,Cr,Fa,mone,rget]
theorem fW{k a b:Int}(hk:4<=k/\k<=15)(h7:k≠7)(h8:k≠8):(B3 k a b).2=0:=by
 grind[B3]
theorem Za{t:Tac}(hp:t.pure=true)(hk:t.op=3->4<=t.k/\t.k<=15)(r:List Int)(m:Mach): ∃v,mone call s t r m=(AS r t.d v,m):=by
 unfold Tac.pure at hp;simp only[Bool.or_eq_true,Bool.and_eq_true,Bool.not_eq_true',beq_eq_false_iff_ne,beq_iff_eq]at hp;unfold mone;rcases hp with h | h | h |⟨h,h7,h8⟩
 . rw[h];exact⟨_,rfl⟩
 . rw[h];exact⟨_,rfl⟩
 . rw[h];exact⟨_,rfl⟩
 . have:=fW (a:=rget r t.a) (b:=rget r t.b) (hk h) h7 h8;rw[h,this];exact⟨_,rfl⟩
theorem YU{t:Tac}(hp:t.pure=true):setsOp t.op=true:=by
 grind[Tac.pure,setsOp]
structure fx(ok:Int->Prop)(f:BFunc):Prop where
  ins: ∀x∈f.blocks,∀t∈x.ins,(t.op=10->ok t.base)/\t.low/\(t.op=3->4<=t.k/\t.k<=15)
  fin: ∀x∈f.blocks,(x.fin=1\/x.fin=2\/x.fin=3)/\(x.fin=2->0<=x.v)
theorem cM{k:Block}(hf:k.fin=1\/k.fin=2\/k.fin=3)(h3:(k.fin==3)=false)(regs:List Int):k.next regs∈k.nexts:=by
 grind[Block.next,Block.nexts,rget]
theorem V1{f:BFunc}{k:Block}(hv:k.fin=2->0<=k.v){a b:List Int}(h:Fa (endB f k) a b):k.next a=k.next b:=by
 unfold Block.next
 cases h2:k.fin==2 with
 | false=>rfl
 | true=>
  have h0:=hv (by simpa using h2);have:=h.2 k.v.toNat (by unfold endB Db;rw[h2,Int.toNat_of_nonneg h0];simp);rw[Int.toNat_of_nonneg h0]at this;rw[this]
theorem Wy{f:BFunc}{k:Block}(hf:k.fin=1\/k.fin=2\/k.fin=3)(h3:(k.fin==3)=false){a b:List Int}(h:Fa (endB f k) a b):Fa (fun v=>V9 f v (k.next a).toNat) a b:=
 ⟨h.1,fun v hv=>h.2 v (by unfold endB;rw[outB_iff.2 ⟨_,cM hf h3 a,inB_iff.1 hv⟩,Bool.or_true])⟩
theorem dZ{ok:Int->Prop}{f g:BFunc}(h:ay f g)(hf:fx ok f):fx ok g:=by
 obtain⟨c,x,l1,t,l2,v,h⟩:=h;have key: ∀y∈g.blocks,y∈f.blocks\/y=x.mid (l1++l2):=fun y hy=>by
  rw[h.hg]at hy;exact List.mem_or_eq_of_mem_set hy
 have hxm:=List.mem_of_getElem? h.hx;constructor
 . intro y hy u hu;rcases key y hy with hy | rfl
   . exact hf.ins y hy u hu
   . refine hf.ins x hxm u ?_;exact jI
 . intro y hy;rcases key y hy with hy | rfl
   . exact hf.fin y hy
   . exact hf.fin x hxm
end
theorem cw{f:BFunc}{n w:Int}(h:f.one n w=true):fx (fun j=>0<=j/\j<n) f:=by
 have hs:=C4 h;constructor
 . intro x hx t ht;have ht':=(hs.2.2.2 x hx).2 t ht;have hI:=Ns ht';refine⟨fun ho=>by have:=hI.call ho;omega,⟨fun e=>(hI.d e).1,fun e=>(hI.a e).1,fun e=>(hI.b e).1⟩,fun ho=>?_⟩;simp only[Tac.fits,Bool.and_eq_true]at ht';have h5:=ht'.2.2.2.2.1;unfold Tac.rest at h5;rw[ho]at h5;simpa using h5
 grind[Block.ends,AT]
theorem O3{f g:BFunc}(h:Cuts f g):g.regs=f.regs/\g.blocks.length=f.blocks.length:=by
 induction h with
 | refl=>exact⟨rfl,rfl⟩
 | step a _ ih=>
  obtain⟨c,x,l1,t,l2,v,a⟩:=a;rw[a.hg]at ih;exact⟨ih.1,by rw[ih.2,KC]⟩
theorem iF{f g:BFunc}{n w:Int}(h:ay f g)(h1:f.one n w=true):g.one n w=true:=by
 obtain⟨c,x,l1,t,l2,v,h⟩:=h;have hxm:=List.mem_of_getElem? h.hx;have hlen:g.blocks.length=f.blocks.length:=by rw[h.hg,KC]
 have hreg:g.regs=f.regs:=by rw[h.hg];rfl
 simp only[BFunc.one,Bool.and_eq_true,decide_eq_true_eq,Bool.not_eq_true',List.isEmpty_eq_false_iff,List.all_eq_true]at h1 |-;refine⟨by rw[hreg];exact h1.1,by rw[hreg];exact h1.2.1,fun e=>h1.2.2.1 (by rw[<-List.length_eq_zero_iff,<-hlen,e];rfl),fun y hy=>?_⟩;rw[hlen,hreg];rw[h.hg]at hy;rcases List.mem_or_eq_of_mem_set hy with hy | rfl
 . exact h1.2.2.2 y hy
 . have hx1:=h1.2.2.2 x hxm;simp only[Block.ok,Bool.and_eq_true,List.all_eq_true]at hx1 |-;refine⟨hx1.1,fun u hu=>hx1.2 u ?_⟩;exact jI
theorem eB{f g:BFunc}{n w:Int}(h:Cuts f g)(h1:f.one n w=true):g.one n w=true:=by
 induction h with
 | refl=>exact h1
 | step a _ ih=>exact ih (iF a h1)
theorem iD{f:BFunc}{n w:Int}(h1:f.one n w=true):(Wq f).one n w=true:=eB (Hr f) h1
noncomputable def Blocks.dnf(b:Blocks):Blocks:=⟨b.words,b.funcs.map Sv.Wq⟩
def G3(R:Nat)(p:Nat->Bool):List Bool:=(List.range R).map p
theorem Hm(R:Nat)(p:Nat->Bool):(G3 R p).length=R:=by simp[G3]
theorem TS{R:Nat}{p:Nat->Bool}{v:Nat}(h:v<R):(G3 R p)[v]?=some (p v):=by simp[G3,h]
theorem J9{R:Nat}{p q:Nat->Bool}(h: ∀v,v<R->p v=q v):G3 R p=G3 R q:=by
 unfold G3;exact List.map_congr_left fun v hv=>h v (List.mem_range.1 hv)
def nd(R:Nat)(x:Block)(p:Nat->Bool)(i:Nat):List Bool:=G3 R (fun v=>need v (x.ins.drop i) (Db x v||p v))
noncomputable def XB(f:BFunc)(c:Nat):List Bool:=G3 f.regs.toNat (fun v=>V9 f v c)
noncomputable def RU(f:BFunc)(x:Block):List Bool:=G3 f.regs.toNat (outB f x)
noncomputable def HV(f:BFunc):List (List Bool):=(List.range f.blocks.length).map (XB f)
noncomputable def HK(f:BFunc):List (List Bool):=f.blocks.map (RU f)
structure BFunc.sane(f:BFunc):Prop where
  regs:0<=f.regs
  low: ∀x∈f.blocks,∀t∈x.ins,t.inR f.regs
  fin: ∀x∈f.blocks,x.fin=2->0<=x.v/\x.v<f.regs
  next: ∀x∈f.blocks,∀d∈x.nexts,0<=d/\d<f.blocks.length
abbrev BB:=Nat->Nat->Bool
def GF(f:BFunc)(I:BB):Prop:=∀b v,I b v=true->Dk f v b
def FM(f:BFunc)(O:BB):Prop:=∀b v,O b v=true->∃x,f.blocks[b]?=some x/\outB f x v=true
def GH(f:BFunc)(R:Nat)(I O:BB)(b:Nat):Prop:=∀x,f.blocks[b]?=some x->∀v,v<R->(∀d∈x.nexts,I d.toNat v=true->O b v=true)/\(need v x.ins (Db x v||O b v)=true->I b v=true)
def El(n R:Nat)(I:BB):Nat:=((List.range n).map fun b=>((List.range R).map fun v=>if I b v then 0 else 1).sum).sum
def putBB(I:BB)(b v:Nat)(z:Bool):BB:=fun b' v'=>if b'=b/\v'=v then z else I b' v'
theorem Rp{n:Nat}{p q:Nat->Nat}(h: ∀k,k<n->p k<=q k){j:Nat}(hj:j<n)(hlt:p j<q j):((List.range n).map p).sum<((List.range n).map q).sum:=by
 induction n with
 | zero=>omega
 | succ n ih=>
  rw[List.range_succ,List.map_append,List.map_append,List.sum_append,List.sum_append];simp only[List.map_cons,List.map_nil,List.sum_cons,List.sum_nil];have hle: ∀m,m<=n->((List.range m).map p).sum<=((List.range m).map q).sum:=by
   intro m
   induction m with
   | zero=>intro _;exact Nat.le_refl _
   | succ m im=>
    intro hm;rw[List.range_succ,List.map_append,List.map_append,List.sum_append,List.sum_append];simp only[List.map_cons,List.map_nil,List.sum_cons,List.sum_nil];have:=im (by omega);have:=h m (by omega);omega
  have h1:=h n (by omega)
  by_cases hjn:j=n
  . subst hjn;have:=hle j (Nat.le_refl _);omega
  . have:=ih (fun k hk=>h k (by omega)) (by omega);omega
theorem Wj{n R:Nat}{I:BB}{b v:Nat}(hb:b<n)(hv:v<R)(h:I b v=false):El n R (putBB I b v true)<El n R I:=by
 unfold El;have hp: ∀b' v',(if putBB I b v true b' v' then 0 else 1)<=(if I b' v' then 0 else 1:Nat):=fun b' v'=>by
  unfold putBB;split
  . simp
  . split<;>simp_all
 have hsum: ∀(m:Nat) (p q:Nat->Nat),(∀k,p k<=q k)->((List.range m).map p).sum<=((List.range m).map q).sum:=fun m p q hpq=>by
  induction m with
  | zero=>exact Nat.le_refl _
  | succ m im=>
   rw[List.range_succ,List.map_append,List.map_append,List.sum_append,List.sum_append];simp only[List.map_cons,List.map_nil,List.sum_cons,List.sum_nil];have:=hpq m;omega
 refine Rp (fun k _=>hsum R _ _ (hp k)) hb ?_;refine Rp (fun k _=>hp b k) hv ?_;unfold putBB;simp[h]
theorem soundI_need{f:BFunc}{I O:BB}(hO:FM f O){b v:Nat}{x:Block}(hx:f.blocks[b]?=some x)(hn:need v x.ins (Db x v||O b v)=true):Dk f v b:=by
 rw[<-inB_iff,dz hx];refine Bw (fun e=>?_) hn;unfold endB;rw[Bool.or_eq_true]at e |-;rcases e with e | e
 . exact .inl e
 . obtain⟨y,hy,h⟩:=hO b v e;rw[hx]at hy;cases hy;exact .inr h
theorem Nu{f:BFunc}{I O:BB}(hI:GF f I)(hO:FM f O){b v:Nat}{x:Block}{d:Int}(hx:f.blocks[b]?=some x)(hd:d∈x.nexts):FM f (putBB O b v (O b v||I d.toNat v)):=by
 intro b' v' h;unfold putBB at h;split at h
 . rename_i e;obtain⟨rfl,rfl⟩:=e;rw[Bool.or_eq_true]at h;rcases h with h | h
   . exact hO _ _ h
   . exact⟨x,hx,outB_iff.2 ⟨d,hd,hI _ _ h⟩⟩
 . exact hO _ _ h
theorem Vo{f:BFunc}{I:BB}(hI:GF f I){b v:Nat}(h:Dk f v b):GF f (putBB I b v true):=by
 intro b' v' h';unfold putBB at h';split at h'
 . rename_i e;obtain⟨rfl,rfl⟩:=e;exact h
 . exact hI _ _ h'
theorem Q5{f:BFunc}(hs:f.sane){I O:BB}(hI:GF f I)(hO:FM f O)(hc: ∀b,b<f.blocks.length->GH f f.regs.toNat I O b){b v:Nat}(hb:b<f.blocks.length)(hv:v<f.regs.toNat):I b v=V9 f v b:=by
 rw[Bool.eq_iff_iff,inB_iff];refine⟨hI b v,fun h=>?_⟩;refine Oo (I:=fun b=>I b v) (fun c x hx hn=>?_) h;have hcl:=hc c (List.getElem?_eq_some_iff.1 hx).1 x hx v hv;refine hcl.2 (Bw (fun e=>?_) hn);rw[Bool.or_eq_true]at e |-;rcases e with e | e
 . exact .inl e
 . obtain⟨d,h1,h2⟩:=List.any_eq_true.1 e;exact .inr (hcl.1 d h1 h2)
theorem Ws{f:BFunc}(hs:f.sane){I O:BB}(hI:GF f I)(hO:FM f O)(hc: ∀b,b<f.blocks.length->GH f f.regs.toNat I O b){b v:Nat}{x:Block}(hx:f.blocks[b]?=some x)(hv:v<f.regs.toNat):O b v=outB f x v:=by
 have hb:=(List.getElem?_eq_some_iff.1 hx).1;rw[Bool.eq_iff_iff,outB_iff];constructor
 . intro h;obtain⟨y,hy,h'⟩:=hO b v h;rw[hx]at hy;cases hy;exact outB_iff.1 h'
 . rintro⟨d,h1,h2⟩
   have hd:=hs.next x (List.mem_of_getElem? hx) d h1;have:=Q5 hs hI hO hc (b:=d.toNat) (v:=v) (by omega) hv;exact(hc b hb x hx v hv).1 d h1 (by rw[this];exact inB_iff.2 h2)
theorem W0{h:Ac}{b n:Nat}{p:Bool}{sz:Nat}{es:List (List AV)}(hb:h b=some (.row p sz es))(hn:n=es.length):SrcOf h (.ref b n 0 n) [b] es:=by
 subst hn;have:=SrcOf.ref b es.length 0 es.length p sz es hb rfl;rwa[List.drop_zero,List.take_length]at this
theorem putBB_row(I:BB)(b v:Nat)(z:Bool):putBB I b v z b=fun u=>if u=v then z else I b u:=by
 funext u;unfold putBB;simp
theorem ce{I:BB}{b b':Nat}(v:Nat)(z:Bool)(h:b'≠b):putBB I b v z b'=I b':=by
 funext u;unfold putBB;simp[h]
theorem Na(φ:Nat->Nat)(m:List Nat):A7 φ [] m:=fun _ h=>by cases h
theorem AB{φ:Nat->Nat}{b:Nat}{m:List Nat}(h:φ b∈m):A7 φ [b] m:=fun c hc=>by rw[List.mem_singleton]at hc;subst hc;exact h
theorem M9{φ:Nat->Nat}{b c:Nat}{m:List Nat}(h:φ b∈m)(h':φ c∈m):A7 φ [b,c] m:=fun d hd=>by
 simp only[List.mem_cons,List.not_mem_nil,or_false]at hd;rcases hd with rfl | rfl
 . exact h
 . exact h'
theorem bE{H:Ay}{ι:Be}{v:Value}(h:Rel H ι .nil v):Rel H ι (.lst true []) v:=by
 rw[h.nil_inv];exact .lst0 _ _ none 0 (fun _=>rfl) (Nat.zero_le _) (fun _=>rfl) trivial
theorem F0(x:Block):x.nexts.length<=2:=by
 grind[Block.nexts]
def b2n(b:Bool):Nat:=bif b then 1 else 0
structure RG where
  I:BB
  O:BB
  more:Bool
structure tD(f:BFunc)(R:Nat)(g:RG):Prop where
  si:GF f g.I
  so:FM f g.O
  cl:g.more=false->∀b,b<f.blocks.length->GH f R g.I g.O b
def tu(f:BFunc)(R:Nat)(g:RG):Nat:=El f.blocks.length R g.I+b2n g.more
structure MInv(f:BFunc)(R B:Nat)(g:RG)(k:Nat):Prop where
  si:GF f g.I
  so:FM f g.O
  kn:k<=f.blocks.length
  cl:g.more=false->∀b,k<=b->b<f.blocks.length->GH f R g.I g.O b
  bud:El f.blocks.length R g.I+b2n g.more<=B
theorem MInv.last{f:BFunc}{R:Nat}{g g':RG}(hm:g.more=true)(h:MInv f R (El f.blocks.length R g.I) g' 0):tD f R g'/\tu f R g'<tu f R g:=by
 refine⟨⟨h.si,h.so,fun e b hb=>h.cl e b (Nat.zero_le _) hb⟩,?_⟩;have:=h.bud;unfold tu;rw[hm];show _<_+1;omega
structure OInv(f:BFunc)(R:Nat)(I O0:BB)(b:Nat)(x:Block)(O:BB)(j v:Nat):Prop where
  so:FM f O
  ne: ∀b',b'≠b->O b'=O0 b'
  js: ∀j',j'<j->∀d,x.nexts[j']?=some d->∀u,u<R->I d.toNat u=true->O b u=true
  vs: ∀d,x.nexts[j]?=some d->∀u,u<v->I d.toNat u=true->O b u=true
theorem OInv.step{f:BFunc}{R:Nat}{I O0:BB}{b:Nat}{x:Block}{O:BB}{j v:Nat}(hI:GF f I)(hx:f.blocks[b]?=some x){d:Int}(hd:x.nexts[j]?=some d)(h:OInv f R I O0 b x O j v):OInv f R I O0 b x (putBB O b v (O b v||I d.toNat v)) j (v+1):=by
 have hmono: ∀u,O b u=true->putBB O b v (O b v||I d.toNat v) b u=true:=fun u hu=>by
  rw[putBB_row]
  grind
 refine⟨Nu hI h.so hx (List.mem_of_getElem? hd),fun b' hb=>by rw[ce _ _ hb];exact h.ne b' hb,fun j' hj d' hd' u hu hi=>hmono u (h.js j' hj d' hd' u hu hi),fun d' hd' u hu hi=>?_⟩;rw[hd]at hd';cases hd'
 by_cases e:u=v
 . subst e;rw[putBB_row];show(if u=u then _ else _)=true;rw[if_pos rfl,hi,Bool.or_true]
 . exact hmono u (h.vs d hd u (by omega) hi)
theorem OInv.next{f:BFunc}{R:Nat}{I O0:BB}{b:Nat}{x:Block}{O:BB}{j v:Nat}(h:OInv f R I O0 b x O j v)(hv:R<=v):OInv f R I O0 b x O (j+1) 0:=by
 refine⟨h.so,h.ne,fun j' hj d hd u hu hi=>?_,fun _ _ _ hu=>absurd hu (by omega)⟩
 by_cases e:j'=j
 . subst e;exact h.vs d hd u (by omega) hi
 . exact h.js j' (by omega) d hd u hu hi
structure AInv(f:BFunc)(R B:Nat)(g:RG)(b:Nat)(p:Nat->Bool)(I:BB)(more:Bool)(v:Nat):Prop where
  si:GF f I
  ms:more=false->g.more=false/\I=g.I
  bud:El f.blocks.length R I+b2n more<=B
  us: ∀u,u<v->p u=true->I b u=true
theorem AInv.put{f:BFunc}{R B:Nat}{g:RG}{b:Nat}{p:Nat->Bool}{I:BB}{more:Bool}{v:Nat}(h:AInv f R B g b p I more v)(hp:(p v&& !I b v)=true)(hb:b<f.blocks.length)(hv:v<R)(hl:p v=true->Dk f v b):AInv f R B g b p (putBB I b v true) true (v+1):=by
 simp only[Bool.and_eq_true,Bool.not_eq_true']at hp;have hf:=Wj (I:=I) hb hv hp.2;refine⟨Vo h.si (hl hp.1),(fun e=>by cases e),?_,fun u hu e=>?_⟩
 . have:=h.bud;show _+1<=B;omega
 . rw[putBB_row];show(if u=v then _ else _)=true
   by_cases eu:u=v
   . rw[if_pos eu]
   . rw[if_neg eu];exact h.us u (by omega) e
theorem MInv.next{f:BFunc}{R B:Nat}{g:RG}{b:Nat}{x:Block}{O I:BB}{more:Bool}{j v v':Nat}(h:MInv f R B g (b+1))(hx:f.blocks[b]?=some x)(hO:OInv f R g.I g.O b x O j v)(hj:x.nexts.length<=j)
 (hA:AInv f R B g b (fun v=>need v x.ins (Db x v||O b v)) I more v') (hv:R<=v'):MInv f R B ⟨I,O,more⟩ b:=by
 refine⟨hA.si,hO.so,by have:=h.kn;omega,fun e b' h1 h2=>?_,hA.bud⟩;obtain⟨m1,m2⟩:=hA.ms e;show GH f R I O b'
 by_cases eb:b'=b
 . subst eb;intro y hy u hu;rw[hx]at hy;cases hy;refine⟨fun d hd hi=>?_,fun hn=>hA.us u (by omega) hn⟩;obtain⟨j',hj'⟩:=List.getElem?_of_mem hd;have:=(List.getElem?_eq_some_iff.1 hj').1;exact hO.js j' (by omega) d hj' u hu (m2▸hi)
 . have:=h.cl m1 b' (by omega) h2;intro y hy u hu;have hh:=this y hy u hu;rw[hO.ne b' eb,m2];exact hh
theorem Ghost.endCell{n:Nat}{e:Av}{h:Ac}(b0 j b:Nat){sz0 sz:Nat}{cs:List AV}{es:List (List AV)}(hb0:h b0=some (.row false sz0 [cs]))(hj:cs[j]?=some (Ed b es))(hb:h b=some (Ia sz es))(hne:b0≠b):
 Ghost ⟨n,e,h⟩ ⟨n,e,hput (hrm h b) b0 (.row false sz0 [cs.set j (.lst false es)])⟩:=by
 cases hes:es.isEmpty with
 | false=>
  have e1:Ed b es= .ref b es.length 0 es.length:=by simp[Ed,hes,R5]
  have e2:Ia sz es= .row true sz es:=by simp[Ia,hes,LN]
  rw[e1]at hj;rw[e2]at hb;have:=Ghost.freezeCell (n:=n) (e:=e) b0 0 j b hb0 rfl hj hb rfl hne;rwa[List.drop_zero,List.take_length]at this
 | true=>
  have e0:es=[]:=List.isEmpty_iff.1 hes;subst e0;have hj':cs[j]?=some (.lst true []):=hj;refine(CE b0 (es':=[cs.set j (.lst false [])]) hb0 rfl ?_).trans (.of_sub ⟨rfl,fun _ _ h=>h,fun c x hx=>?_⟩)
  . intro i ds ds' h1 h2
    cases i with
    | zero=>
     simp only[List.getElem?_cons_zero,Option.some.injEq]at h1 h2;subst h1;subst h2;refine⟨by simp,fun k x y hx hy=>?_⟩;rw[List.getElem?_set]at hy
     by_cases hk:j=k
     . subst hk;rw[hj']at hx;cases hx;have hlt:=(List.getElem?_eq_some_iff.1 hj').1;rw[if_pos rfl,if_pos hlt]at hy;cases hy;exact⟨fun _=>rfl,fun H ι v h=>rel_unex h⟩
     . rw[if_neg hk,hx]at hy;cases hy;exact⟨fun h=>h,fun _ _ _ h=>h⟩
    | succ i=>simp at h1
  . have h1:hput (hrm h b) b0 (.row false sz0 [cs.set j (.lst false [])]) c=some x:=hx;show hput h b0 _ c=some x
    by_cases hc:c=b0
    . subst hc;rw[Aq]at h1 |-;exact h1
    . rw[AL _ _ hc]at h1 |-
      by_cases hcb:c=b
      . subst hcb;have:hrm h c c=some x:=h1;unfold hrm at this;rw[show Nat.beq c c=true from Nat.beq_refl c]at this
        cases this
      . rwa[E5 _ hcb]at h1
theorem cut_sane{f g:BFunc}(h:ay f g)(hs:f.sane):g.sane:=by
 obtain⟨c,x,l1,t,l2,v,h⟩:=h;have hxm:=List.mem_of_getElem? h.hx;have hlen:g.blocks.length=f.blocks.length:=by rw[h.hg,KC]
 have hreg:g.regs=f.regs:=by rw[h.hg];rfl
 have key: ∀y∈g.blocks,y∈f.blocks\/y=x.mid (l1++l2):=fun y hy=>by
  rw[h.hg]at hy;exact List.mem_or_eq_of_mem_set hy
 refine⟨by rw[hreg];exact hs.regs,fun y hy u hu=>?_,fun y hy=>?_,fun y hy d hd=>?_⟩
 . rw[hreg];rcases key y hy with hy | rfl
   . exact hs.low y hy u hu
   . refine hs.low x hxm u ?_;exact jI
 . rw[hreg];rcases key y hy with hy | rfl
   . exact hs.fin y hy
   . exact hs.fin x hxm
 . rw[hlen];rcases key y hy with hy | rfl
   . exact hs.next y hy d hd
   . exact hs.next x hxm d hd
theorem ZQ{f g:BFunc}(h:Cuts f g)(hs:f.sane):g.sane:=by
 induction h with
 | refl=>exact hs
 | step a _ ih=>exact ih (cut_sane a hs)
def IW(p:Nat->Bool):Nat->Nat
  | 0=>0
  | n+1=>IW p n+(if p n then 2^n else 0)
theorem Sk(p:Nat->Bool): ∀n,IW p n<2^n
 | 0=>by simp[IW]
 | n+1=>by
  have ih:=Sk p n
  grind[IW]
theorem IV(p:Nat->Bool): ∀n i,(IW p n).testBit i=(decide (i<n)&&p i)
 | 0,i=>by simp[IW]
 | n+1,i=>by
  have ih:=IV p n i;have hlt:=Sk p n;unfold IW
  by_cases hp:p n=true
  . rw[if_pos hp,Nat.add_comm]
    by_cases h1:i<n
    . rw[Nat.testBit_two_pow_add_gt h1,ih];simp[h1];omega
    . by_cases h2:i=n
      . subst h2;rw[Nat.testBit_two_pow_add_eq,ih];simp[hp]
      . have h3:2^n+IW p n<2^i:=by
         have:2^(n+1)<=2^i:=Nat.pow_le_pow_right (by omega) (by omega);rw[Nat.pow_succ]at this;omega
        rw[Nat.testBit_lt_two_pow h3];have: ¬i<n+1:=by omega
        simp[this]
  . rw[if_neg hp,Nat.add_zero,ih]
    by_cases h2:i=n
    . subst h2;simp[hp]
    . by_cases h1:i<n
      . have:i<n+1:=by omega
        simp[h1,this]
      . have: ¬i<n+1:=by omega
        simp[h1,this]
theorem K3{p:Nat->Bool}{n x:Nat}(h: ∀i,x.testBit i=(decide (i<n)&&p i)):x=IW p n:=Nat.eq_of_testBit_eq fun i=>by rw[h,IV]
theorem Gz{p q:Nat->Bool}{n:Nat}(h: ∀i,i<n->p i=q i):IW p n=IW q n:=K3 fun i=>by
 grind[IV,IW]
theorem d8{p q:Nat->Bool}{n:Nat}(h:IW p n=IW q n): ∀i,i<n->p i=q i:=fun i hi=>by
 have:=congrArg (fun x=>x.testBit i) h
 grind[IV,IW]
theorem Kl{x:Nat}(h:x<18446744073709551616):IntKind.u64.wrap (x:Int)=(x:Int):=Ch h
theorem Hk(w x:Nat):BitVec.ofInt w (x:Int)=BitVec.ofNat w x:=by
 grind
def wd(p:Nat->Bool):Nat:=IW p 64
theorem SU(p:Nat->Bool):wd p<18446744073709551616:=Sk p 64
theorem Rh(p:Nat->Bool)(i:Nat):(wd p).testBit i=(decide (i<64)&&p i):=IV p 64 i
theorem aK(p:Nat->Bool):wd p%2^64=wd p:=Nat.mod_eq_of_lt (SU p)
theorem aI(p q:Nat->Bool):AI .or (.int .u64 (wd p:Int)) (.int .u64 (wd q:Int))=some (.int .u64 (wd (fun v=>p v||q v):Int)):=by
 have e:(BitVec.ofInt 64 (wd p:Int)|||BitVec.ofInt 64 (wd q:Int)).toNat=wd (fun v=>p v||q v):=by
  rw[Hk,Hk,BitVec.toNat_or,BitVec.toNat_ofNat,BitVec.toNat_ofNat,aK,aK];refine K3 fun i=>?_
  grind[Rh,AI,wd]
 show some (AV.int .u64 (IntKind.u64.wrap ((BitVec.ofInt 64 (wd p:Int)|||BitVec.ofInt 64 (wd q:Int)).toNat:Int)))=_;rw[e,Kl (SU _)]
theorem PL(p q:Nat->Bool):AI .andNot (.int .u64 (wd p:Int)) (.int .u64 (wd q:Int))=some (.int .u64 (wd (fun v=>p v&& !q v):Int)):=by
 have e:(BitVec.ofInt 64 (wd p:Int)&&& ~~~BitVec.ofInt 64 (wd q:Int)).toNat=wd (fun v=>p v&& !q v):=by
  refine K3 fun i=>?_
  rw[Hk,Hk];rw[<-BitVec.getLsbD.eq_1,BitVec.getLsbD_and,BitVec.getLsbD_not,BitVec.getLsbD_ofNat,BitVec.getLsbD_ofNat,Rh,Rh]
  cases decide (i<64)<;>simp
 show some (AV.int .u64 (IntKind.u64.wrap ((BitVec.ofInt 64 (wd p:Int)&&& ~~~BitVec.ofInt 64 (wd q:Int)).toNat:Int)))=_;rw[e,Kl (SU _)]
theorem aJ{i:Nat}(h:i<64):AI .shl (.int .u64 1) (.int .i64 (i:Int))=some (.int .u64 (wd (fun v=>v==i):Int)):=by
 have e:(2:Nat)^i=wd (fun v=>v==i):=K3 fun k=>by
  grind
 have hl:(2:Nat)^i<18446744073709551616:=by rw[e];exact SU _
 have h1:min ((i:Int).toNat) IntKind.u64.bits=i:=by rw[Int.toNat_natCast];show min i 64=i;omega
 have h2:AI .shl (.int .u64 1) (.int .i64 (i:Int))=some (.int .u64 (IntKind.u64.wrap (1*2^(min ((i:Int).toNat) IntKind.u64.bits)))):=by
  have hn: ¬((i:Int)<0):=by omega
  simp[AI,isShift,Bm,hn]
 rw[h2,h1,Int.one_mul,show((2:Int)^i)=(((2:Nat)^i:Nat):Int) by simp,Kl hl,e]
theorem kc{p:Nat->Bool}{i:Nat}(h:i<64):AI .shr (.int .u64 (wd p:Int)) (.int .i64 (i:Int))=some (.int .u64 ((wd p/2^i:Nat):Int)):=by
 have h1:min ((i:Int).toNat) IntKind.u64.bits=i:=by rw[Int.toNat_natCast];show min i 64=i;omega
 grind[AI,wd,isShift,Bm]
theorem fU(p:Nat->Bool){i:Nat}(h:i<64):AI .and (.int .u64 ((wd p/2^i:Nat):Int)) (.int .u64 1)=some (.int .u64 ((b2n (p i):Nat):Int)):=by
 have hb:=Rh p i;have e:(BitVec.ofInt 64 ((wd p/2^i:Nat):Int)&&&BitVec.ofInt 64 (1:Int)).toNat=b2n (p i):=by
  have e1:BitVec.ofInt 64 (1:Int)=BitVec.ofNat 64 1:=by decide
  rw[Hk,e1,BitVec.toNat_and,BitVec.toNat_ofNat,BitVec.toNat_ofNat];have hl:wd p/2^i<2^64:=Nat.lt_of_le_of_lt (Nat.div_le_self _ _) (SU p);rw[Nat.mod_eq_of_lt hl,show 1%2^64=1 from rfl,Nat.and_one_is_mod];rw[Nat.testBit_eq_decide_div_mod_eq]at hb;simp only[h,decide_true,Bool.true_and]at hb
  cases hp:p i with
  | true=>rw[hp]at hb;simp at hb;simp[b2n,hb]
  | false=>rw[hp]at hb;simp at hb;simp[b2n];omega
 show some (AV.int .u64 (IntKind.u64.wrap ((BitVec.ofInt 64 ((wd p/2^i:Nat):Int)&&&BitVec.ofInt 64 (1:Int)).toNat:Int)))=_
 grind[Kl,b2n,AI,wd]
theorem kd(b:Bool):AI .eql (.int .u64 ((b2n b:Nat):Int)) (.int .u64 1)=some (.bool b):=by cases b<;>rfl
def nw(R:Nat):Nat:=(R+63)/64
def Bz(p:Nat->Bool)(j:Nat):List AV:=[AV.int .u64 ((wd (fun v=>p (64*j+v)):Nat):Int)]
def Bs(R:Nat)(p:Nat->Bool):List (List AV):=(List.range (nw R)).map (Bz p)
theorem Bi(R:Nat)(p:Nat->Bool):(Bs R p).length=nw R:=by simp[Bs]
theorem Co{R:Nat}{p:Nat->Bool}{j:Nat}(h:j<nw R):(Bs R p)[j]?=some (Bz p j):=by simp[Bs,h]
theorem TP{R i:Nat}(h:i<R):i/64<nw R:=by unfold nw;omega
theorem D1{p q:Nat->Bool}{j:Nat}(h: ∀v,v<64->p (64*j+v)=q (64*j+v)):Bz p j=Bz q j:=by
 grind[Bz,wd,Gz]
theorem DM{R:Nat}{p q:Nat->Bool}(h: ∀v,p v=q v):Bs R p=Bs R q:=List.map_congr_left fun j _=>D1 fun v _=>h _
theorem YG(R:Nat):List.replicate (nw R) [AV.int .u64 0]=Bs R (fun _=>false):=by
 have e: ∀j,Bz (fun _=>false) j=[AV.int .u64 0]:=fun j=>by
  unfold Bz wd;have:IW (fun _=>false) 64=0:=(K3 (p:=fun _=>false) (n:=64) (x:=0) (fun i=>by simp)).symm;rw[this];rfl
 refine List.ext_getElem? fun i=>?_
 grind[nw,Co,List.length_replicate,Bi,Bs]
theorem Kt{R:Nat}{p q:Nat->Bool}{j:Nat}(h1: ∀v,v/64≠j->q v=p v):(Bs R p).set j (Bz q j)=Bs R q:=by
 refine List.ext_getElem? fun i=>?_
 grind[nw,Co,Bi,D1,Bs,Bz]
theorem eZ{i v:Nat}(hv:v<64):(64*(i/64)+v==i)=(v==i%64):=by
 grind
theorem Ve(p:Nat->Bool)(i:Nat):Bz (fun v=>p v||v==i) (i/64)=[AV.int .u64 ((wd (fun v=>p (64*(i/64)+v)||v==i%64):Nat):Int)]:=by
 grind[Bz,wd,Gz,eZ]
theorem Yi(p:Nat->Bool)(i:Nat):Bz (fun v=>p v&& !(v==i)) (i/64)=[AV.int .u64 ((wd (fun v=>p (64*(i/64)+v)&& !(v==i%64)):Nat):Int)]:=by
 grind[Bz,wd,Gz,eZ]
theorem Xi{i:Nat}(h:i<=1000000000):AI .quo (.int .i64 (i:Int)) (.int .i64 64)=some (.int .i64 ((i/64:Nat):Int)):=K4 (b:=64) (by decide) (Jc (by omega))
theorem bD{i:Nat}:AI .rem (.int .i64 (i:Int)) (.int .i64 64)=some (.int .i64 ((i%64:Nat):Int)):=Fv (b:=64) (by decide)
def CL(v:Nat)(l:List Tac):Bool:=l.any fun t=>t.sets==(v:Int)
theorem Ob(v:Nat)(z:Bool): ∀l,need v l z=(need v l false||(z&& !CL v l))
 | []=>by simp[need,CL]
 | t::r=>by
  have ih:=Ob v z r
  grind[need,CL]
def JO(x:Block)(v:Nat):Bool:=need v x.ins (Db x v)
theorem V2(x:Block)(v:Nat)(o:Bool):need v x.ins (Db x v||o)=(JO x v||(o&& !CL v x.ins)):=by
 grind[JO,Ob,Db,need,CL]
def Xd(t:Tac)(p:Nat->Bool):Nat->Bool:=fun v=>p v&& !(t.sets==(v:Int))
def GX(us:List Int)(p:Nat->Bool):Nat->Bool:=fun v=>us.contains (v:Int)||p v
def MF(t:Tac)(q:Nat->Bool):Nat->Bool:=fun v=>q v||t.sets==(v:Int)
def tR(x:Block)(pre:List Nat):Nat->Bool:=pre.foldl (fun p k=>match x.ins[k]? with
  | some t=>GX t.uses (Xd t p)
  | none=>p) (Db x)
def tS(x:Block)(pre:List Nat):Nat->Bool:=pre.foldl (fun p k=>match x.ins[k]? with
  | some t=>MF t p
  | none=>p) (fun _=>false)
theorem gd{x:Block}{pre:List Nat}{k:Nat}{t:Tac}(h:x.ins[k]?=some t):tR x (pre++[k])=GX t.uses (Xd t (tR x pre)):=by
 grind[tR,GX,Xd]
theorem gc{x:Block}{pre:List Nat}{k:Nat}{t:Tac}(h:x.ins[k]?=some t):tS x (pre++[k])=MF t (tS x pre):=by
 grind[tS,MF]
theorem PQ(k:Nat):(List.range (k+1)).reverse=k::(List.range k).reverse:=by
 rw[List.range_succ,List.reverse_append];rfl
theorem jn(x:Block)(v:Nat): ∀(m:Nat) (p:Nat->Bool),m<=x.ins.length->((List.range m).reverse.foldl (fun p k=>match x.ins[k]? with
 | some t=>GX t.uses (Xd t p)
 | none=>p) p) v=need v (x.ins.take m) (p v)
 | 0,p,_=>by simp[need]
 | m+1,p,h=>by
  obtain⟨t,ht⟩:=Ae (l:=x.ins) (k:=m) (by omega);rw[PQ,List.foldl_cons,jn x v m _ (by omega),ht];have e:x.ins.take (m+1)=x.ins.take m++[t]:=by
   rw[List.take_add_one,ht];rfl
  rw[e,IE];congr 1;unfold GX Xd;simp[need,Bool.and_comm]
theorem jm(x:Block)(v:Nat): ∀(m:Nat) (p:Nat->Bool),m<=x.ins.length->((List.range m).reverse.foldl (fun p k=>match x.ins[k]? with
 | some t=>MF t p
 | none=>p) p) v=(p v||CL v (x.ins.take m))
 | 0,p,_=>by simp[CL]
 | m+1,p,h=>by
  obtain⟨t,ht⟩:=Ae (l:=x.ins) (k:=m) (by omega);rw[PQ,List.foldl_cons,jm x v m _ (by omega),ht];have e:x.ins.take (m+1)=x.ins.take m++[t]:=by
   rw[List.take_add_one,ht];rfl
  rw[e];unfold MF CL;rw[List.any_append];simp only[List.any_cons,List.any_nil,Bool.or_false]
  cases p v<;>cases t.sets==(v:Int)<;>cases (List.any (List.take m x.ins) fun t=>t.sets==(v:Int))<;>rfl
theorem kB(x:Block)(v:Nat):tR x (List.range x.ins.length).reverse v=JO x v:=by
 have:=jn x v x.ins.length (Db x) (Nat.le_refl _);rw[List.take_length]at this;exact this
theorem tS_all(x:Block)(v:Nat):tS x (List.range x.ins.length).reverse v=CL v x.ins:=by
 have:=jm x v x.ins.length (fun _=>false) (Nat.le_refl _);rw[List.take_length]at this;exact this.trans (by simp)
def Eu(R:Nat)(p:Nat->Bool):AObj:=.row true 1 (Bs R p)
theorem CT{R:Nat}{p q:Nat->Bool}(h: ∀v,p v=q v):some (Eu R p)=some (Eu R q):=congrArg (fun es=>some (AObj.row true 1 es)) (DM h)
theorem L7{d:Int}(h:0<=d)(v:Nat):(v==d.toNat)=(d==(v:Int)):=by
 grind
theorem gp{t:Tac}{p:Nat->Bool}(h:0<=t.sets)(v:Nat):(p v&& !(v==t.sets.toNat))=Xd t p v:=by unfold Xd;rw[L7 h]
theorem bo{t:Tac}{p:Nat->Bool}(h:0<=t.sets)(v:Nat):(p v||v==t.sets.toNat)=MF t p v:=by unfold MF;rw[L7 h]
theorem gq{t:Tac}{p:Nat->Bool}(h: ¬0<=t.sets)(v:Nat):p v=Xd t p v:=by
 grind[Xd]
theorem bp{t:Tac}{p:Nat->Bool}(h: ¬0<=t.sets)(v:Nat):p v=MF t p v:=by
 grind[MF]
theorem ah{p:Nat->Bool}(v:Nat):p v=GX [] p v:=by simp[GX]
theorem Wz{us:List Int}{k:Nat}{u:Int}{p:Nat->Bool}(h:us[k]?=some u)(hu:0<=u)(v:Nat):(GX (us.take k) p v||v==u.toNat)=GX (us.take (k+1)) p v:=by
 unfold GX;have e:us.take (k+1)=us.take k++[u]:=by rw[List.take_add_one,h];rfl
 grind
theorem d6{x:Block}(h:x.fin=2)(h0:0<=x.v)(v:Nat):(false||v==x.v.toNat)=Db x v:=by
 grind[L7,Db]
theorem iy{x:Block}(h: ¬x.fin=2)(v:Nat):false=Db x v:=by
 simp[Db,h]
def Ax(g:Nat->AV)(n:Nat):List (List AV):=(List.range n).map fun b=>[g b]
theorem An(g:Nat->AV)(n:Nat):(Ax g n).length=n:=by simp[Ax]
theorem BT{g:Nat->AV}{n b:Nat}(h:b<n):(Ax g n)[b]?=some [g b]:=by simp[Ax,h]
theorem JE(g:Nat->AV)(n:Nat):Ax g (n+1)=Ax g n++[[g n]]:=by
 unfold Ax;rw[List.range_succ,List.map_append];rfl
theorem CU{g g':Nat->AV}{n:Nat}(h: ∀b,b<n->g b=g' b):Ax g n=Ax g' n:=List.map_congr_left fun b hb=>by rw[h b (List.mem_range.1 hb)]
theorem Ht{g:Nat->AV}{n b:Nat}(x:AV):(Ax g n).set b [x]=Ax (fun c=>if c=b then x else g c) n:=by
 refine List.ext_getElem? fun i=>?_
 grind[BT,An,Ax]
theorem UL{g:Nat->AV}{n:Nat}{cs:List AV}(h:cs∈Ax g n): ∃b,b<n/\cs=[g b]:=by
 grind[Ax]
theorem Hu(x:AV)(n:Nat):List.replicate n [x]=Ax (fun _=>x) n:=by
 refine List.ext_getElem? fun i=>?_
 grind[BT,List.length_replicate,An,Ax]
theorem Ad{k:Nat->Bool}{p:Bool}{sz:Nat}{g:Nat->AV}{n:Nat}(h: ∀b,b<n->(g b).avoid k=true):(AObj.row p sz (Ax g n)).avoid k=true:=by
 cases p with
 | true=>rfl
 | false=>
  show(Ax g n).all (fun cs=>cs.all (AV.avoid k))=true;refine List.all_eq_true.2 fun cs hc=>?_
  obtain⟨b,hb,rfl⟩:=UL hc;simp[h b hb]
theorem Jf{k:Nat->Bool}{sz:Nat}{g:Nat->AV}{n:Nat}(h: ∀b,b<n->(g b).avoid k=true):(Pp sz (Ax g n)).avoid k=true:=by
 unfold Pp
 cases (Ax g n).isEmpty with
 | true=>rfl
 | false=>exact Ad h
theorem W1(sz:Nat)(g:Nat->AV)(n:Nat):Pp sz (Ax g (n+1))= .row false sz (Ax g n++[[g n]]):=by
 rw[JE];simp[Pp,MN]
theorem W4{t:Nat}{g:Nat->AV}{n:Nat}(h:0<n):Ed t (Ax g n)= .ref t n 0 n:=by
 grind[Nv,Ax,An,Ed]
theorem S8{sz:Nat}{g:Nat->AV}{n:Nat}(h:0<n):Pp sz (Ax g n)= .row false sz (Ax g n):=by
 obtain⟨m,rfl⟩: ∃m,n=m+1:=⟨n-1,by omega⟩
 rw[W1,JE]
def rG(q m:Nat):Nat->AV:=fun b=>.ref (3*b+q+16) m 0 m
theorem CM(k0 q m b:Nat):(rG q m b).avoid (kf k0)=true:=by
 simp[rG,AV.avoid,AV.flat,T9]
def F3(r0 r1 r2:Nat->AObj):Nat->AObj:=fun x=>if x%3=0 then r0 (x/3)else if x%3=1 then r1 (x/3)else r2 (x/3)
theorem q6(r0 r1 r2:Nat->AObj)(b:Nat):F3 r0 r1 r2 (3*b+0)=r0 b:=by
 grind[F3]
theorem qZ(r0 r1 r2:Nat->AObj)(b:Nat):F3 r0 r1 r2 (3*b+1)=r1 b:=by
 grind[F3]
theorem tF(r0 r1 r2:Nat->AObj)(b:Nat):F3 r0 r1 r2 (3*b+2)=r2 b:=by
 grind[F3]
def JW(r:Nat->AObj)(b:Nat)(o:AObj):Nat->AObj:=fun c=>if c=b then o else r c
theorem jy(r0 r1 r2:Nat->AObj)(b:Nat)(o:AObj)(x:Nat):F3 (JW r0 b o) r1 r2 x=if x=3*b+0 then o else F3 r0 r1 r2 x:=by
 grind[F3,JW]
theorem jx(r0 r1 r2:Nat->AObj)(b:Nat)(o:AObj)(x:Nat):F3 r0 (JW r1 b o) r2 x=if x=3*b+1 then o else F3 r0 r1 r2 x:=by
 grind[F3,JW]
theorem qY(r0 r1 r2:Nat->AObj)(b:Nat)(o:AObj)(x:Nat):F3 r0 r1 (JW r2 b o) x=if x=3*b+2 then o else F3 r0 r1 r2 x:=by
 grind[F3,JW]
theorem B7{k:Nat->Bool}{r0 r1 r2:Nat->AObj}(h0: ∀b,(r0 b).avoid k=true)(h1: ∀b,(r1 b).avoid k=true)(h2: ∀b,(r2 b).avoid k=true)(x:Nat):(F3 r0 r1 r2 x).avoid k=true:=by
 grind[F3]
def Dj(b:Nat):Nat:=if b<16 then b else 16+(b-16)%3
theorem eN(i:Nat):Dj (3*i+0+16)=16:=by unfold Dj;rw[if_neg (by omega)];omega
theorem eM(i:Nat):Dj (3*i+1+16)=17:=by unfold Dj;rw[if_neg (by omega)];omega
theorem eL(i:Nat):Dj (3*i+2+16)=18:=by unfold Dj;rw[if_neg (by omega)];omega
def CH(k:Nat)(o:Nat->AObj):Nat->AObj:=fun b=>if b<k then o b else .free
theorem Ep{k b:Nat}{o:Nat->AObj}(h:b<k):CH k o b=o b:=by unfold CH;rw[if_pos h]
theorem J0{k b:Nat}{o:Nat->AObj}(h:k<=b):CH k o b= .free:=by unfold CH;rw[if_neg (by omega)]
theorem Iy(k:Nat)(o:Nat->AObj):CH (k+1) o=JW (CH k o) k (o k):=funext fun b=>by
 grind[CH,JW]
theorem Gi{k:Nat}{o o':Nat->AObj}{b:Nat}(h:b<k)(ho: ∀c,c≠b->o' c=o c):CH k o'=JW (CH k o) b (o' b):=funext fun c=>by
 grind[CH,JW]
theorem Ey{k:Nat->Bool}{m:Nat}{o:Nat->AObj}(h: ∀b,(o b).avoid k=true)(b:Nat):(CH m o b).avoid k=true:=by
 unfold CH;split
 . exact h b
 . rfl
def AZ(I:BB)(b:Nat)(p:Nat->Bool):BB:=fun c=>if c=b then p else I c
theorem BM(I:BB)(b:Nat)(p:Nat->Bool):AZ I b p b=p:=by unfold AZ;rw[if_pos rfl]
theorem Du{I:BB}{b c:Nat}(p:Nat->Bool)(h:c≠b):AZ I b p c=I c:=by unfold AZ;rw[if_neg h]
theorem setRow_self(I:BB)(b:Nat):AZ I b (I b)=I:=funext fun c=>by
 unfold AZ;split
 . subst_vars;rfl
 . rfl
def Y0(p q:Nat->Bool)(k:Nat):Nat->Bool:=fun v=>p v||(decide (v/64<k)&&q v)
theorem cp(p q:Nat->Bool)(v:Nat):p v=Y0 p q 0 v:=by simp[Y0]
theorem UH{k v:Nat}(hv:v<64):(64*k+v)/64=k:=by omega
theorem cr(p q:Nat->Bool)(k:Nat):Bz (Y0 p q (k+1)) k=[AV.int .u64 ((wd (fun v=>p (64*k+v)||q (64*k+v)):Nat):Int)]:=by
 grind[Bz,wd,Gz,Y0,UH]
theorem Xp(p q:Nat->Bool)(k:Nat):Bz (Y0 p q k) k=Bz p k:=D1 fun v hv=>by
 grind[Y0,UH,Bz]
theorem cq{R:Nat}(p q:Nat->Bool)(k:Nat):(Bs R (Y0 p q k)).set k [AV.int .u64 ((wd (fun v=>p (64*k+v)||q (64*k+v)):Nat):Int)]=Bs R (Y0 p q (k+1)):=by
 grind[cr,Kt,Y0,Bs,wd]
theorem NI{R:Nat}{p q:Nat->Bool}(h: ∀v,v/64<nw R->p v=q v):Bs R p=Bs R q:=by
 refine List.ext_getElem? fun i=>?_
 grind[nw,Co,D1,UH,Bi,Bs]
theorem gH{R k:Nat}(p q:Nat->Bool)(h:nw R<=k):Bs R (Y0 p q k)=Bs R (fun v=>p v||q v):=NI fun v hv=>by
 grind[Y0,nw,Bs]
def LB(I:BB)(p:Nat->Bool)(x:Block)(j:Nat):Nat->Bool:=fun v=>p v||(x.nexts.take j).any fun d=>I d.toNat v
theorem outP_zero(I:BB)(p:Nat->Bool)(x:Block)(v:Nat):p v=LB I p x 0 v:=by simp[LB]
theorem YZ{I:BB}{p:Nat->Bool}{x:Block}{j:Nat}{d:Int}(h:x.nexts[j]?=some d)(v:Nat):(LB I p x j v||I d.toNat v)=LB I p x (j+1) v:=by
 unfold LB;have e:x.nexts.take (j+1)=x.nexts.take j++[d]:=by rw[List.take_add_one,h];rfl
 grind
def DP(I:BB)(p:Nat->Bool)(x:Block):Nat->Bool:=fun v=>p v||x.nexts.any fun d=>I d.toNat v
theorem outP_end{I:BB}{p:Nat->Bool}{x:Block}{j:Nat}(h:x.nexts.length<=j):LB I p x j=DP I p x:=by
 unfold LB DP;rw[List.take_of_length_le h]
def inN(x:Block)(o:Nat->Bool):Nat->Bool:=fun v=>JO x v||(o v&& !CL v x.ins)
theorem KT(x:Block)(o:Nat->Bool)(v:Nat):inN x o v=need v x.ins (Db x v||o v):=(V2 x v (o v)).symm
def HO(p q:Nat->Bool)(k:Nat):Nat->Bool:=fun v=>if v/64<k then p v else q v
theorem Zc(p q:Nat->Bool)(v:Nat):q v=HO p q 0 v:=by simp[HO]
theorem Ze(p q:Nat->Bool)(k:Nat):Bz (HO p q (k+1)) k=Bz p k:=D1 fun v hv=>by
 grind[HO,UH,Bz]
theorem TV(p q:Nat->Bool)(k:Nat):Bz (HO p q k) k=Bz q k:=D1 fun v hv=>by
 grind[HO,UH,Bz]
theorem Xt(p q:Nat->Bool){k v:Nat}(hv:v/64≠k):HO p q (k+1) v=HO p q k v:=by
 grind[HO]
theorem cW{R:Nat}(p q:Nat->Bool)(k:Nat):(Bs R (HO p q k)).set k (Bz p k)=Bs R (HO p q (k+1)):=by
 grind[Ze,Kt,Xt,Bs,HO,Bz]
def Po(p:Nat->Bool)(k:Nat):Nat:=wd (fun v=>p (64*k+v))
theorem SV{p q:Nat->Bool}{k:Nat}(h:Po p k=Po q k)(v:Nat)(hv:v/64=k):p v=q v:=by
 have:=d8 (n:=64) h (v%64) (Nat.mod_lt _ (by decide))
 grind
theorem Zd{p q:Nat->Bool}{k:Nat}(h:Po p k=Po q k)(v:Nat):HO p q k v=HO p q (k+1) v:=by
 grind[HO,SV,Xt,Po]
theorem cX{R k:Nat}(p q:Nat->Bool)(h:nw R<=k):Bs R (HO p q k)=Bs R p:=NI fun v hv=>by
 grind[HO,nw,Bs]
def chg(p q:Nat->Bool)(k:Nat):Bool:=(List.range k).any fun i=>Po p i !=Po q i
theorem iI{p q:Nat->Bool}{k:Nat}(h:(Po p k !=Po q k)=true):true=chg p q (k+1):=by
 grind[chg,Po]
theorem lL{p q:Nat->Bool}{k:Nat}(h:Po p k=Po q k):chg p q k=chg p q (k+1):=by
 grind[chg,Po]
theorem eO{p q:Nat->Bool}{R:Nat}(h:chg p q (nw R)=false)(v:Nat)(hv:v<R):p v=q v:=by
 unfold chg at h;rw[List.any_eq_false]at h;have:=h (v/64) (List.mem_range.2 (TP hv))
 grind[SV,chg,nw]
theorem iJ{p q:Nat->Bool}{R:Nat}(h:chg p q (nw R)=true): ∃v,v<64*nw R/\p v≠q v:=by
 unfold chg at h;obtain⟨i,hi,h2⟩:=List.any_eq_true.1 h;have hi:=List.mem_range.1 hi
 by_cases hex: ∃v,v<64/\p (64*i+v)≠q (64*i+v)
 . obtain⟨v,hv,hne⟩:=hex;exact⟨64*i+v,by omega,hne⟩
 . exfalso;have:Po p i=Po q i:=Gz fun v hv=>Classical.byContradiction fun hne=>hex ⟨v,hv,hne⟩
   simp[this]at h2
theorem falses_lt{n R:Nat}{I I':BB}(hm: ∀b v,I b v=true->I' b v=true){b v:Nat}(hb:b<n)(hv:v<R)(h:I b v=false)(h':I' b v=true):El n R I'<El n R I:=by
 have hle: ∀c v,(if I' c v then 0 else 1)<=(if I c v then 0 else 1:Nat):=fun c v=>by
  grind
 refine Rp (fun c _=>?_) hb ?_
 . exact Nat.le_of_not_lt fun hlt=>by
    have: ∀m,((List.range m).map fun v=>if I' c v then 0 else 1).sum<=((List.range m).map fun v=>if I c v then 0 else 1).sum:=fun m=>by
     induction m with
     | zero=>simp
     | succ m ih=>
      rw[List.range_succ,List.map_append,List.map_append,List.sum_append,List.sum_append];have:=hle c m;simp only[List.map_cons,List.map_nil,List.sum_cons,List.sum_nil,Nat.add_zero];omega
    have:=this R;omega
 . refine Rp (fun u _=>hle b u) hv ?_;rw[h,h'];simp
structure WaitI(n:Nat)(waits:Nat->Bool)(ws:List Nat):Prop where
  nod:ws.Nodup
  mem: ∀b,b∈ws↔b<n/\waits b=true
  cnt:((List.range n).map fun b=>if waits b then 1 else 0).sum=ws.length
def Cu(w:Nat->Bool)(b:Nat)(z:Bool):Nat->Bool:=fun c=>if c=b then z else w c
theorem CZ(w:Nat->Bool)(b:Nat)(z:Bool):Cu w b z b=z:=by unfold Cu;rw[if_pos rfl]
theorem CK{w:Nat->Bool}{b c:Nat}(z:Bool)(h:c≠b):Cu w b z c=w c:=by unfold Cu;rw[if_neg h]
theorem Sq(w:Nat->Bool)(b:Nat): ∀n,((List.range n).map fun c=>if Cu w b true c then 1 else 0).sum=((List.range n).map fun c=>if Cu w b false c then 1 else 0).sum+(if b<n then 1 else 0)
 | 0=>by simp
 | n+1=>by
  rw[List.range_succ,List.map_append,List.map_append,List.sum_append,List.sum_append,Sq w b n]
  grind[CZ,CK,Cu]
theorem Hd{w:Nat->Bool}{b:Nat}{z:Bool}(h:w b=z):Cu w b z=w:=funext fun c=>by
 grind[CZ,CK,Cu]
theorem WaitI.push{n:Nat}{w:Nat->Bool}{ws:List Nat}(h:WaitI n w ws){b:Nat}(hb:b<n)(hw:w b=false):WaitI n (Cu w b true) (ws++[b]):=by
 refine⟨?_,fun c=>?_,?_⟩
 . rw[List.nodup_append];refine⟨h.nod,by simp,fun x hx y hy=>?_⟩;rw[List.mem_singleton]at hy;subst hy;intro e;subst e;have:=((h.mem x).1 hx).2;rw[hw]at this;cases this
 . rw[List.mem_append,List.mem_singleton,h.mem]
   by_cases hc:c=b
   . subst hc;rw[CZ];exact⟨fun _=>⟨hb,rfl⟩,fun _=>.inr rfl⟩
   . rw[CK _ hc];exact⟨fun h=>h.elim id fun e=>absurd e hc,.inl⟩
 . rw[Sq,Hd hw,h.cnt,if_pos hb];simp
theorem WaitI.pop{n:Nat}{w:Nat->Bool}{ws:List Nat}{b:Nat}(h:WaitI n w (ws++[b])):WaitI n (Cu w b false) ws/\b<n/\w b=true:=by
 have hb:=(h.mem b).1 (List.mem_append.2 (.inr (List.mem_singleton.2 rfl)));have hn:=List.nodup_append.1 h.nod;have hnb:b∉ws:=fun hx=>hn.2.2 b hx b (List.mem_singleton.2 rfl) rfl
 refine⟨⟨hn.1,fun c=>?_,?_⟩,hb.1,hb.2⟩
 . by_cases hc:c=b
   . subst hc;rw[CZ];exact⟨fun h=>absurd h hnb,fun h=>by cases h.2⟩
   . rw[CK _ hc,<-h.mem,List.mem_append,List.mem_singleton];exact⟨.inl,fun h=>h.elim id fun e=>absurd e hc⟩
 . have e:=Sq w b n;rw[Hd hb.2,if_pos hb.1,h.cnt]at e;simp at e;omega
theorem WaitI.le{n:Nat}{w:Nat->Bool}{ws:List Nat}(h:WaitI n w ws):ws.length<=n:=by
 rw[<-h.cnt];have: ∀m,((List.range m).map fun b=>if w b then 1 else 0).sum<=m:=fun m=>by
  induction m with
  | zero=>simp
  | succ m ih=>
   rw[List.range_succ,List.map_append,List.sum_append];simp only[List.map_cons,List.map_nil,List.sum_cons,List.sum_nil,Nat.add_zero];split<;>omega
 exact this n
def JJ(w:Nat->Bool)(b:Nat):Nat->Bool:=Cu w b true
def Hb(w:Nat->Bool)(ws:List Nat)(b:Nat):List Nat:=bif w b then ws else ws++[b]
theorem WaitI.wait{n:Nat}{w:Nat->Bool}{ws:List Nat}(h:WaitI n w ws){b:Nat}(hb:b<n):WaitI n (JJ w b) (Hb w ws b):=by
 unfold JJ Hb
 cases hw:w b with
 | true=>rw[Hd hw];exact h
 | false=>exact h.push hb hw
structure LInv(f:BFunc)(R:Nat)(I O:BB)(w:Nat->Bool)(rest:List Nat):Prop where
  si:GF f I
  so:FM f O
  mono: ∀b x,f.blocks[b]?=some x->∀v,I b v=true->need v x.ins (Db x v||O b v)=true
  cl: ∀b,b<f.blocks.length->w b=false->b∈rest\/GH f R I O b
def PA(f:BFunc)(c a:Nat):List Nat:=((f.blocks[a]?).map fun x=>(x.nexts.filter (· ==(c:Int))).map fun _=>a).getD []
def aheadP(f:BFunc)(k j c:Nat):List Nat:=(List.range k).flatMap (PA f c)++((f.blocks[k]?).map fun x=>((x.nexts.take j).filter (· ==(c:Int))).map fun _=>k).getD []
def Aw(f:BFunc)(c:Nat):List Nat:=(List.range f.blocks.length).flatMap (PA f c)
theorem Dd(f:BFunc)(k c:Nat):aheadP f k 0 c=(List.range k).flatMap (PA f c):=by
 unfold aheadP
 cases f.blocks[k]?<;>simp
theorem GV{f:BFunc}{k j:Nat}{x:Block}{d:Int}(hx:f.blocks[k]?=some x)(hd:x.nexts[j]?=some d)(h0:0<=d)(c:Nat):aheadP f k (j+1) c=if c=d.toNat then aheadP f k j c++[k]else aheadP f k j c:=by
 unfold aheadP;rw[hx];have e:x.nexts.take (j+1)=x.nexts.take j++[d]:=by rw[List.take_add_one,hd];rfl
 grind
theorem GW{f:BFunc}{k j:Nat}{x:Block}(hx:f.blocks[k]?=some x)(h:x.nexts.length<=j)(c:Nat):aheadP f k j c=aheadP f (k+1) 0 c:=by
 rw[Dd,List.range_succ,List.flatMap_append];unfold aheadP;congr 1;rw[hx];simp only[Option.map_some,Option.getD_some];rw[List.take_of_length_le h];simp[PA,hx]
theorem Pe{f:BFunc}{a c:Nat}{x:Block}(hx:f.blocks[a]?=some x)(h:x.nexts.contains (c:Int)=true):a∈Aw f c:=by
 unfold Aw;rw[List.mem_flatMap];refine⟨a,List.mem_range.2 (List.getElem?_eq_some_iff.1 hx).1,?_⟩;unfold PA;rw[hx];simp only[Option.map_some,Option.getD_some,List.mem_map,List.mem_filter];exact⟨(c:Int),⟨List.contains_iff_mem.1 h,by simp⟩,trivial⟩
theorem JF{f:BFunc}{a c:Nat}(h:a∈Aw f c):a<f.blocks.length:=by
 grind[Aw,PA]
theorem GD(f:BFunc)(k j c:Nat):(aheadP f k j c).length<=2*k+2:=by
 have h1: ∀k,((List.range k).flatMap (PA f c)).length<=2*k:=fun k=>by
  induction k with
  | zero=>simp
  | succ k ih=>
   rw[List.range_succ,List.flatMap_append,List.length_append];have:(PA f c k).length<=2:=by
    unfold PA
    cases e:f.blocks[k]? with
    | none=>simp
    | some x=>
     simp only[Option.map_some,Option.getD_some,List.length_map];exact Nat.le_trans (List.length_filter_le _ _) (F0 x)
   simp only[List.flatMap_cons,List.flatMap_nil,List.append_nil];omega
 have h2:=h1 k;unfold aheadP;rw[List.length_append];have:(((f.blocks[k]?).map fun x=>((x.nexts.take j).filter (· ==(c:Int))).map fun _=>k).getD []).length<=2:=by
  cases e:f.blocks[k]? with
  | none=>simp
  | some x=>
   simp only[Option.map_some,Option.getD_some,List.length_map];refine Nat.le_trans (List.length_filter_le _ _) ?_;rw[List.length_take];have:=F0 x;omega
 omega
theorem LInv.first{f:BFunc}{R:Nat}{w:Nat->Bool}(hw: ∀b,b<f.blocks.length->w b=true):LInv f R (fun _ _=>false) (fun _ _=>false) w []:=
 ⟨fun _ _ h=>(by cases h),fun _ _ h=>(by cases h),fun _ _ _ _ h=>(by cases h),fun b hb h=>(by rw[hw b hb]at h;cases h)⟩
theorem LInv.wait{f:BFunc}{R:Nat}{I O:BB}{w:Nat->Bool}{a:Nat}{rest:List Nat}(h:LInv f R I O w (a::rest)):LInv f R I O (JJ w a) rest:=
 ⟨h.si,h.so,h.mono,fun b hb hw=>by
  unfold JJ at hw
  by_cases hba:b=a
  . subst hba;rw[CZ]at hw;cases hw
  . rw[CK _ hba]at hw;rcases h.cl b hb hw with h1 | h1
    . exact(List.mem_cons.1 h1).elim (fun e=>absurd e hba) .inl
    . exact .inr h1⟩
theorem VR{f:BFunc}{I O:BB}(hI:GF f I)(hO:FM f O){b:Nat}{x:Block}(hx:f.blocks[b]?=some x):FM f (AZ O b (DP I (O b) x)):=by
 have hx1: ∀v,DP I (O b) x v=true->outB f x v=true:=fun v hv=>by
  unfold DP at hv;rcases Bool.or_eq_true_iff.1 hv with h | h
  . obtain⟨y,hy,e⟩:=hO b v h;rw[hx]at hy;cases hy;exact e
  . obtain⟨d,hd,hv2⟩:=List.any_eq_true.1 h;have hp:=Nu (v:=v) hI hO hx hd b v (by unfold putBB;rw[if_pos ⟨rfl,rfl⟩,hv2,Bool.or_true]);obtain⟨y,hy,e⟩:=hp;rw[hx]at hy;cases hy;exact e
 intro c v hv
 by_cases hc:c=b
 . subst hc;rw[BM]at hv;exact⟨x,hx,hx1 v hv⟩
 . rw[Du _ hc]at hv;exact hO c v hv
theorem LInv.grow{f:BFunc}(hs:f.sane){R:Nat}{I O:BB}{w:Nat->Bool}{b:Nat}{x:Block}(hx:f.blocks[b]?=some x)(h:LInv f R I O w [])
 (hR:R=f.regs.toNat):let o:=DP I (O b) x
 LInv f R (AZ I b (inN x o)) (AZ O b o) (Cu w b false) (bif chg (inN x o) (I b) (nw R)then Aw f b else [])/\
 (chg (inN x o) (I b) (nw R)=true->El f.blocks.length (64*nw R) (AZ I b (inN x o))<El f.blocks.length (64*nw R) I)/\El f.blocks.length (64*nw R) (AZ I b (inN x o))<=El f.blocks.length (64*nw R) I:=by
 intro o;have hbl:b<f.blocks.length:=(List.getElem?_eq_some_iff.1 hx).1;have hso:FM f (AZ O b o):=VR h.si h.so hx;have hle: ∀v,I b v=true->inN x o v=true:=fun v hv=>by
  rw[KT];refine Bw ?_ (h.mono b x hx v hv);intro e;rcases Bool.or_eq_true_iff.1 e with e | e
  . rw[e];rfl
  . have:o v=true:=by show(O b v||_)=true;rw[e];rfl
    rw[this,Bool.or_true]
 have hmon: ∀c v,I c v=true->AZ I b (inN x o) c v=true:=fun c v hv=>by
  by_cases hc:c=b
  . subst hc;rw[BM];exact hle v hv
  . rw[Du _ hc];exact hv
 refine⟨⟨?_,hso,?_,?_⟩,?_,?_⟩
 . intro c v hv
   by_cases hc:c=b
   . subst hc;rw[BM,KT]at hv;exact soundI_need (I:=I) hso hx (by rw[BM];exact hv)
   . rw[Du _ hc]at hv;exact h.si c v hv
 . intro c y hy v hv
   by_cases hc:c=b
   . subst hc;rw[hx]at hy;cases hy;rw[BM]at hv |-;rw[<-KT];exact hv
   . rw[Du _ hc]at hv |-;exact h.mono c y hy v hv
 . intro c hc hw;obtain⟨y,hy⟩:=Ae hc;have hnx: ∀d∈y.nexts,0<=d:=fun d hd=>(hs.next y (List.mem_of_getElem? hy) d hd).1
   -- either nothing new is ahead of b, or c doesn't lead to b, or it is to wait
   by_cases hin:(chg (inN x o) (I b) (nw R)=true/\y.nexts.contains (b:Int)=true)
   . left;rw[hin.1];show c∈Aw f b;exact Pe hy hin.2
   . right;have hsame: ∀d∈y.nexts,∀v,v<R->AZ I b (inN x o) d.toNat v=I d.toNat v:=fun d hd v hv=>by
      by_cases hdb:d.toNat=b
      . have hcon:y.nexts.contains (b:Int)=true:=by
         rw[List.contains_iff_mem];have:d=(b:Int):=by have:=hnx d hd;omega
         rw[<-this];exact hd
        have hch:chg (inN x o) (I b) (nw R)=false:=by
         cases e:chg (inN x o) (I b) (nw R)with
         | false=>rfl
         | true=>exact absurd ⟨e,hcon⟩ hin
        rw[hdb,BM];exact eO hch v hv
      . rw[Du _ hdb]
     intro y' hy' v hv;rw[hy]at hy';cases hy'
     by_cases hcb:c=b
     . subst hcb;rw[hx]at hy;cases hy;rw[BM,BM];refine⟨fun d hd hid=>?_,fun hn=>?_⟩
       . rw[hsame d hd v hv]at hid;show(O c v||x.nexts.any fun d=>I d.toNat v)=true;rw[List.any_eq_true.2 ⟨d,hd,hid⟩,Bool.or_true]
       . rw[KT];exact hn
     . have hwc:w c=false:=by rw[CK _ hcb]at hw;exact hw
       have hcl:=(h.cl c hc hwc).elim (fun e=>by cases e) id y hy v hv;rw[Du _ hcb,Du _ hcb];exact⟨fun d hd hid=>hcl.1 d hd (by rw[hsame d hd v hv]at hid;exact hid),hcl.2⟩
 . intro hch;obtain⟨v,hv,hne⟩:=iJ hch;have h1:I b v=false:=by
    grind
   refine falses_lt hmon hbl hv h1 ?_;rw[BM]
   cases e:inN x o v with
   | true=>rfl
   | false=>rw[e,h1]at hne;exact absurd rfl hne
 . by_cases hex: ∃v,v<64*nw R/\inN x o v≠I b v
   . obtain⟨v,hv,hne⟩:=hex;have h1:I b v=false:=by
      cases e:I b v with
      | false=>rfl
      | true=>exact absurd (by rw[hle v e,e]) hne
     refine Nat.le_of_lt (falses_lt hmon hbl hv h1 ?_);rw[BM]
     cases e:inN x o v with
     | true=>rfl
     | false=>rw[e,h1]at hne;exact absurd rfl hne
   . refine Nat.le_of_eq ?_;unfold El;congr 1;refine List.map_congr_left fun c _=>?_
     congr 1;refine List.map_congr_left fun v hv=>?_
     by_cases hc:c=b
     . subst hc;rw[BM];rw[show inN x o v=I c v from Classical.byContradiction fun hne=>hex ⟨v,List.mem_range.1 hv,hne⟩]
     . rw[Du _ hc]
theorem LInv.closed{f:BFunc}{R:Nat}{I O:BB}{w:Nat->Bool}(h:LInv f R I O w [])(hw:WaitI f.blocks.length w [])(b:Nat)(hb:b<f.blocks.length):GH f R I O b:=
 (h.cl b hb (by
  cases e:w b with
  | false=>rfl
  | true=>exact absurd ((hw.mem b).2 ⟨hb,e⟩) (by simp))).elim (fun e=>by cases e) id
theorem LInv.inRow{f:BFunc}(hs:f.sane){R:Nat}(hR:R=f.regs.toNat){I O:BB}{w:Nat->Bool}(h:LInv f R I O w [])(hw:WaitI f.blocks.length w []){b:Nat}(hb:b<f.blocks.length):G3 R (I b)=XB f b:=by
 subst hR;exact J9 fun v hv=>Q5 hs h.si h.so (fun c hc=>h.closed hw c hc) hb hv
theorem LInv.outRow{f:BFunc}(hs:f.sane){R:Nat}(hR:R=f.regs.toNat){I O:BB}{w:Nat->Bool}(h:LInv f R I O w [])(hw:WaitI f.blocks.length w []){b:Nat}{x:Block}(hx:f.blocks[b]?=some x):G3 R (O b)=RU f x:=by
 subst hR;exact J9 fun v hv=>Ws hs h.si h.so (fun c hc=>h.closed hw c hc) hx hv
def BG(a:Nat):List AV:=[AV.int .i64 (a:Int)]
def U2(R:Nat)(x:Block):List AV:=[AV.lst false (Bs R (JO x))]
def U1(R:Nat)(x:Block):List AV:=[AV.lst false (Bs R (fun v=>CL v x.ins))]
def Pf(A:Nat->List Nat)(c:Nat):AV:=Ed (3*c+2+16) ((A c).map BG)
abbrev fI(f:BFunc)(m len:Nat):List AV:=[A2 f.nexts,.ref 7 f.blocks.length 0 f.blocks.length,.ref 8 f.blocks.length 0 f.blocks.length,.ref 9 f.blocks.length 0 f.blocks.length,.ref 3 f.blocks.length 0 f.blocks.length,.ref 4 f.blocks.length 0 f.blocks.length,.ref 6 m 0 len,.ref 5 f.blocks.length 0 f.blocks.length]
abbrev bC(n:Nat)(w:Nat->Bool):List (List AV):=Ax (fun b=>.bool (w b)) n
def rI(n R:Nat)(I:BB):Nat->AObj:=CH n (fun b=>Eu R (I b))
def rA(n:Nat)(A:Nat->List Nat):Nat->AObj:=CH n (fun c=>Ia 1 ((A c).map BG))
abbrev iP(f:BFunc)(R:Nat)(es:List (List AV))(len:Nat)(w:Nat->Bool):List AObj:=
  [.row false 8 [fI f es.length len],.row false 1 (Ax (rG 0 (nw R)) f.blocks.length),.row false 1 (Ax (rG 1 (nw R)) f.blocks.length),.row true 1 (bC f.blocks.length w),.row true 1 es,
   .row false 1 (Ax (Pf (Aw f)) f.blocks.length),.row true 1 (f.blocks.map (U2 R)),.row true 1 (f.blocks.map (U1 R))]
abbrev HS(f:BFunc)(R:Nat)(es:List (List AV))(len:Nat)(w:Nat->Bool)(F:Nat->AObj):Ac:=Hp (nb (.free:: .free::iP f R es len w)) F
theorem CJ(k0:Nat)(A:Nat->List Nat)(c:Nat):(Pf A c).avoid (kf k0)=true:=B9 _ (T9 _ _)
theorem Cz{k:Nat->Bool}{n:Nat}{A:Nat->List Nat}(b:Nat):(rA n A b).avoid k=true:=Ey (fun _=>Dr _ _) b
def CY(w:Nat->Bool)(es:List (List AV))(len b:Nat):List (List AV):=bif w b then es else CV es len (BG b)
def DE(w:Nat->Bool)(len b:Nat):Nat:=bif w b then len else len+1
theorem lQ{n b:Nat}{w:Nat->Bool}(z:Bool):(bC n w).set b [AV.bool z]=bC n (Cu w b z):=by
 show(Ax _ n).set b _=_;rw[Ht];refine CU fun c _=>?_
 unfold Cu;split<;>rfl
theorem H5{n b:Nat}{w:Nat->Bool}(z:Bool):(bC n w).set (0+((b:Nat):Int).toNat) [AV.bool z]=bC n (Cu w b z):=by
 rw[Nat.zero_add,Int.toNat_natCast];exact lQ z
structure StackI(n:Nat)(es:List (List AV))(ws:List Nat):Prop where
  top:es.take ws.length=ws.map BG
  le:ws.length<=es.length
  max:es.length<=n
theorem P2{n:Nat}{es:List (List AV)}{len:Nat}{cs:List AV}(h:len<=es.length)(hn:es.length<=n)(hl:len<n):(CV es len cs).length<=n:=by
 grind[CV,List.length_set,List.length_append]
theorem Ni{w:Nat->Bool}{ws:List Nat}{b:Nat}:DE w ws.length b=(Hb w ws b).length:=by
 grind[DE,Hb]
theorem StackI.wait{n:Nat}{es:List (List AV)}{ws:List Nat}{w:Nat->Bool}(h:StackI n es ws)(hw:WaitI n w ws){b:Nat}(hb:b<n):StackI n (CY w es ws.length b) (Hb w ws b):=by
 unfold CY Hb
 cases e:w b with
 | true=>exact h
 | false=>
  have hlt:=(hw.wait hb).le;unfold Hb at hlt;rw[e]at hlt;simp only[cond_false,List.length_append,List.length_cons,List.length_nil]at hlt;refine⟨?_,?_,P2 h.le h.max (by omega)⟩
  . simp only[cond_false,List.length_append,List.length_cons,List.length_nil];rw[J6 h.le,h.top,List.map_append];rfl
  . simp only[cond_false,List.length_append,List.length_cons,List.length_nil];exact LA h.le
theorem StackI.get{n:Nat}{es:List (List AV)}{ws:List Nat}{b:Nat}(h:StackI n es (ws++[b])):es[ws.length]?=some (BG b):=by
 have h1:=congrArg (fun l=>l[ws.length]?) h.top
 grind
theorem StackI.pop{n:Nat}{es:List (List AV)}{ws:List Nat}{b:Nat}(h:StackI n es (ws++[b])):StackI n es ws:=by
 refine⟨?_,by have:=h.le;simp at this;omega,h.max⟩;have h1:=congrArg (List.take ws.length) h.top
 grind
theorem Tn{n R:Nat}{I I':BB}(h: ∀b,b<n->Bs R (I b)=Bs R (I' b)):rI n R I=rI n R I':=funext fun b=>by
 unfold rI CH
 by_cases hb:b<n
 . rw[if_pos hb,if_pos hb];show AObj.row true 1 _=AObj.row true 1 _;rw[h b hb]
 grind
theorem bY{n R:Nat}{I:BB}{b:Nat}{p q:Nat->Bool}(h:Bs R p=Bs R q):rI n R (AZ I b p)=rI n R (AZ I b q):=Tn fun c _=>by
 unfold AZ;split
 . exact h
 . rfl
theorem Xh{n R:Nat}{I:BB}{b:Nat}{p:Nat->Bool}(h:Bs R (I b)=Bs R p):rI n R I=rI n R (AZ I b p):=Tn fun c _=>by
 unfold AZ;split
 . subst_vars;exact h
 . rfl
theorem gA{n R:Nat}{I:BB}{r1 r2:Nat->AObj}{b:Nat}(h:b<n):F3 (rI n R I) r1 r2 (3*b+0)= .row true 1 (Bs R (I b)):=(q6 _ _ _ _).trans (Ep h)
theorem qq{n R:Nat}{O:BB}{r0 r2:Nat->AObj}{b:Nat}(h:b<n):F3 r0 (rI n R O) r2 (3*b+1)= .row true 1 (Bs R (O b)):=(qZ _ _ _ _).trans (Ep h)
theorem Xg{n R:Nat}{I:BB}{r1 r2:Nat->AObj}{b:Nat}{p:Nat->Bool}(h:b<n):F3 (rI n R (AZ I b p)) r1 r2 (3*b+0)= .row true 1 (Bs R p):=by rw[gA h,BM]
theorem PZ{n R:Nat}{O:BB}{r0 r2:Nat->AObj}{b:Nat}{p:Nat->Bool}(h:b<n):F3 r0 (rI n R (AZ O b p)) r2 (3*b+1)= .row true 1 (Bs R p):=by rw[qq h,BM]
theorem bV{n R:Nat}{I:BB}{b:Nat}{p p':Nat->Bool}(hb:b<n):rI n R (AZ I b p')=JW (rI n R (AZ I b p)) b (.row true 1 (Bs R p')):=by
 have:=Gi (k:=n) (o:=fun c=>Eu R (AZ I b p c)) (o':=fun c=>Eu R (AZ I b p' c)) hb (fun c hc=>by rw[Du _ hc,Du _ hc]);refine this.trans ?_;rw[BM];rfl
theorem bT{n R:Nat}{O:BB}{r0 r2:Nat->AObj}{b k:Nat}{p p':Nat->Bool}{cs:List AV}(h:b<n)(hs:(Bs R p).set k cs=Bs R p')(x:Nat):
 F3 r0 (rI n R (AZ O b p')) r2 x=if x=3*b+1 then .row true 1 ((Bs R p).set (0+((k:Nat):Int).toNat) cs)else F3 r0 (rI n R (AZ O b p)) r2 x:=by
 rw[bV (p:=p) h,jx,Nat.zero_add,Int.toNat_natCast,hs]
theorem bU{n R:Nat}{I:BB}{r1 r2:Nat->AObj}{b k:Nat}{p p':Nat->Bool}{cs:List AV}(h:b<n)(hs:(Bs R p).set k cs=Bs R p')(x:Nat):
 F3 (rI n R (AZ I b p')) r1 r2 x=if x=3*b+0 then .row true 1 ((Bs R p).set (0+((k:Nat):Int).toNat) cs)else F3 (rI n R (AZ I b p)) r1 r2 x:=by
 rw[bV (p:=p) h,jy,Nat.zero_add,Int.toNat_natCast,hs]
theorem A1{k:Nat->Bool}{n R:Nat}{I:BB}(b:Nat):(rI n R I b).avoid k=true:=Ey (fun _=>rfl) b
theorem qo{n R:Nat}{I:BB}{b:Nat}{p:Nat->Bool}{r1 r2:Nat->AObj}(h: ∀v,I b v=p v)(x:Nat):F3 (rI n R I) r1 r2 x=F3 (rI n R (AZ I b p)) r1 r2 x:=by rw[Xh (DM h)]
theorem qm{n R:Nat}{O:BB}{b:Nat}{p:Nat->Bool}{r0 r2:Nat->AObj}(h: ∀v,O b v=p v)(x:Nat):F3 r0 (rI n R O) r2 x=F3 r0 (rI n R (AZ O b p)) r2 x:=by rw[Xh (DM h)]
theorem bx{n R:Nat}{I:BB}{b:Nat}{p q:Nat->Bool}{r1 r2:Nat->AObj}(h:Bs R p=Bs R q)(x:Nat):F3 (rI n R (AZ I b p)) r1 r2 x=F3 (rI n R (AZ I b q)) r1 r2 x:=by rw[bY h]
theorem bw{n R:Nat}{O:BB}{b:Nat}{p q:Nat->Bool}{r0 r2:Nat->AObj}(h:Bs R p=Bs R q)(x:Nat):F3 r0 (rI n R (AZ O b p)) r2 x=F3 r0 (rI n R (AZ O b q)) r2 x:=by rw[bY h]
theorem cN{p q:Nat->Bool}{k:Nat}{z:Bool}(h:((((wd (fun v=>p (64*k+v)):Nat):Int)) !=((wd (fun v=>q (64*k+v)):Nat):Int))=z):(Po p k !=Po q k)=z:=by
 rw[<-h]
 grind[wd,Po]
theorem Z5{a b:Nat}(h:(a !=b)=false):a=b:=by simpa using h
theorem Qb{P:Program}{o:Oper}{e:Av}{h:Ac}{g:FuncId}{fn:Func}{args:Array Operand}{tys:Array TypeId}{xs:List AV}{r:AV}(z:Nat){q:AObj}
 (ho:o.op= .call {callee:=.value (.func g),args:=args,argTypes:=tys}) (hf:P.funcs[g]?=some fn) (hn:(fn.name== "runtime.NumGoroutine")=false) (hb:fn.body.isSome=true) (hx:AY e args.toList=some xs)
 (hxa:xs.all (AV.avoid (mem [z]))=true) (hz:h z=some .free) (hq:q.avoid (mem [z])=true) (hra:r.avoid (mem [z])=true)
 (hcall:ACall P g xs (hput hNew z .free) (fun r' h'=>r'=r/\HSub (hput hNone z q) h')):OLoc P o e h [z] [(z,q)] (some r):=
 LF (hc:=hput hNew z .free) (hw:=hput hNone z q) [z] [(z,q)] ho hf hn hb hx hxa ⟨⟨.free,hz,rfl⟩,trivial⟩ (by simp[KL]) (AH hz (BE h)) ⟨⟨q,Aq _ _ _,Aq _ _ _,hq⟩,trivial⟩ hra hcall
def Wk(x y:AV):Prop:=(x.cell1=true->y.cell1=true)/\∀H ι v,Rel H ι x v->Rel H ι y v
theorem Wk.refl(x:AV):Wk x x:=⟨fun h=>h,fun _ _ _ h=>h⟩
theorem Wk.nil(b:Nat):Wk .nil (Ed b []):=⟨fun _=>rfl,fun H ι v h=>bE h⟩
def WkAll:List AV->List AV->Prop
  | [],[]=>True
  | x::xs,y::ys=>Wk x y/\WkAll xs ys
  | _,_=>False
theorem WkAll.len: ∀{xs ys:List AV},WkAll xs ys->ys.length=xs.length
 | [],[],_=>rfl
 | x::xs,y::ys,h=>by rw[List.length_cons,List.length_cons,WkAll.len h.2]
theorem WkAll.get: ∀{xs ys:List AV},WkAll xs ys->∀(j:Nat) (x y:AV),xs[j]?=some x->ys[j]?=some y->Wk x y
 | [],[],_,j,x,y,h1,h2=>by simp at h1
 | a::xs,b::ys,h,0,x,y,h1,h2=>by cases h1;cases h2;exact h.1
 | a::xs,b::ys,h,j+1,x,y,h1,h2=>WkAll.get h.2 j x y h1 h2
theorem Nh{cs cs':List AV}(h:WkAll cs cs'): ∀(i:Nat) (ds ds':List AV),[cs][i]?=some ds->[cs'][i]?=some ds'->ds'.length=ds.length/\∀(j:Nat) (x y:AV),ds[j]?=some x->ds'[j]?=some y->(x.cell1=true->y.cell1=true)/\∀H ι v,Rel H ι x v->Rel H ι y v:=fun i ds ds' h1 h2=>by
 cases i with
 | zero=>cases h1;cases h2;exact⟨h.len,fun j x y g1 g2=>h.get j x y g1 g2⟩
 | succ i=>simp at h1
theorem weak_col{n:Nat}{x:AV}{g:Nat->AV}(h: ∀b,Wk x (g b)): ∀(i:Nat) (ds ds':List AV),(List.replicate n [x])[i]?=some ds->(Ax g n)[i]?=some ds'->ds'.length=ds.length/\∀(j:Nat) (x y:AV),ds[j]?=some x->ds'[j]?=some y->(x.cell1=true->y.cell1=true)/\∀H ι v,Rel H ι x v->Rel H ι y v:=fun i ds ds' h1 h2=>by
 grind[UL,List.mem_of_getElem?,Wk,Ax]
abbrev qR(f:BFunc)(R k:Nat):List AV:=[A2 f.nexts,.ref 7 f.blocks.length 0 f.blocks.length,Ed 8 ((f.blocks.take k).map (U2 R)),Ed 9 ((f.blocks.take k).map (U1 R)),Ed 3 (Ax (rG 0 (nw R)) k),Ed 4 (Ax (rG 1 (nw R)) k),.nil,.ref 5 f.blocks.length 0 f.blocks.length]
theorem Jh(f:BFunc)(R:Nat){k0:Nat}(h:10<=k0){a b c d:List (List AV)}:(AObj.row false 8 [[A2 f.nexts,AV.ref 7 f.blocks.length 0 f.blocks.length,Ed 8 a,Ed 9 b,Ed 3 c,Ed 4 d,AV.nil,AV.ref 5 f.blocks.length 0 f.blocks.length]]).avoid (kf k0)=true:=by
 have hk: ∀c,c<10->kf k0 c=true:=fun c hc=>jj (by omega)
 show(List.all [_,_,_,_,_,_,_,_] (AV.avoid (kf k0))&&true)=true;simp only[List.all_cons,List.all_nil,Bool.and_true,Bool.and_eq_true];exact⟨rfl,hk 7 (by omega),B9 _ (hk 8 (by omega)),B9 _ (hk 9 (by omega)),B9 _ (hk 3 (by omega)),B9 _ (hk 4 (by omega)),rfl,hk 5 (by omega)⟩
theorem lR{n d k:Nat}{A A':Nat->List Nat}(h: ∀c,A' c=if c=d then A c++[k]else A c):(Ax (Pf A) n).set (0+d) [Ed (3*d+2+16) ((A d).map BG++[BG k])]=Ax (Pf A') n:=by
 grind[Ht,CU,Pf,Ax,Ed,BG]
theorem kX{n d k:Nat}{A A':Nat->List Nat}{r0 r1:Nat->AObj}(hd:d<n)(h: ∀c,A' c=if c=d then A c++[k]else A c)(x:Nat):F3 r0 r1 (rA n A') x=if x=3*d+2 then Ia 1 ((A d).map BG++[BG k])else F3 r0 r1 (rA n A) x:=by
 have e:rA n A'=JW (rA n A) d (Ia 1 ((A' d).map BG)):=Gi hd fun c hc=>by rw[h,if_neg hc]
 grind[qY,F3,rA,Ia,BG]
theorem To{n:Nat}{A A':Nat->List Nat}(h: ∀c,A c=A' c):rA n A=rA n A':=by rw[funext h]
theorem kY{n:Nat}{A:Nat->List Nat}{r0 r1:Nat->AObj}{b:Nat}(h:b<n):F3 r0 r1 (rA n A) (3*b+2)=Ia 1 ((A b).map BG):=(tF _ _ _ _).trans (Ep h)
theorem gz{k R:Nat}{I:BB}{r1 r2:Nat->AObj}:F3 (rI k R I) r1 r2 (3*k+0)= .free:=(q6 _ _ _ _).trans (J0 (Nat.le_refl _))
theorem gy{k R:Nat}{O:BB}{r0 r2:Nat->AObj}:F3 r0 (rI k R O) r2 (3*k+1)= .free:=(qZ _ _ _ _).trans (J0 (Nat.le_refl _))
abbrev B0:BB:=fun _ _=>false
theorem bX{k R:Nat}{r1 r2:Nat->AObj}(x:Nat):F3 (rI (k+1) R B0) r1 r2 x=if x=3*k+0 then Eu R (fun _=>false)else F3 (rI k R B0) r1 r2 x:=by
 unfold rI;rw[Iy,jy]
theorem bW{k R:Nat}{r0 r2:Nat->AObj}(x:Nat):F3 r0 (rI (k+1) R B0) r2 x=if x=3*k+1 then Eu R (fun _=>false)else F3 r0 (rI k R B0) r2 x:=by
 unfold rI;rw[Iy,jx]
theorem rI_start{n R x:Nat}:F3 (rI 0 R B0) (rI 0 R B0) (rA n (fun _=>[])) x= .free:=by
 unfold F3 rI rA CH;rw[if_neg (Nat.not_lt_zero _)];split
 . rfl
 . split
   . rfl
   . split<;>rfl
theorem bq{f:BFunc}{R k:Nat}{x:Block}(hx:f.blocks[k]?=some x):[A2 f.nexts,AV.ref 7 f.blocks.length 0 f.blocks.length,Ed 8 ((f.blocks.take k).map (U2 R)++[U2 R x]),Ed 9 ((f.blocks.take k).map (U1 R)++[U1 R x]),Ed 3 (Ax (rG 0 (nw R)) k++[[rG 0 (nw R) k]]),Ed 4 (Ax (rG 1 (nw R)) k++[[rG 1 (nw R) k]]),AV.nil,AV.ref 5 f.blocks.length 0 f.blocks.length]=qR f R (k+1):=by
 have e: ∀g:Block->List AV,(f.blocks.take k).map g++[g x]=(f.blocks.take (k+1)).map g:=fun g=>by
  rw[List.take_add_one,hx,List.map_append];rfl
 rw[e (U2 R),e (U1 R),<-JE,<-JE]
theorem PB{f:BFunc}{k:Nat}{x:Block}(hx:f.blocks[k]?=some x)(g:Block->List AV):(f.blocks.take k).map g++[g x]=(f.blocks.take (k+1)).map g:=by
 rw[List.take_add_one,hx,List.map_append];rfl
theorem gm{f:BFunc}{R:Nat}(h:0<f.blocks.length):qR f R f.blocks.length=[A2 f.nexts,AV.ref 7 f.blocks.length 0 f.blocks.length,.ref 8 f.blocks.length 0 f.blocks.length,.ref 9 f.blocks.length 0 f.blocks.length,.ref 3 f.blocks.length 0 f.blocks.length,.ref 4 f.blocks.length 0 f.blocks.length,AV.nil,AV.ref 5 f.blocks.length 0 f.blocks.length]:=by
 have e: ∀(t:Nat) (g:Block->List AV),Ed t ((f.blocks.take f.blocks.length).map g)= .ref t f.blocks.length 0 f.blocks.length:=fun t g=>by
  rw[List.take_length];have:=Nv (b:=t) (es:=f.blocks.map g) (k:=0) (by rw[List.length_map];exact h)
  grind
 show [_,_,Ed 8 _,Ed 9 _,Ed 3 _,Ed 4 _,_,_]=_;rw[e,e,W4 h,W4 h]
theorem W2{l:List Block}{g:Block->List AV}(h:0<l.length):Ia 1 (l.map g)= .row true 1 (l.map g):=by
 cases l with
 | nil=>simp at h
 | cons x l=>rfl
theorem Jq{α:Type}{l:List α}{g:α->List AV}(h: ∀x,(g x).length=1): ∀cs∈l.map g,cs.length=1:=fun cs hc=>by
 grind
theorem Gq{α:Type}{l:List α}{g:α->List AV}(h: ∀x,(g x).all AV.isPure1=true): ∀cs∈l.map g,cs.all AV.isPure1=true:=fun cs hc=>by
 grind
def kS:Nat->Bool:=fun c=>(Nat.ble 2 c&&Nat.blt c 10)||Nat.ble 16 c
def KA(h g:Ac):Ac:=fun c=>bif kS c then g c else h c
theorem dp(x:Nat):kS (x+16)=true:=by
 unfold kS;rw[show Nat.ble 16 (x+16)=true by rw[Nat.ble_eq];omega];simp
theorem dt{c:Nat}(h:kS c=false):c=0\/c=1\/(10<=c/\c<16):=by
 unfold kS at h;simp only[Bool.or_eq_false_iff,Bool.and_eq_false_iff]at h;obtain⟨h1,h2⟩:=h;have h3: ¬16<=c:=fun e=>by rw[<-Nat.ble_eq]at e;rw[e]at h2;cases h2
 rcases h1 with h1 | h1
 . have: ¬2<=c:=fun e=>by rw[<-Nat.ble_eq]at e;rw[e]at h1;cases h1
   omega
 . have: ¬c<10:=fun e=>by
    have:Nat.blt c 10=true:=by unfold Nat.blt;rw[Nat.ble_eq];omega
    rw[this]at h1;cases h1
   omega
theorem M0{c:Nat}(h:kS c=true):(2<=c/\c<10)\/16<=c:=by
 unfold kS at h
 (simp_all;done)
theorem Kz(h g:Ac)(x:Nat):KA h g (x+16)=g (x+16):=by unfold KA;rw[dp];rfl
theorem Hi{h g:Ac}{c:Nat}(hc:kS c=true):KA h g c=g c:=by unfold KA;rw[hc];rfl
theorem RJ{h g:Ac}{c:Nat}(hc:kS c=false):KA h g c=h c:=by unfold KA;rw[hc];rfl
theorem ai(f:BFunc)(R:Nat)(es:List (List AV))(len:Nat)(w:Nat->Bool): ∀i,i<8->(U3 (iP f R es len w) i).avoid kS=true:=fun i hi=>by
 have h3: ∀q b,(rG q (nw R) b).avoid kS=true:=fun q b=>by
  simp[rG,AV.avoid,AV.flat,dp]
 have h7: ∀A b,(Pf A b).avoid kS=true:=fun A b=>B9 _ (dp _)
 rcases(by omega:i=0\/i=1\/i=2\/i=3\/i=4\/i=5\/i=6\/i=7)with rfl | rfl | rfl | rfl | rfl | rfl | rfl | rfl
 . rfl
 . exact Ad (fun b _=>h3 0 b)
 . exact Ad (fun b _=>h3 1 b)
 . rfl
 . rfl
 . exact Ad (fun b _=>h7 _ b)
 . rfl
 . rfl
theorem fw(f:BFunc)(R:Nat)(es:List (List AV))(len:Nat)(w:Nat->Bool)(F:Nat->AObj){i:Nat}(hi:i<8):HS f R es len w F (2+i)=some (U3 (iP f R es len w) i):=by
 show Hp (nb _) F (2+i)=_;rw[IT _ _ (by omega)];unfold nb;congr 1;rw[Nat.add_comm 2 i];rfl
theorem Pg{f:BFunc}{R:Nat}{es:List (List AV)}{len:Nat}{w:Nat->Bool}{F:Nat->AObj}(hF: ∀x,(F x).avoid kS=true){c:Nat}(hc:kS c=true): ∃q,HS f R es len w F c=some q/\q.avoid kS=true:=by
 rcases M0 hc with h | h
 . obtain⟨i,rfl⟩: ∃i,c=2+i:=⟨c-2,by omega⟩
   exact⟨_,fw f R es len w F (by omega),ai f R es len w i (by omega)⟩
 . obtain⟨x,rfl⟩: ∃x,c=x+16:=⟨c-16,by omega⟩
   exact⟨_,Ao _ _ _,hF x⟩
def LowS(h:Ac):Nat->List AObj->Prop
  | _,[]=>True
  | i,o::L=>h i=some o/\LowS h (i+1) L
theorem LowS.get{h:Ac}: ∀{L:List AObj} {i c:Nat},LowS h i L->c<L.length->h (i+c)=some (U3 L c)
 | o::L,i,0,hl,_=>hl.1
 | o::L,i,c+1,hl,hc=>by
  have:=LowS.get (L:=L) (i:=i+1) (c:=c) hl.2 (by simpa using hc);rw[show i+(c+1)=i+1+c by omega];exact this
theorem fv{h:Ac}{f:BFunc}{R:Nat}{es:List (List AV)}{len:Nat}{w:Nat->Bool}{F:Nat->AObj}(h1:LowS h 2 (iP f R es len w))(h2: ∀x,h (x+16)=some (F x)){c:Nat}(hc:kS c=true):h c=HS f R es len w F c:=by
 rcases M0 hc with hh | hh
 . obtain⟨i,rfl⟩: ∃i,c=2+i:=⟨c-2,by omega⟩
   rw[fw f R es len w F (by omega)];exact h1.get (by show i<8;omega)
 . obtain⟨x,rfl⟩: ∃x,c=x+16:=⟨c-16,by omega⟩
   rw[h2];exact(Ao _ _ _).symm
theorem lu{h:Ac}{f:BFunc}{R:Nat}{es:List (List AV)}{len:Nat}{w:Nat->Bool}{F:Nat->AObj}(h1:LowS h 2 (iP f R es len w))(h2: ∀x,h (x+16)=some (F x)):HSub (KA hNone (HS f R es len w F)) h:=fun c o ho=>by
 cases e:kS c with
 | true=>rw[Hi e]at ho;rw[fv h1 h2 e];exact ho
 | false=>rw[RJ e]at ho;cases ho
theorem NW{k:Nat}:CY (fun b=>decide (b<k)) ((List.range k).map BG) k k=(List.range (k+1)).map BG:=by
 unfold CY CV;simp[List.range_succ]
theorem Li(k:Nat):Cu (fun b=>decide (b<k)) k true=fun b=>decide (b<k+1):=funext fun c=>by
 grind[Cu]
theorem Qr(k:Nat):DE (fun b=>decide (b<k)) k k=k+1:=by
 unfold DE;simp
theorem dF{h:Ac}{f:BFunc}{R:Nat}{es:List (List AV)}{len:Nat}{w:Nat->Bool}{F:Nat->AObj}(h1:LowS h 2 (iP f R es len w))(h2: ∀x,h (x+16)=some (F x)):Eg h kS=HS f R es len w F:=funext fun c=>by
 unfold Eg
 cases e:kS c with
 | true=>exact fv h1 h2 e
 | false=>
  rcases dt e with rfl | rfl | hc
  . rfl
  . rfl
  . show some AObj.free=Hp (nb (.free:: .free::iP f R es len w)) F c;rw[IT _ _ (by omega)];show some AObj.free=some (U3 (.free:: .free::iP f R es len w) c);rw[nth_out (by show 10<=c;omega)]
theorem N7{P:Program}{o:Oper}{e:Av}{h:Ac}{g:FuncId}{fn:Func}{args:Array Operand}{tys:Array TypeId}{xs:List AV}{r:AV}{f:BFunc}{R:Nat}{es es':List (List AV)}{len len':Nat}{w w':Nat->Bool}{F F':Nat->AObj}
 (ho:o.op= .call {callee:=.value (.func g),args:=args,argTypes:=tys}) (hf:P.funcs[g]?=some fn) (hn:(fn.name== "runtime.NumGoroutine")=false) (hb:fn.body.isSome=true) (hx:AY e args.toList=some xs)
 (hxa:xs.all (AV.avoid kS)=true) (h1:LowS h 2 (iP f R es len w)) (h2: ∀x,h (x+16)=some (F x)) (hF: ∀x,(F x).avoid kS=true) (hF': ∀x,(F' x).avoid kS=true) (hra:r.avoid kS=true)
 (hcall:ACall P g xs (HS f R es len w F) (fun r' h'=>r'=r/\HSub (HS f R es' len' w' F') h')):MC P o e h (KA h (HS f R es' len' w' F')) r:=
 KI (hw:=HS f R es' len' w' F') kS ho hf hn hb hx hxa (fun b hb=>by rw[fv h1 h2 hb];exact Pg hF hb) (dF h1 h2) (fun b hb=>RJ hb)
  (fun b hb=>by obtain⟨q,q1,q2⟩:=Pg (f:=f) (R:=R) (es:=es') (len:=len') (w:=w') hF' hb;exact⟨q,q1,(Hi hb).trans q1,q2⟩) hra hcall
theorem EW{α:Type}(l:List α):l=[]\/∃L b,l=L++[b]:=by
 cases h:l.reverse with
 | nil=>left;exact List.reverse_eq_nil_iff.1 h
 | cons b r=>right;exact⟨r.reverse,b,by rw[<-List.reverse_reverse l,h,List.reverse_cons]⟩
theorem Vg(n:Nat):WaitI n (fun b=>decide (b<0)) []:=by
 refine⟨List.nodup_nil,fun b=>by simp,?_⟩
 induction n with
 | zero=>rfl
 | succ n ih=>rw[List.range_succ,List.map_append,List.sum_append,ih];simp
theorem Iq{n:Nat}: ∀k,k<=n->WaitI n (fun b=>decide (b<k)) (List.range k)
 | 0,_=>Vg n
 | k+1,h=>by
  have:=(Iq (n:=n) k (by omega)).push (b:=k) (by omega) (by simp);rw[Li,<-List.range_succ]at this;exact this
theorem stackI_range(n:Nat):StackI n ((List.range n).map BG) (List.range n):=by
 refine⟨?_,by simp,by simp⟩;rw[List.take_of_length_le (by simp)]
theorem KE{L:List Nat}{b:Nat}(h:L.length<=1000000):AI .sub (.int .i64 (((L++[b]).length:Nat):Int)) (.int .i64 1)=some (.int .i64 (L.length:Int)):=by
 grind[AI,Bm,isShift,BD]
theorem gW{F F' n a b:Nat}(h:F'<F)(ha:a<=n):F'*(n+1)+a<F*(n+1)+b:=by
 have h1:(F'+1)*(n+1)<=F*(n+1):=Nat.mul_le_mul_right _ h
 grind
theorem gX{F F' n a b:Nat}(h:F'<=F)(ha:a<b):F'*(n+1)+a<F*(n+1)+b:=by
 have h1:F'*(n+1)<=F*(n+1):=Nat.mul_le_mul_right _ h;omega
structure LQ where
  I:BB
  O:BB
  w:Nat->Bool
  ws:List Nat
  es:List (List AV)
structure LQI(f:BFunc)(R:Nat)(q:LQ):Prop where
  k:LInv f R q.I q.O q.w []
  wt:WaitI f.blocks.length q.w q.ws
  st:StackI f.blocks.length q.es q.ws
def ud(f:BFunc)(R:Nat)(q:LQ):Nat:=El f.blocks.length (64*nw R) q.I*(f.blocks.length+1)+q.ws.length
def tU(n:Nat):LQ:=⟨B0,B0,fun b=>decide (b<n),List.range n,(List.range n).map BG⟩
theorem LQI.first(f:BFunc)(R:Nat):LQI f R (tU f.blocks.length):=⟨LInv.first fun b hb=>decide_eq_true hb,Iq _ (Nat.le_refl _),stackI_range _⟩
structure LP where
  w:Nat->Bool
  ws:List Nat
  es:List (List AV)
  j:Nat
structure LPI(f:BFunc)(R:Nat)(I O:BB)(b:Nat)(p:LP):Prop where
  k:LInv f R I O p.w ((Aw f b).drop p.j)
  wt:WaitI f.blocks.length p.w p.ws
  st:StackI f.blocks.length p.es p.ws
theorem LPI.next{f:BFunc}{R:Nat}{I O:BB}{b:Nat}{p:LP}{a:Nat}(h:LPI f R I O b p)(ha:(Aw f b)[p.j]?=some a):LPI f R I O b ⟨JJ p.w a,Hb p.w p.ws a,CY p.w p.es p.ws.length a,p.j+1⟩:=by
 have hlt:=JF (List.mem_of_getElem? ha);have hk:=h.k;rw[List.drop_eq_getElem_cons (List.getElem?_eq_some_iff.1 ha).1,(List.getElem?_eq_some_iff.1 ha).2]at hk;exact⟨hk.wait,h.wt.wait hlt,h.st.wait h.wt hlt⟩
theorem LPI.done{f:BFunc}{R:Nat}{I O:BB}{b:Nat}{p:LP}(h:LPI f R I O b p)(hj:(Aw f b).length<=p.j):LQI f R ⟨I,O,p.w,p.ws,p.es⟩:=by
 have hk:=h.k;rw[List.drop_eq_nil_iff.2 hj]at hk;exact⟨hk,h.wt,h.st⟩
theorem Ki(f:BFunc)(c:Nat):(Aw f c).length<=2*f.blocks.length+2:=by
 have:=GD f f.blocks.length 0 c
 grind[Dd,Aw]
theorem Fh{l:List (List Bool)}{k:Nat}{x:List Bool}(h:l[k]?=some x):(l.take k).map CW++[CW x]=(l.take (k+1)).map CW:=by
 rw[List.take_add_one,h,List.map_append];rfl
theorem OA{f:BFunc}{k:Nat}(h:k<f.blocks.length):(HV f)[k]?=some (XB f k):=by simp[HV,h]
theorem Mn{f:BFunc}{k:Nat}{x:Block}(h:f.blocks[k]?=some x):(HK f)[k]?=some (RU f x):=by simp[HK,h]
theorem Mi{k0:Nat}(h:13<=k0){a b:List (List AV)}:(AObj.row false 2 [[Ed 11 a,Ed 12 b]]).avoid (kf k0)=true:=by
 have hk: ∀c,c<13->kf k0 c=true:=fun c hc=>jj (by omega)
 show(List.all [_,_] (AV.avoid (kf k0))&&true)=true
 grind[B9,Ed,kf]
structure Site where
  at_:Nat
  r:Bool
  s:Bool
def Ej(G:Nat->Bool):List Tac->Nat->List Tac
  | [],_=>[]
  | t::l,j=>bif G j then Ej G l (j+1)else t::Ej G l (j+1)
theorem R2(G:Nat->Bool)(l2:List Tac): ∀(l1:List Tac) (j:Nat),Ej G (l1++l2) j=Ej G l1 j++Ej G l2 (j+l1.length)
 | [],j=>by simp[Ej]
 | t::l,j=>by
  rw[List.cons_append,Ej,Ej,R2 G l2 l (j+1),List.length_cons]
  grind
theorem Jw{G G':Nat->Bool}: ∀(l:List Tac) (j:Nat),(∀i,j<=i->i<j+l.length->G i=G' i)->Ej G l j=Ej G' l j
 | [],_,_=>rfl
 | t::l,j,h=>by
  rw[Ej,Ej,h j (Nat.le_refl _) (by simp),Jw l (j+1) fun i h1 h2=>h i (by omega) (by simp;omega)]
theorem MZ(G:Nat->Bool): ∀(l:List Tac) (j:Nat),(Ej G l j).length<=l.length
 | [],_=>Nat.le_refl _
 | t::l,j=>by
  have:=MZ G l (j+1)
  grind[Ej]
theorem T3: ∀(l:List Tac) (j:Nat),Ej (fun _=>false) l j=l
 | [],_=>rfl
 | t::l,j=>by rw[Ej,T3 l (j+1)];rfl
theorem Qu{G:Nat->Bool}{l:List Tac}{p:Nat}{t:Tac}(h:l[p]?=some t):Ej G l 0=Ej G (l.take p) 0++(bif G p then Ej G (l.drop (p+1)) (p+1)else t::Ej G (l.drop (p+1)) (p+1)):=by
 have hp:=(List.getElem?_eq_some_iff.1 h).1;have e:l=l.take p++t::l.drop (p+1):=by
  have:=List.drop_eq_getElem_cons hp;rw[(List.getElem?_eq_some_iff.1 h).2]at this;rw[<-this,List.take_append_drop]
 grind[R2,Ej]
def GI(z:Bool)(v:Nat):List Tac->Nat->List Site
  | [],j=>bif z then [⟨j,true,false⟩]else []
  | t::l,j=>bif t.uses.contains (v:Int)||t.sets==(v:Int)then⟨j,t.uses.contains (v:Int),t.sets==(v:Int)⟩::GI z v l (j+1)else GI z v l (j+1)
theorem Ew(z:Bool)(v:Nat)(t:Tac)(l:List Tac)(j:Nat):GI z v (t::l) j=bif t.uses.contains (v:Int)||t.sets==(v:Int)then⟨j,t.uses.contains (v:Int),t.sets==(v:Int)⟩::GI z v l (j+1)else GI z v l (j+1):=rfl
def A3(x:Block)(v:Nat):List Site:=GI (Db x v) v x.ins 0
def leftS(G:Nat->Bool)(n:Nat)(s:Site):Bool:=s.at_==n|| !G s.at_
def C5(G:Nat->Bool)(n:Nat):List Site->Bool->Bool
  | [],z=>z
  | s::l,z=>bif leftS G n s then s.r||(!s.s&&C5 G n l z)else C5 G n l z
def C7(G:Nat->Bool)(n:Nat):List Site->Nat
  | []=>0
  | s::l=>bif leftS G n s then(bif s.r then 1 else 2)else C7 G n l
theorem IF{G G':Nat->Bool}{n:Nat}{z:Bool}: ∀{l:List Site},(∀s∈l,leftS G n s=leftS G' n s)->C5 G n l z=C5 G' n l z
 | [],_=>rfl
 | s::l,h=>by
  rw[C5,C5,h s (List.mem_cons.2 (.inl rfl)),IF fun s hs=>h s (List.mem_cons.2 (.inr hs))]
theorem HM{G:Nat->Bool}{n v:Nat}{e z:Bool}: ∀{l:List Tac} {j:Nat},j+l.length=n->C5 G n (GI e v l j) z=need v (Ej G l j) (e||z)
 | [],j,h=>by
  grind[GI,C5,Ej,need,leftS]
 | t::l,j,h=>by
  have ih:=HM (G:=G) (n:=n) (v:=v) (e:=e) (z:=z) (l:=l) (j:=j+1) (by simp at h;omega)
  grind[GI,Ej,C5,need,leftS]
theorem Uy{G:Nat->Bool}{n:Nat}{z:Bool}: ∀{l:List Site},C7 G n l=1->C5 G n l z=true
 | [],h=>by cases h
 | s::l,h=>by
  have ih:=Uy (G:=G) (n:=n) (z:=z) (l:=l)
  grind[C7,C5,leftS]
theorem OK{G:Nat->Bool}{n:Nat}{z:Bool}: ∀{l:List Site},C7 G n l=0->C5 G n l z=z
 | [],h=>rfl
 | s::l,h=>by
  have ih:=OK (G:=G) (n:=n) (z:=z) (l:=l)
  grind[C7,C5,leftS]
theorem Ux{G:Nat->Bool}{n:Nat}{z:Bool}: ∀{l:List Site},(∀s∈l,(s.r||s.s)=true)->C7 G n l=2->C5 G n l z=false
 | [],_,h=>by cases h
 | s::l,hs,h=>by
  have ih:=Ux (G:=G) (n:=n) (z:=z) (l:=l) (fun s h=>hs s (List.mem_cons.2 (.inr h)))
  grind[C7,C5,leftS]
theorem firstS_le{G:Nat->Bool}{n:Nat}: ∀{l:List Site},C7 G n l=0\/C7 G n l=1\/C7 G n l=2
 | []=>.inl rfl
 | s::l=>by
  have ih:=firstS_le (G:=G) (n:=n) (l:=l)
  grind[C7,leftS]
theorem Nz{z:Bool}{v:Nat}: ∀{l:List Tac} {j:Nat},∀s∈GI z v l j,(s.r||s.s)=true
 | [],j,s,h=>by
  grind[GI]
 | t::l,j,s,h=>by
  unfold GI at h
  cases e:t.uses.contains (v:Int)||t.sets==(v:Int)with
  | false=>rw[e]at h;exact Nz s h
  | true=>
   rw[e]at h;rcases List.mem_cons.1 h with rfl | h
   . exact e
   . exact Nz s h
theorem siF_get{z:Bool}{v:Nat}: ∀{l:List Tac} {j k:Nat} {s:Site},(GI z v l j)[k]?=some s->
 (s.at_=j+l.length/\s.r=true/\s.s=false/\z=true/\k+1=(GI z v l j).length)\/∃p t,s.at_=j+p/\l[p]?=some t/\s.r=t.uses.contains (v:Int)/\s.s=(t.sets==(v:Int))/\(GI z v l j).drop (k+1)=GI z v (l.drop (p+1)) (j+p+1)
 | [],j,k,s,h=>by
  grind[GI]
 | t::l,j,k,s,h=>by
  have key: ∀k',(GI z v l (j+1))[k']?=some s->(s.at_=j+(t::l).length/\s.r=true/\s.s=false/\z=true/\k'+1=(GI z v l (j+1)).length)\/∃p u,s.at_=j+p/\(t::l)[p]?=some u/\s.r=u.uses.contains (v:Int)/\s.s=(u.sets==(v:Int))/\(GI z v l (j+1)).drop (k'+1)=GI z v ((t::l).drop (p+1)) (j+p+1):=fun k' h'=>by
   rcases siF_get h' with⟨h1,h2,h3,h4,h5⟩ |⟨p,u,h1,h2,h3,h4,h5⟩
   . exact .inl ⟨by rw[h1,List.length_cons];omega,h2,h3,h4,h5⟩
   . refine .inr ⟨p+1,u,by omega,h2,h3,h4,?_⟩;rw[h5,List.drop_succ_cons];congr 1;omega
  rw[Ew]at h |-
  cases e:t.uses.contains (v:Int)||t.sets==(v:Int)with
  | false=>rw[e]at h;simp only[cond_false]at h |-;exact key k h
  | true=>
   rw[e]at h;simp only[cond_true]at h |-
   cases k with
   | zero=>
    simp only[List.getElem?_cons_zero,Option.some.injEq]at h;subst h;exact .inr ⟨0,t,rfl,rfl,rfl,rfl,by simp⟩
   | succ k=>
    rw[List.getElem?_cons_succ]at h;rcases key k h with⟨h1,h2,h3,h4,h5⟩ | h1
    . exact .inl ⟨h1,h2,h3,h4,by rw[List.length_cons,h5]⟩
    . rw[List.drop_succ_cons];exact .inr h1
theorem bn{z:Bool}{v:Nat}: ∀{l:List Tac} {j p:Nat} {t:Tac},l[p]?=some t->t.sets=(v:Int)->∃k s,(GI z v l j)[k]?=some s/\s.at_=j+p/\s.s=true/\(GI z v l j).drop (k+1)=GI z v (l.drop (p+1)) (j+p+1)
 | [],j,p,t,h,_=>by simp at h
 | u::l,j,0,t,h,hs=>by
  simp only[List.getElem?_cons_zero,Option.some.injEq]at h;subst h;have e:(u.sets==(v:Int))=true:=by rw[hs];simp
  rw[Ew,e,Bool.or_true,cond_true];exact⟨0,_,rfl,rfl,rfl,by simp⟩
 | u::l,j,p+1,t,h,hs=>by
  obtain⟨k,s,h1,h2,h3,h4⟩:=bn (z:=z) (l:=l) (j:=j+1) (p:=p) (by simpa using h) hs;have e2:GI z v ((u::l).drop (p+1+1)) (j+(p+1)+1)=GI z v (l.drop (p+1)) (j+1+p+1):=by
   grind
  rw[Ew]
  cases e:u.uses.contains (v:Int)||u.sets==(v:Int)with
  | false=>rw[cond_false];exact⟨k,s,h1,by omega,h3,by rw[e2];exact h4⟩
  | true=>rw[cond_true];exact⟨k+1,s,h1,by omega,h3,by rw[e2,List.drop_succ_cons];exact h4⟩
theorem Vt{z:Bool}{v:Nat}: ∀{l:List Tac} {j:Nat},∀s∈GI z v l j,j<=s.at_/\s.at_<=j+l.length
 | [],j,s,h=>by
  grind[GI]
 | t::l,j,s,h=>by
  unfold GI at h;have key:s∈GI z v l (j+1)->j<=s.at_/\s.at_<=j+(t::l).length:=fun h'=>by
   have:=Vt s h';simp only[List.length_cons];omega
  grind
abbrev GG:=Nat->Nat->Bool
def Cq(f:BFunc)(G:GG):BFunc:={f with blocks:=f.blocks.zipIdx.map fun p=>p.1.mid (Ej (G p.2) p.1.ins 0)}
theorem Fw{f:BFunc}{G:GG}{b:Nat}{x:Block}(h:f.blocks[b]?=some x):(Cq f G).blocks[b]?=some (x.mid (Ej (G b) x.ins 0)):=by
 simp[Cq,h]
theorem M8{f:BFunc}{G:GG}{b:Nat}{y:Block}(h:(Cq f G).blocks[b]?=some y): ∃x,f.blocks[b]?=some x/\y=x.mid (Ej (G b) x.ins 0):=by
 simp only[Cq,List.getElem?_map,List.getElem?_zipIdx,Option.map_map]at h
 grind
theorem cutF_len(f:BFunc)(G:GG):(Cq f G).blocks.length=f.blocks.length:=by simp[Cq]
theorem ZR(f:BFunc):Cq f (fun _ _=>false)=f:=by
 have:(Cq f (fun _ _=>false)).blocks=f.blocks:=by
  refine List.ext_getElem? fun i=>?_
  cases e:f.blocks[i]? with
  | none=>
   rw[List.getElem?_eq_none_iff]at e |-;rw[cutF_len];exact e
  | some x=>rw[Fw e,T3];rfl
 cases f
 grind[Cq]
def DJ(G:GG)(b p:Nat):GG:=fun c q=>G c q||(c==b&&q==p)
theorem Jn(G:GG)(b p:Nat):DJ G b p b p=true:=by simp[DJ]
theorem FT{G:GG}{b p c q:Nat}(h: ¬(c=b/\q=p)):DJ G b p c q=G c q:=by
 unfold DJ
 grind
theorem eC{f:BFunc}{G:GG}{b p:Nat}{x:Block}{t:Tac}(hx:f.blocks[b]?=some x)(ht:x.ins[p]?=some t)(hG:G b p=false):
 Cq f (DJ G b p)=(Cq f G).putB b (x.mid (Ej (G b) (x.ins.take p) 0++Ej (G b) (x.ins.drop (p+1)) (p+1))):=by
 have e:(Cq f (DJ G b p)).blocks=(Cq f G).blocks.set b (x.mid (Ej (G b) (x.ins.take p) 0++Ej (G b) (x.ins.drop (p+1)) (p+1))):=by
  refine List.ext_getElem? fun c=>?_
  rw[List.getElem?_set]
  by_cases hc:b=c
  . subst hc;have hlt:b<(Cq f G).blocks.length:=by rw[cutF_len];exact(List.getElem?_eq_some_iff.1 hx).1
    rw[if_pos rfl,if_pos hlt,Fw hx,Qu ht,Jn,cond_true];have hlp:(x.ins.take p).length<=p:=by rw[List.length_take];exact Nat.min_le_left _ _
    rw[Jw (G:=DJ G b p b) (G':=G b) (x.ins.take p) 0 fun i _ hi=>FT (by omega),Jw (G:=DJ G b p b) (G':=G b) (x.ins.drop (p+1)) (p+1) fun i hi _=>FT (by omega)]
  . rw[if_neg hc]
    cases e:f.blocks[c]? with
    | none=>
     have h1:(Cq f (DJ G b p)).blocks[c]?=none:=by rw[List.getElem?_eq_none_iff]at e |-;rw[cutF_len];exact e
     have h2:(Cq f G).blocks[c]?=none:=by rw[List.getElem?_eq_none_iff]at e |-;rw[cutF_len];exact e
     rw[h1,h2]
    | some y=>
     rw[Fw e,Fw e,Jw (G:=DJ G b p c) (G':=G c) y.ins 0 fun i _ _=>FT (by omega)]
 have: ∀(g h:BFunc),g.blocks=h.blocks->g.regs=h.regs->g=h:=fun g h h1 h2=>by cases g;cases h;simp only at h1 h2;rw[h1,h2]
 exact this _ _ e rfl
theorem eE{f:BFunc}{G:GG}{b p v:Nat}{x:Block}{t:Tac}(hx:f.blocks[b]?=some x)(ht:x.ins[p]?=some t)(hG:G b p=false)(hp:t.pure=true)(hv:t.sets=(v:Int))
 (hd:need v (Ej (G b) (x.ins.drop (p+1)) (p+1)) (endB (Cq f G) x v)=false):
 Fx (Cq f G) (Cq f (DJ G b p)) b (x.mid (Ej (G b) x.ins 0)) (Ej (G b) (x.ins.take p) 0) t (Ej (G b) (x.ins.drop (p+1)) (p+1)) v where
 hx:=Fw hx
 hi:=by show Ej (G b) x.ins 0=_;rw[Qu ht,hG];rfl
 pure:=hp
 hv:=hv
 dead:=hd
 hg:=eC hx ht hG
def L8(g:BFunc)(w:Nat):Prop:=∀h c x l1 t l2,¬Fx g h c x l1 t l2 w
theorem lK{f g:BFunc}{c:Nat}{x:Block}{l1 l2:List Tac}{t:Tac}{v:Nat}(h:Fx f g c x l1 t l2 v){w:Nat}(hw:t.uses.contains (w:Int)=false)(hvw:v≠w)(hn:L8 f w):L8 g w:=by
 intro k d y m1 u m2 h2;have hg:=h.hg
 by_cases hcd:c=d
 . subst hcd;have hy:=h2.hx;rw[hg,Er h.hx]at hy
   cases hy
   have he:l1++l2=m1++u::m2:=h2.hi
   -- where the two lie
   rcases List.append_eq_append_iff.1 he with⟨a,ha1,ha2⟩ |⟨a,ha1,ha2⟩
   . -- u lies behind t
     subst ha1;refine hn _ c x (l1++t::a) u m2 {hx:=h.hx,hi:=by rw[h.hi,ha2];simp,pure:=h2.pure,hv:=h2.hv,dead:=?_,hg:=rfl};exact false_of (Bw (M6 h ⟨rfl,rfl,rfl⟩ hw)) h2.dead
   . cases a with
     | nil=>
      simp only[List.append_nil,List.nil_append]at ha1 ha2;subst ha1;refine hn _ c x (l1++[t]) u m2 {hx:=h.hx,hi:=by rw[h.hi,<-ha2];simp,pure:=h2.pure,hv:=h2.hv,dead:=?_,hg:=rfl};exact false_of (Bw (M6 h ⟨rfl,rfl,rfl⟩ hw)) h2.dead
     | cons q a=>
      simp only[List.cons_append,List.cons.injEq]at ha2;obtain⟨e1,e2⟩:=ha2;subst e1;subst ha1;refine hn _ c x m1 u (a++t::l2) {hx:=h.hx,hi:=by rw[h.hi];simp,pure:=h2.pure,hv:=h2.hv,dead:=?_,hg:=rfl};refine false_of (fun e=>?_) h2.dead;rw[e2];exact Bw (M6 h ⟨rfl,rfl,rfl⟩ hw) (LI hw e)
 . have hy:=h2.hx;rw[hg,HH hcd]at hy;exact hn _ d y m1 u m2 {hx:=hy,hi:=h2.hi,pure:=h2.pure,hv:=h2.hv,dead:=false_of (Bw (M6 h ⟨rfl,rfl,rfl⟩ hw)) h2.dead,hg:=rfl}
theorem W8(z:Bool)(v:Nat): ∀(l:List Tac) (j:Nat),(GI z v l j).length<=l.length+1
 | [],j=>by cases z<;>simp[GI]
 | t::l,j=>by
  have ih:=W8 z v l (j+1)
  grind[Ew,GI]
def firstG(f:BFunc)(G:GG)(v b:Nat):Nat:=((f.blocks[b]?).map fun x=>C7 (G b) x.ins.length (A3 x v)).getD 0
theorem F9{f:BFunc}{G:GG}{v b:Nat}{x:Block}(h:f.blocks[b]?=some x):firstG f G v b=C7 (G b) x.ins.length (A3 x v):=by unfold firstG;rw[h];rfl
theorem LR{f:BFunc}{G:GG}{v b:Nat}{x:Block}(hx:f.blocks[b]?=some x)(z:Bool):need v (Ej (G b) x.ins 0) (Db x v||z)=C5 (G b) x.ins.length (A3 x v) z:=(HM (by simp)).symm
theorem ae{f:BFunc}{a c:Nat}(h:a∈Aw f c): ∃x,f.blocks[a]?=some x/\(c:Int)∈x.nexts:=by
 grind[Aw,PA]
def L3(n:Nat)(w:Nat->Bool):Nat:=((List.range n).map fun b=>if w b then 0 else 1).sum
theorem K5{w:Nat->Bool}{b:Nat}(h:w b=false): ∀{n:Nat},b<n->L3 n (Cu w b true)+1=L3 n w
 | 0,hb=>by omega
 | n+1,hb=>by
  unfold L3;rw[List.range_succ,List.map_append,List.map_append,List.sum_append,List.sum_append];simp only[List.map_cons,List.map_nil,List.sum_cons,List.sum_nil,Nat.add_zero]
  by_cases hn:b=n
  . subst hn;rw[CZ,h];have:((List.range b).map fun c=>if Cu w b true c then 0 else 1)=(List.range b).map fun c=>if w c then 0 else 1:=List.map_congr_left fun c hc=>by
     rw[CK _ (fun e=>by subst e;exact Nat.lt_irrefl _ (List.mem_range.1 hc))]
    rw[this];simp
  . rw[CK _ (fun e=>hn e.symm)];have ih:=K5 h (n:=n) (by omega);unfold L3 at ih;omega
structure BfI(f:BFunc)(G:GG)(v:Nat)(inn:Nat->Bool)(todo:List Nat)(b0:Nat)(rest:List Nat):Prop where
  sound: ∀b,inn b=true->b<f.blocks.length/\Dk (Cq f G) v b
  src: ∀b,b<f.blocks.length->firstG f G v b=1->inn b=true
  cl: ∀c,inn c=true->c∉todo->∀a y,f.blocks[a]?=some y->(c:Int)∈y.nexts->firstG f G v a=0->inn a=true\/(c=b0/\a∈rest)
  tod: ∀c∈todo,inn c=true
  cnt:todo.length+L3 f.blocks.length inn<=f.blocks.length
theorem BfI.pop{f:BFunc}{G:GG}{v:Nat}{inn:Nat->Bool}{todo:List Nat}{b b1:Nat}(h:BfI f G v inn (todo++[b]) b1 []):BfI f G v inn todo b (Aw f b):=
 ⟨h.sound,h.src,fun c hc hn a y hy hm ha=>by
  by_cases hcb:c=b
  . subst hcb;exact .inr ⟨rfl,Pe hy (List.contains_iff_mem.2 hm)⟩
  . exact(h.cl c hc (fun e=>by
     rcases List.mem_append.1 e with e | e
     . exact hn e
     . exact hcb (List.mem_singleton.1 e)) a y hy hm ha).elim .inl (fun e=>by cases e.2),fun c hc=>h.tod c (List.mem_append.2 (.inl hc)),by have:=h.cnt;simp at this;omega⟩
theorem BfI.skip{f:BFunc}{G:GG}{v:Nat}{inn:Nat->Bool}{todo:List Nat}{b a:Nat}{rest:List Nat}(h:BfI f G v inn todo b (a::rest))(hs: ¬(firstG f G v a=0/\inn a=false)):BfI f G v inn todo b rest:=
 ⟨h.sound,h.src,fun c hc hn a' y hy hm ha=>(h.cl c hc hn a' y hy hm ha).elim .inl fun⟨e1,e2⟩=>by
  rcases List.mem_cons.1 e2 with rfl | e2
  . grind
  . exact .inr ⟨e1,e2⟩,h.tod,h.cnt⟩
theorem BfI.push{f:BFunc}{G:GG}{v:Nat}{inn:Nat->Bool}{todo:List Nat}{b a:Nat}{rest:List Nat}(h:BfI f G v inn todo b (a::rest))(hb:inn b=true)(hab:a∈Aw f b)(h0:firstG f G v a=0)(hi:inn a=false):
 BfI f G v (Cu inn a true) (todo++[a]) b rest:=by
 obtain⟨x,hx,hm⟩:=ae hab;have hlt:=(List.getElem?_eq_some_iff.1 hx).1;refine⟨fun c hc=>?_,fun c hc h1=>?_,fun c hc hn a' y hy hm' ha=>?_,fun c hc=>?_,?_⟩
 . by_cases hca:c=a
   . subst hca;refine⟨hlt,.thru (d:=(b:Int)) (Fw hx) ?_ hm (by rw[Int.toNat_natCast];exact(h.sound b hb).2)⟩;show need v (Ej (G c) x.ins 0) true=true;have:=LR (G:=G) (v:=v) hx true;rw[Bool.or_true]at this;rw[this,OK (by rw[<-F9 hx];exact h0)]
   . rw[CK _ hca]at hc;exact h.sound c hc
 . by_cases hca:c=a
   . grind
   . rw[CK _ hca];exact h.src c hc h1
 . have hcn:c∉todo:=fun e=>hn (List.mem_append.2 (.inl e))
   have hca:c≠a:=fun e=>hn (List.mem_append.2 (.inr (List.mem_singleton.2 e)))
   rw[CK _ hca]at hc;rcases h.cl c hc hcn a' y hy hm' ha with h1 |⟨e1,e2⟩
   . left
     by_cases e:a'=a
     . subst e;rw[CZ]
     . rw[CK _ e];exact h1
   . rcases List.mem_cons.1 e2 with rfl | e2
     . left;rw[CZ]
     . exact .inr ⟨e1,e2⟩
 . by_cases hca:c=a
   . subst hca;rw[CZ]
   . rw[CK _ hca];rcases List.mem_append.1 hc with hc | hc
     . exact h.tod c hc
     . exact absurd (List.mem_singleton.1 hc) hca
 . have:=h.cnt;have e:=K5 hi hlt
   grind
theorem BfI.any{f:BFunc}{G:GG}{v:Nat}{inn:Nat->Bool}{todo:List Nat}{b b':Nat}(h:BfI f G v inn todo b []):BfI f G v inn todo b' []:=
 ⟨h.sound,h.src,fun c hc hn a y hy hm ha=>(h.cl c hc hn a y hy hm ha).elim .inl (fun e=>(by cases e.2)),h.tod,h.cnt⟩
theorem BfI.done{f:BFunc}(hs:f.sane){G:GG}{v:Nat}{inn:Nat->Bool}{b0:Nat}(h:BfI f G v inn [] b0 []){b:Nat}(hb:b<f.blocks.length):inn b=V9 (Cq f G) v b:=by
 rw[Bool.eq_iff_iff,inB_iff];refine⟨fun e=>(h.sound b e).2,fun hl=>?_⟩;refine Oo (I:=inn) (fun c y hy hn=>?_) hl;obtain⟨x,hx,rfl⟩:=M8 hy;have hlt:=(List.getElem?_eq_some_iff.1 hx).1;have hn':need v (Ej (G c) x.ins 0) (Db x v||x.nexts.any fun d=>inn d.toNat)=true:=hn;rw[LR hx]at hn';rcases firstS_le (G:=G c) (n:=x.ins.length) (l:=A3 x v)with h0 | h1 | h2
 . rw[OK h0]at hn';obtain⟨d,hd,hid⟩:=List.any_eq_true.1 hn';have h0':=(hs.next x (List.mem_of_getElem? hx) d hd).1;refine(h.cl d.toNat hid (by simp) c x hx (by rw[Int.toNat_of_nonneg h0'];exact hd) (by rw[F9 hx];exact h0)).elim id fun e=>by cases e.2
 . exact h.src c hlt (by rw[F9 hx];exact h1)
 . have e:=Ux (z:=x.nexts.any fun d=>inn d.toNat) (fun s hs=>Nz s hs) h2;exact absurd (hn'.symm.trans e) (by simp)
def Hx(inn:Nat->Bool)(x:Block):Bool:=x.nexts.any fun d=>inn d.toNat
structure RSd where
  G:GG
  w:Nat->Bool
  ws:List Nat
  es:List (List AV)
def Gl(st:RSd)(u:Nat):RSd:=⟨st.G,JJ st.w u,Hb st.w st.ws u,CY st.w st.es st.ws.length u⟩
def BU(b p:Nat)(us:List Int)(st:RSd):RSd:=us.foldl (fun st u=>Gl st u.toNat) ⟨DJ st.G b p,st.w,st.ws,st.es⟩
def JL(x:Block)(b:Nat)(st:RSd×Bool)(s:Site):RSd×Bool:=
  bif leftS (st.1.G b) x.ins.length s then
    (match x.ins[s.at_]? with
    | some t=>bif s.s&&(!st.2&&t.pure)then(BU b s.at_ t.uses st.1,st.2)else(st.1,s.r||(!s.s&&st.2))
    | none=>(st.1,s.r||(!s.s&&st.2)))
  else st
def Sw(inn:Nat->Bool)(v:Nat)(x:Block)(b:Nat)(st:RSd):RSd:=((A3 x v).reverse.foldl (JL x b) (st,Hx inn x)).1
structure QId(R:Nat)(st:RSd):Prop where
  wt:WaitI R st.w st.ws
  st:StackI R st.es st.ws
theorem QId.push{R:Nat}{st:RSd}(h:QId R st){u:Nat}(hu:u<R):QId R (Gl st u):=⟨h.wt.wait hu,h.st.wait h.wt hu⟩
theorem QId.leave{R:Nat}{b p:Nat}: ∀{us:List Int} {st:RSd},QId R st->(∀u∈us,0<=u/\u<R)->QId R (us.foldl (fun st u=>Gl st u.toNat) st)
 | [],st,h,_=>h
 | u::us,st,h,hu=>by
  rw[List.foldl_cons];refine QId.leave (b:=b) (p:=p) (h.push ?_) fun u' h'=>hu u' (List.mem_cons.2 (.inr h'))
  (simp_all;done)
theorem TB: ∀(us:List Int) (st:RSd) (w:Nat),(us.foldl (fun st u=>Gl st u.toNat) st).w w=(st.w w||us.any fun u=>u.toNat==w)
 | [],st,w=>by simp
 | u::us,st,w=>by
  rw[List.foldl_cons,TB us];show(Cu st.w u.toNat true w||_)=_
  grind[CZ,CK,Gl]
theorem TC: ∀(us:List Int) (st:RSd),(us.foldl (fun st u=>Gl st u.toNat) st).G=st.G
 | [],st=>rfl
 | u::us,st=>by rw[List.foldl_cons,TC us];rfl
theorem MV(b p:Nat)(us:List Int)(st:RSd):(BU b p us st).G=DJ st.G b p:=TC _ _
structure RgI(f:BFunc)(R v:Nat)(inn:Nat->Bool)(m0:Nat)(st:RSd)(lo:Nat->Nat):Prop where
  c:Cuts f (Cq f st.G)
  le: ∀b,Dk (Cq f st.G) v b->inn b=true
  ex:st.w v=false->∀b,b<f.blocks.length->inn b=true->Dk (Cq f st.G) v b
  oth: ∀u,u≠v->st.w u=false->L8 (Cq f st.G) u
  q:QId R st
  ms:dv (Cq f st.G)*(R+1)+st.ws.length<=m0
  proc: ∀b x k s t,f.blocks[b]?=some x->lo b<=k->(A3 x v)[k]?=some s->s.s=true->leftS (st.G b) x.ins.length s=true->x.ins[s.at_]?=some t->t.pure=true->C5 (st.G b) x.ins.length ((A3 x v).drop (k+1)) (Hx inn x)=true
theorem Z9{f:BFunc}(hs:f.sane){G:GG}{v:Nat}{inn:Nat->Bool}{x:Block}(hx:x∈f.blocks)(h: ∀b,Dk (Cq f G) v b->inn b=true):outB (Cq f G) x v=true->Hx inn x=true:=fun e=>by
 obtain⟨d,h1,h2⟩:=outB_iff.1 e;exact List.any_eq_true.2 ⟨d,h1,h _ h2⟩
theorem qk(lo:Nat->Nat)(b k:Nat): ∃lo':Nat->Nat,lo' b=k/\∀c,c≠b->lo' c=lo c:=⟨fun c=>if c=b then k else lo c,by simp,fun c hc=>by simp[hc]⟩
theorem Ru{z:Bool}{v:Nat}{l:List Tac}{k k':Nat}{s s':Site}(h:(GI z v l 0)[k]?=some s)(h':(GI z v l 0)[k']?=some s')(hlt:k<k'):s.at_<s'.at_:=by
 rcases siF_get h with⟨h1,h2,h3,h4,h5⟩ |⟨p,t,h1,h2,h3,h4,h5⟩
 . grind
 . have e:((GI z v l 0).drop (k+1))[k'-(k+1)]?=some s':=by
    rw[List.getElem?_drop,show k+1+(k'-(k+1))=k' by omega];exact h'
   rw[h5]at e;have:=(Vt s' (List.mem_of_getElem? e)).1;omega
theorem RgI.leave{f:BFunc}(hs:f.sane){R v:Nat}{inn:Nat->Bool}{m0:Nat}{st:RSd}{lo lo':Nat->Nat}(h:RgI f R v inn m0 st lo){b k:Nat}{x:Block}{s:Site}{t:Tac}(hx:f.blocks[b]?=some x)(hlo:lo b=k+1)(hk:(A3 x v)[k]?=some s)
 (hss:s.s=true) (hl:leftS (st.G b) x.ins.length s=true) (ht:x.ins[s.at_]?=some t) (hp:t.pure=true) (hb:C5 (st.G b) x.ins.length ((A3 x v).drop (k+1)) (Hx inn x)=false) (hR: ∀u∈t.uses,0<=u/\u<R)
 (h1:lo' b=k) (h2: ∀c,c≠b->lo' c=lo c):RgI f R v inn m0 (BU b s.at_ t.uses st) lo':=by
 have hxm:=List.mem_of_getElem? hx;obtain⟨p,t',hat,ht',hr,hsv,hdr⟩: ∃p t',s.at_=0+p/\x.ins[p]?=some t'/\s.r=t'.uses.contains (v:Int)/\s.s=(t'.sets==(v:Int))/\(A3 x v).drop (k+1)=GI (Db x v) v (x.ins.drop (p+1)) (0+p+1):=by
  rcases siF_get hk with⟨_,_,e,_,_⟩ | e
  . grind
  . exact e
 rw[Nat.zero_add]at hat hdr;subst hat;rw[ht]at ht';cases ht';have hplt:=(List.getElem?_eq_some_iff.1 ht).1;have hGp:st.G b s.at_=false:=by
  unfold leftS at hl;have:(s.at_==x.ins.length)=false:=by rw[beq_eq_false_iff_ne];omega
  rw[this,Bool.false_or]at hl;simpa using hl
 have hsets:t.sets=(v:Int):=by rw[hss]at hsv;simpa using hsv.symm
 have hnd:need v (Ej (st.G b) (x.ins.drop (s.at_+1)) (s.at_+1)) (endB (Cq f st.G) x v)=false:=by
  have e:=HM (G:=st.G b) (n:=x.ins.length) (v:=v) (e:=Db x v) (z:=Hx inn x) (l:=x.ins.drop (s.at_+1)) (j:=s.at_+1) (by rw[List.length_drop];omega);rw[<-hdr,hb]at e;refine false_of (Bw fun e2=>?_) e.symm;unfold endB at e2;rcases Bool.or_eq_true_iff.1 e2 with e2 | e2
  . rw[e2];rfl
  . rw[Z9 hs hxm h.le e2,Bool.or_true]
 have hcut:=eE hx ht hGp hp hsets hnd;have hG:(BU b s.at_ t.uses st).G=DJ st.G b s.at_:=MV _ _ _ _;have hw: ∀u,(BU b s.at_ t.uses st).w u=(st.w u||t.uses.any fun a=>a.toNat==u):=fun u=>TB _ _ _
 have hnou: ∀u,(BU b s.at_ t.uses st).w u=false->st.w u=false/\t.uses.contains (u:Int)=false:=fun u hu=>by
  rw[hw,Bool.or_eq_false_iff]at hu;refine⟨hu.1,?_⟩
  cases e:t.uses.contains (u:Int)with
  | false=>rfl
  | true=>
   have:(t.uses.any fun a=>a.toNat==u)=true:=List.any_eq_true.2 ⟨(u:Int),List.contains_iff_mem.1 e,by simp⟩;rw[this]at hu;cases hu.2
 have hq:QId R (BU b s.at_ t.uses st):=QId.leave (b:=b) (p:=s.at_) (st:=⟨DJ st.G b s.at_,st.w,st.ws,st.es⟩) ⟨h.q.wt,h.q.st⟩ hR;have hsz:=GU ⟨_,_,_,_,_,_,hcut⟩;refine⟨?_,?_,?_,?_,hq,?_,?_⟩
 . rw[hG];exact h.c.trans (.one ⟨_,_,_,_,_,_,hcut⟩)
 . rw[hG];exact fun c hc=>h.le c (Qp hcut hc)
 . rw[hG];intro hv c hc hi;have:=hnou v hv;exact Xu hcut this.2 (h.ex this.1 c hc hi)
 . rw[hG];intro u huv hu;have:=hnou u hu;exact lK hcut this.2 (fun e=>huv e.symm) (h.oth u huv this.1)
 . rw[hG];have hms:=h.ms;have hle:=hq.wt.le;have:dv (Cq f st.G)*(R+1)=dv (Cq f (DJ st.G b s.at_))*(R+1)+(R+1):=by rw[<-hsz,Nat.succ_mul]
   omega
 . rw[hG];intro c y k' s' t' hy hk' hs' hss' hl' ht' hp'
   by_cases hcb:c=b
   . subst hcb;rw[hx]at hy;cases hy;rw[h1]at hk'
     by_cases hkk:k'=k
     . subst hkk;rw[hk]at hs';cases hs';have:leftS (DJ st.G c s.at_ c) x.ins.length s=false:=by
        unfold leftS;rw[Jn];have:(s.at_==x.ins.length)=false:=by rw[beq_eq_false_iff_ne];omega
        rw[this];rfl
       rw[this]at hl';cases hl'
     . have hlt:k<k':=by omega
       have hne:=Ru hk hs' hlt;have e1:leftS (DJ st.G c s.at_ c) x.ins.length s'=leftS (st.G c) x.ins.length s':=by
        unfold leftS;rw[FT (by omega)]
       rw[e1]at hl';have:=h.proc c x k' s' t' hx (by omega) hs' hss' hl' ht' hp';rw[<-this];refine IF fun q hq=>?_
       obtain⟨i,hi⟩:=List.mem_iff_getElem?.1 hq;rw[List.getElem?_drop]at hi;have hne2:=Ru hk hi (by omega);unfold leftS;rw[FT (by omega)]
   . rw[h2 c hcb]at hk';have hGc:DJ st.G b s.at_ c=st.G c:=funext fun q=>FT (fun e=>hcb e.1)
     rw[hGc]at hl' |-;exact h.proc c y k' s' t' hy hk' hs' hss' hl' ht' hp'
theorem RgI.keep{f:BFunc}{R v:Nat}{inn:Nat->Bool}{m0:Nat}{st:RSd}{lo lo':Nat->Nat}(h:RgI f R v inn m0 st lo){b k:Nat}{x:Block}{s:Site}(hx:f.blocks[b]?=some x)(hlo:lo b=k+1)(hk:(A3 x v)[k]?=some s)
 (hb:s.s=true->leftS (st.G b) x.ins.length s=true->∀t,x.ins[s.at_]?=some t->t.pure=true->C5 (st.G b) x.ins.length ((A3 x v).drop (k+1)) (Hx inn x)=true)
 (h1:lo' b=k) (h2: ∀c,c≠b->lo' c=lo c):RgI f R v inn m0 st lo':=
 ⟨h.c,h.le,h.ex,h.oth,h.q,h.ms,fun c y k' s' t' hy hk' hs' hss' hl' ht' hp'=>by
  by_cases hcb:c=b
  . subst hcb;rw[hx]at hy;cases hy;rw[h1]at hk'
    by_cases hkk:k'=k
    . subst hkk;rw[hk]at hs';cases hs';exact hb hss' hl' t' ht' hp'
    . exact h.proc c x k' s' t' hx (by omega) hs' hss' hl' ht' hp'
  . rw[h2 c hcb]at hk';exact h.proc c y k' s' t' hy hk' hs' hss' hl' ht' hp'⟩
def CG(inn:Nat->Bool)(v:Nat)(x:Block)(b:Nat)(st:RSd)(m:Nat):RSd×Bool:=((A3 x v).reverse.take m).foldl (JL x b) (st,Hx inn x)
theorem Fl{inn:Nat->Bool}{v:Nat}{x:Block}{b:Nat}{st:RSd}{m k:Nat}{s:Site}(hk:(A3 x v)[k]?=some s)(hm:m+k+1=(A3 x v).length):CG inn v x b st (m+1)=JL x b (CG inn v x b st m) s:=by
 unfold CG;have e:(A3 x v).reverse[m]?=some s:=by
  grind
 rw[List.take_add_one,e,List.foldl_append];rfl
theorem Nw{inn:Nat->Bool}{v:Nat}{x:Block}{b:Nat}{st:RSd}{m:Nat}(h:(A3 x v).length<=m):(CG inn v x b st m).1=Sw inn v x b st:=by
 unfold CG Sw;rw[List.take_of_length_le (by simpa using h)]
theorem RgI.sites{f:BFunc}(hs:f.sane){R v:Nat}(hRf:f.regs=(R:Int)){inn:Nat->Bool}{m0:Nat}{st:RSd}{lo:Nat->Nat}{b:Nat}{x:Block}(hx:f.blocks[b]?=some x)(h:RgI f R v inn m0 st lo)(hlo:lo b=(A3 x v).length):
 ∀m,m<=(A3 x v).length->∃lo',RgI f R v inn m0 (CG inn v x b st m).1 lo'/\lo' b=(A3 x v).length-m/\(∀c,c≠b->lo' c=lo c)/\(CG inn v x b st m).2=C5 ((CG inn v x b st m).1.G b) x.ins.length ((A3 x v).drop ((A3 x v).length-m)) (Hx inn x)
 | 0,_=>⟨lo,h,by simpa using hlo,fun _ _=>rfl,by
  show Hx inn x=C5 _ _ ((A3 x v).drop _) _;rw[Nat.sub_zero,List.drop_length];rfl⟩
 | m+1,hm=>by
  obtain⟨lo1,h1,h2,h3,h4⟩:=RgI.sites hs hRf hx h hlo m (by omega);obtain⟨k,hk⟩: ∃k,m+k+1=(A3 x v).length:=⟨(A3 x v).length-m-1,by omega⟩
  obtain⟨s,hsk⟩:=Ae (l:=A3 x v) (k:=k) (by omega);rw[show(A3 x v).length-(m+1)=k by omega];rw[show(A3 x v).length-m=k+1 by omega]at h2 h4;obtain⟨lo2,l1,l2⟩:=qk lo1 b k;have hdk:(A3 x v).drop k=s::(A3 x v).drop (k+1):=by
   rw[List.drop_eq_getElem_cons (List.getElem?_eq_some_iff.1 hsk).1,(List.getElem?_eq_some_iff.1 hsk).2]
  rw[Fl hsk hk];generalize CG inn v x b st m=S at h1 h4 |-;unfold JL
  cases hl:leftS (S.1.G b) x.ins.length s with
  | false=>
   rw[cond_false];refine⟨lo2,h1.keep hx h2 hsk (fun _ e=>by rw[hl]at e;cases e) l1 l2,l1,fun c hc=>(l2 c hc).trans (h3 c hc),?_⟩;rw[hdk,C5,hl,cond_false];exact h4
  | true=>
   rw[cond_true];have keep: ∀(hb:s.s=true->∀t,x.ins[s.at_]?=some t->t.pure=true->S.2=true),∃lo',RgI f R v inn m0 ((S.1,s.r||(!s.s&&S.2)):RSd×Bool).1 lo'/\lo' b=k/\(∀c,c≠b->lo' c=lo c)/\((S.1,s.r||(!s.s&&S.2)):RSd×Bool).2=C5 (((S.1,s.r||(!s.s&&S.2)):RSd×Bool).1.G b) x.ins.length ((A3 x v).drop k) (Hx inn x):=fun hb=>by
    refine⟨lo2,h1.keep hx h2 hsk (fun e1 _ t e2 e3=>by rw[<-h4];exact hb e1 t e2 e3) l1 l2,l1,fun c hc=>(l2 c hc).trans (h3 c hc),?_⟩;rw[hdk,C5,hl,cond_true];show(s.r||(!s.s&&S.2))=_;rw[h4]
   cases ht:x.ins[s.at_]? with
   | none=>exact keep (fun _ t e=>by rw[ht]at e;cases e)
   | some t=>
    cases hc:s.s&&(!S.2&&t.pure)with
    | false=>
     rw[show(match some t with | some t=>bif s.s&&(!S.2&&t.pure)then(BU b s.at_ t.uses S.1,S.2)else(S.1,s.r||(!s.s&&S.2)) | none=>(S.1,s.r||(!s.s&&S.2)))=(S.1,s.r||(!s.s&&S.2)) by simp only[hc,cond_false]];refine keep (fun e1 t' e2 e3=>?_);rw[ht]at e2;cases e2;rw[e1,e3]at hc;simpa using hc
    | true=>
     rw[show(match some t with | some t=>bif s.s&&(!S.2&&t.pure)then(BU b s.at_ t.uses S.1,S.2)else(S.1,s.r||(!s.s&&S.2)) | none=>(S.1,s.r||(!s.s&&S.2)))=(BU b s.at_ t.uses S.1,S.2) by simp only[hc,cond_true]];simp only[Bool.and_eq_true,Bool.not_eq_true']at hc;have hxm:=List.mem_of_getElem? hx;have hlow:=hs.low x hxm t (List.mem_of_getElem? ht);have hplt:=(List.getElem?_eq_some_iff.1 ht).1;refine⟨lo2,h1.leave hs hx h2 hsk hc.1 hl ht hc.2.2 (by rw[<-h4];exact hc.2.1) (fun u hu=>by have:=hlow.2 u hu;rw[hRf]at this;exact this) l1 l2,l1,fun c hcc=>(l2 c hcc).trans (h3 c hcc),?_⟩;rw[hdk,C5];have hg:leftS ((BU b s.at_ t.uses S.1).G b) x.ins.length s=false:=by
      unfold leftS;rw[MV,Jn];have:(s.at_==x.ins.length)=false:=by rw[beq_eq_false_iff_ne];omega
      rw[this];rfl
     show S.2=bif leftS ((BU b s.at_ t.uses S.1).G b) x.ins.length s then _ else C5 ((BU b s.at_ t.uses S.1).G b) _ _ _;rw[hg,cond_false,h4];refine IF fun q hq=>?_
     obtain⟨i,hi⟩:=List.mem_iff_getElem?.1 hq;rw[List.getElem?_drop]at hi;have hne2:=Ru hsk hi (by omega);unfold leftS;rw[MV,FT (by omega)]
def Hg(f:BFunc)(v i:Nat):List Site:=((f.blocks[i]?).map fun x=>A3 x v).getD []
theorem DA{f:BFunc}{v i:Nat}{x:Block}(h:f.blocks[i]?=some x):Hg f v i=A3 x v:=by unfold Hg;rw[h];rfl
def Fy(f:BFunc)(v:Nat):List Nat:=(List.range f.blocks.length).filter fun i=> !(Hg f v i).isEmpty
def Sx(f:BFunc)(inn:Nat->Bool)(v:Nat)(st:RSd)(b:Nat):RSd:=((f.blocks[b]?).map fun x=>Sw inn v x b st).getD st
theorem Q6{f:BFunc}{inn:Nat->Bool}{v:Nat}{st:RSd}{b:Nat}{x:Block}(h:f.blocks[b]?=some x):Sx f inn v st b=Sw inn v x b st:=by unfold Sx;rw[h];rfl
def J4(f:BFunc)(inn:Nat->Bool)(v:Nat)(st:RSd)(k:Nat):RSd:=((Fy f v).take k).foldl (Sx f inn v) st
noncomputable def HF(f:BFunc)(v:Nat)(st:RSd):RSd:=J4 f (V9 (Cq f st.G) v) v st (Fy f v).length
theorem PU{f:BFunc}{inn:Nat->Bool}{v:Nat}{st:RSd}{k b:Nat}(h:(Fy f v)[k]?=some b):J4 f inn v st (k+1)=Sx f inn v (J4 f inn v st k) b:=by
 unfold J4;rw[List.take_add_one,h,List.foldl_append];rfl
theorem dL{f:BFunc}{v b:Nat}(h:b∈Fy f v):b<f.blocks.length:=List.mem_range.1 (List.mem_filter.1 h).1
theorem QN(f:BFunc)(v:Nat):(Fy f v).Nodup:=List.Pairwise.filter _ List.nodup_range
theorem MY{G:Nat->Bool}{t:Tac}{l2:List Tac}: ∀{l l1:List Tac} {j:Nat},Ej G l j=l1++t::l2->∃p,l[p]?=some t/\G (j+p)=false/\l2=Ej G (l.drop (p+1)) (j+p+1)
 | [],l1,j,h=>by simp[Ej]at h
 | u::l,l1,j,h=>by
  rw[Ej]at h
  cases hG:G j with
  | true=>
   rw[hG,cond_true]at h;obtain⟨p,h1,h2,h3⟩:=MY h;exact⟨p+1,h1,by rw[show j+(p+1)=j+1+p by omega];exact h2,by rw[List.drop_succ_cons,show j+(p+1)+1=j+1+p+1 by omega];exact h3⟩
  | false=>
   rw[hG,cond_false]at h
   cases l1 with
   | nil=>
    simp only[List.nil_append,List.cons.injEq]at h;obtain⟨rfl,rfl⟩:=h;exact⟨0,rfl,hG,rfl⟩
   | cons a l1=>
    simp only[List.cons_append,List.cons.injEq]at h;obtain⟨p,h1,h2,h3⟩:=MY h.2;exact⟨p+1,h1,by rw[show j+(p+1)=j+1+p by omega];exact h2,by rw[List.drop_succ_cons,show j+(p+1)+1=j+1+p+1 by omega];exact h3⟩
theorem RgI.done{f:BFunc}(hs:f.sane){R v:Nat}{inn:Nat->Bool}{m0:Nat}{st:RSd}{lo:Nat->Nat}(h:RgI f R v inn m0 st lo)(hlo: ∀b x,f.blocks[b]?=some x->lo b=0\/A3 x v=[])(hv:st.w v=false):L8 (Cq f st.G) v:=by
 intro g c y l1 t l2 hc;obtain⟨x,hx,rfl⟩:=M8 hc.hx;have hxm:=List.mem_of_getElem? hx;have hi:Ej (st.G c) x.ins 0=l1++t::l2:=hc.hi;obtain⟨p,hp,hG,hl2⟩:=MY hi;rw[Nat.zero_add]at hG hl2;obtain⟨k,s,hk,hat,hss,hdr⟩:=bn (z:=Db x v) (j:=0) hp hc.hv;rw[Nat.zero_add]at hat hdr;have hplt:=(List.getElem?_eq_some_iff.1 hp).1;have hlk:lo c<=k:=by
  rcases hlo c x hx with e | e
  . omega
  . have:(A3 x v)[k]?=some s:=hk;rw[e]at this;simp at this
 have hleft:leftS (st.G c) x.ins.length s=true:=by
  unfold leftS;rw[hat,hG];simp
 have hpr:=h.proc c x k s t hx hlk hk hss hleft (by rw[hat];exact hp) hc.pure;have hpr':C5 (st.G c) x.ins.length (GI (Db x v) v (x.ins.drop (p+1)) (p+1)) (Hx inn x)=true:=by rw[<-hdr];exact hpr
 rw[HM (by rw[List.length_drop];omega),<-hl2]at hpr';have hd:=hc.dead;have:need v l2 (endB (Cq f st.G) (x.mid (Ej (st.G c) x.ins 0)) v)=true:=by
  refine Bw (fun e=>?_) hpr';show(Db x v||outB (Cq f st.G) (x.mid (Ej (st.G c) x.ins 0)) v)=true;rcases Bool.or_eq_true_iff.1 e with e | e
  . rw[e];rfl
  . obtain⟨d,h1,h2⟩:=List.any_eq_true.1 e;have hd:=hs.next x hxm d h1;have:=h.ex hv d.toNat (by omega) h2;have ho:outB (Cq f st.G) (x.mid (Ej (st.G c) x.ins 0)) v=true:=outB_iff.2 ⟨d,h1,this⟩;rw[ho,Bool.or_true]
 rw[this]at hd;cases hd
theorem N9{f:BFunc}(hs:f.sane){R:Nat}(hRf:f.regs=(R:Int)){G:GG}{u:Nat}(hu:R<=u):L8 (Cq f G) u:=by
 intro g c y l1 t l2 hc;obtain⟨x,hx,rfl⟩:=M8 hc.hx;obtain⟨p,hp,_,_⟩:=MY (show Ej (G c) x.ins 0=l1++t::l2 from hc.hi);have hin:=hs.low x (List.mem_of_getElem? hx) t (List.mem_of_getElem? hp);have hsp:decide (t.sets>=0)=true:=by rw[hc.hv];simp
 have h1:=hin.1 (Ex hsp);rw[<-Jg (Ex hsp),hc.hv,hRf]at h1;omega
structure SI(f:BFunc)(R:Nat)(st:RSd):Prop where
  c:Cuts f (Cq f st.G)
  nd: ∀u,st.w u=false->L8 (Cq f st.G) u
  q:QId R st
def l0(f:BFunc)(R:Nat)(st:RSd):Nat:=dv (Cq f st.G)*(R+1)+st.ws.length
def l7(R:Nat):RSd:=⟨fun _ _=>false,fun b=>decide (b<R),List.range R,(List.range R).map BG⟩
theorem SI.first{f:BFunc}(hs:f.sane){R:Nat}(hRf:f.regs=(R:Int)):SI f R (l7 R):=by
 refine⟨?_,fun u hu=>N9 hs hRf ?_,⟨Iq _ (Nat.le_refl _),stackI_range _⟩⟩
 . grind[Cuts,Cq,ZR,l7]
 . have: ¬u<R:=by simpa[l7]using hu
   omega
def VI(st:RSd)(v:Nat)(ws:List Nat):RSd:=⟨st.G,Cu st.w v false,ws,st.es⟩
theorem SI.pop{f:BFunc}{R v:Nat}{ws:List Nat}{st:RSd}(h:SI f R st)(hw:st.ws=ws++[v]):v<R/\RgI f R v (V9 (Cq f st.G) v) (l0 f R (VI st v ws)) (VI st v ws) (fun b=>(Hg f v b).length):=by
 have hwt:=h.q.wt;have hst:=h.q.st;rw[hw]at hwt hst;have hp:=hwt.pop;refine⟨hp.2.1,h.c,fun b hb=>inB_iff.2 hb,fun _ b _ hb=>inB_iff.1 hb,fun u huv hu=>h.nd u ?_,⟨hp.1,hst.pop⟩,Nat.le_refl _,?_⟩
 . show st.w u=false;have hu':Cu st.w v false u=false:=hu;rw[CK _ huv]at hu';exact hu'
 . intro b x k s t hx hlk hk;rw[DA hx]at hlk;have:=(List.getElem?_eq_some_iff.1 hk).1;omega
theorem RgI.blocks{f:BFunc}(hs:f.sane){R v:Nat}(hRf:f.regs=(R:Int)){inn:Nat->Bool}{m0:Nat}{st:RSd}(h:RgI f R v inn m0 st (fun b=>(Hg f v b).length)):
 ∀k,k<=(Fy f v).length->∃lo,RgI f R v inn m0 (J4 f inn v st k) lo/\(∀b,b∈(Fy f v).take k->lo b=0)/\(∀b,b∉(Fy f v).take k->lo b=(Hg f v b).length)
 | 0,_=>⟨_,h,fun b hb=>by simp at hb,fun _ _=>rfl⟩
 | k+1,hk=>by
  obtain⟨lo,h1,h2,h3⟩:=RgI.blocks hs hRf h k (by omega);obtain⟨b,hb⟩:=Ae (l:=Fy f v) (k:=k) (by omega);have hbl:=dL (List.mem_of_getElem? hb);obtain⟨x,hx⟩:=Ae hbl;have hnb:b∉(Fy f v).take k:=fun e=>by
   obtain⟨i,hi⟩:=List.mem_iff_getElem?.1 e;have hik:i<k:=by
    rcases Nat.lt_or_ge i k with h | h
    . exact h
    . rw[List.getElem?_eq_none (by rw[List.length_take];omega)]at hi;cases hi
   rw[List.getElem?_take_of_lt hik]at hi;have:=(List.getElem?_inj (by omega:i<(Fy f v).length) (QN f v)).1 (hi.trans hb.symm);omega
  have hlo:=h3 b hnb;rw[DA hx]at hlo;obtain⟨lo',l1,l2,l3,_⟩:=h1.sites hs hRf hx hlo (A3 x v).length (Nat.le_refl _);rw[Nw (Nat.le_refl _),<-Q6 hx,<-PU hb]at l1;have e:(Fy f v).take (k+1)=(Fy f v).take k++[b]:=by rw[List.take_add_one,hb];rfl
  refine⟨lo',l1,fun c hc=>?_,fun c hc=>?_⟩
  . by_cases hcb:c=b
    . subst hcb;omega
    . rw[l3 c hcb];rw[e]at hc;rcases List.mem_append.1 hc with hc | hc
      . exact h2 c hc
      . exact absurd (List.mem_singleton.1 hc) hcb
  . rw[e]at hc;have hcb:c≠b:=fun e=>hc (List.mem_append.2 (.inr (List.mem_singleton.2 e)))
    rw[l3 c hcb];exact h3 c fun e=>hc (List.mem_append.2 (.inl e))
theorem SI.reg{f:BFunc}(hs:f.sane){R v:Nat}(hRf:f.regs=(R:Int)){ws:List Nat}{st:RSd}(h:SI f R st)(hw:st.ws=ws++[v]):SI f R (HF f v (VI st v ws))/\l0 f R (HF f v (VI st v ws))<l0 f R st:=by
 obtain⟨hv,hg⟩:=h.pop hw;obtain⟨lo,h1,h2,h3⟩:=hg.blocks hs hRf (Fy f v).length (Nat.le_refl _);rw[List.take_length]at h2 h3;have h1':RgI f R v (V9 (Cq f st.G) v) (l0 f R (VI st v ws)) (HF f v (VI st v ws)) lo:=h1;refine⟨⟨h1'.c,fun u hu=>?_,h1'.q⟩,?_⟩
 . by_cases huv:u=v
   . subst huv;refine h1'.done hs (fun b x hx=>?_) hu
     by_cases hm:b∈Fy f u
     . exact .inl (h2 b hm)
     . right;have hbl:=(List.getElem?_eq_some_iff.1 hx).1;have:(Hg f u b).isEmpty=true:=by
        cases e:(Hg f u b).isEmpty with
        | true=>rfl
        | false=>exact absurd (List.mem_filter.2 ⟨List.mem_range.2 hbl,by rw[e];rfl⟩) hm
       rw[DA hx]at this;exact List.isEmpty_iff.1 this
   . exact h1'.oth u huv hu
 . refine Nat.lt_of_le_of_lt h1'.ms ?_;unfold l0 VI;rw[hw,List.length_append]
   simp
theorem SI.done{f:BFunc}(hs:f.sane){R:Nat}(hRf:f.regs=(R:Int)){st:RSd}(h:SI f R st)(hw:st.ws=[]):Cq f st.G=Wq f:=by
 refine lJ h.c fun g hg=>?_
 obtain⟨c,x,l1,t,l2,v,hc⟩:=hg
 by_cases hv:v<R
 . refine h.nd v ?_ g c x l1 t l2 hc
   cases e:st.w v with
   | false=>rfl
   | true=>exact absurd ((h.q.wt.mem v).2 ⟨hv,e⟩) (by rw[hw];simp)
 . exact N9 hs hRf (by omega) g c x l1 t l2 hc
def F4(r0 r1 r2 r3:Nat->AObj):Nat->AObj:=fun x=>if x%4=0 then r0 (x/4)else if x%4=1 then r1 (x/4)else if x%4=2 then r2 (x/4)else r3 (x/4)
theorem qX(r0 r1 r2 r3:Nat->AObj)(b:Nat):F4 r0 r1 r2 r3 (4*b+0)=r0 b:=by
 grind[F4]
theorem qW(r0 r1 r2 r3:Nat->AObj)(b:Nat):F4 r0 r1 r2 r3 (4*b+1)=r1 b:=by
 grind[F4]
theorem lY(r0 r1 r2 r3:Nat->AObj)(b:Nat):F4 r0 r1 r2 r3 (4*b+2)=r2 b:=by
 grind[F4]
theorem lX(r0 r1 r2 r3:Nat->AObj)(b:Nat):F4 r0 r1 r2 r3 (4*b+3)=r3 b:=by
 grind[F4]
theorem qV(r0 r1 r2 r3:Nat->AObj)(b:Nat)(o:AObj)(x:Nat):F4 (JW r0 b o) r1 r2 r3 x=if x=4*b+0 then o else F4 r0 r1 r2 r3 x:=by
 grind[F4,JW]
theorem jv(r0 r1 r2 r3:Nat->AObj)(b:Nat)(o:AObj)(x:Nat):F4 r0 (JW r1 b o) r2 r3 x=if x=4*b+1 then o else F4 r0 r1 r2 r3 x:=by
 grind[F4,JW]
theorem ju(r0 r1 r2 r3:Nat->AObj)(b:Nat)(o:AObj)(x:Nat):F4 r0 r1 (JW r2 b o) r3 x=if x=4*b+2 then o else F4 r0 r1 r2 r3 x:=by
 grind[F4,JW]
theorem jt(r0 r1 r2 r3:Nat->AObj)(b:Nat)(o:AObj)(x:Nat):F4 r0 r1 r2 (JW r3 b o) x=if x=4*b+3 then o else F4 r0 r1 r2 r3 x:=by
 grind[F4,JW]
theorem Lf{k:Nat->Bool}{r0 r1 r2 r3:Nat->AObj}(h0: ∀b,(r0 b).avoid k=true)(h1: ∀b,(r1 b).avoid k=true)(h2: ∀b,(r2 b).avoid k=true)(h3: ∀b,(r3 b).avoid k=true)(x:Nat):(F4 r0 r1 r2 r3 x).avoid k=true:=by
 grind[F4]
def Do(b:Nat):Nat:=if b<16 then b else 16+(b-16)%4
theorem eK(i:Nat):Do (4*i+0+16)=16:=by unfold Do;rw[if_neg (by omega)];omega
theorem eJ(i:Nat):Do (4*i+1+16)=17:=by unfold Do;rw[if_neg (by omega)];omega
theorem eI(i:Nat):Do (4*i+2+16)=18:=by unfold Do;rw[if_neg (by omega)];omega
theorem eH(i:Nat):Do (4*i+3+16)=19:=by unfold Do;rw[if_neg (by omega)];omega
def kD:Nat->Bool:=fun c=>(Nat.ble 2 c&&Nat.blt c 8)||Nat.ble 16 c
def EQ(h g:Ac):Ac:=fun c=>bif kD c then g c else h c
theorem CB(x:Nat):kD (x+16)=true:=by
 unfold kD;rw[show Nat.ble 16 (x+16)=true by rw[Nat.ble_eq];omega];simp
theorem Ue{c:Nat}(h:kD c=false):c=0\/c=1\/(8<=c/\c<16):=by
 unfold kD at h;simp only[Bool.or_eq_false_iff,Bool.and_eq_false_iff]at h;obtain⟨h1,h2⟩:=h;have h3: ¬16<=c:=fun e=>by rw[<-Nat.ble_eq]at e;rw[e]at h2;cases h2
 rcases h1 with h1 | h1
 . have: ¬2<=c:=fun e=>by rw[<-Nat.ble_eq]at e;rw[e]at h1;cases h1
   omega
 . have: ¬c<8:=fun e=>by
    have:Nat.blt c 8=true:=by unfold Nat.blt;rw[Nat.ble_eq];omega
    rw[this]at h1;cases h1
   omega
theorem R4{c:Nat}(h:kD c=true):(2<=c/\c<8)\/16<=c:=by
 unfold kD at h
 (simp_all;done)
theorem EA(h g:Ac)(x:Nat):EQ h g (x+16)=g (x+16):=by unfold EQ;rw[CB];rfl
theorem BQ{h g:Ac}{c:Nat}(hc:kD c=true):EQ h g c=g c:=by unfold EQ;rw[hc];rfl
theorem Xl{h g:Ac}{c:Nat}(hc:kD c=false):EQ h g c=h c:=by unfold EQ;rw[hc];rfl
abbrev DH(L:List AObj)(F:Nat->AObj):Ac:=Hp (nb (.free:: .free::L)) F
theorem fB{L:List AObj}(F:Nat->AObj)(hL:L.length=6){i:Nat}(hi:i<6):DH L F (2+i)=some (U3 L i):=by
 show Hp (nb _) F (2+i)=_;rw[IT _ _ (by omega)];unfold nb;congr 1;rw[Nat.add_comm 2 i];rfl
theorem gT{L:List AObj}{p:AObj->Prop}(h: ∀o∈L,p o)(hf:p .free): ∀i,p (U3 L i):=by
 induction L with
 | nil=>intro i;exact hf
 | cons o L ih=>
  intro i
  cases i with
  | zero=>exact h o (List.mem_cons.2 (.inl rfl))
  | succ i=>exact ih (fun q hq=>h q (List.mem_cons.2 (.inr hq))) i
theorem Pk{L:List AObj}{F:Nat->AObj}(hL:L.length=6)(hA: ∀o∈L,o.avoid kD=true)(hF: ∀x,(F x).avoid kD=true){c:Nat}(hc:kD c=true): ∃q,DH L F c=some q/\q.avoid kD=true:=by
 rcases R4 hc with h | h
 . obtain⟨i,rfl⟩: ∃i,c=2+i:=⟨c-2,by omega⟩
   exact⟨_,fB F hL (by omega),gT hA rfl i⟩
 . obtain⟨x,rfl⟩: ∃x,c=x+16:=⟨c-16,by omega⟩
   exact⟨_,Ao _ _ _,hF x⟩
theorem XY{h:Ac}{L:List AObj}{F:Nat->AObj}(hL:L.length=6)(h1:LowS h 2 L)(h2: ∀x,h (x+16)=some (F x)){c:Nat}(hc:kD c=true):h c=DH L F c:=by
 rcases R4 hc with hh | hh
 . obtain⟨i,rfl⟩: ∃i,c=2+i:=⟨c-2,by omega⟩
   rw[fB F hL (by omega)];exact h1.get (by omega)
 . obtain⟨x,rfl⟩: ∃x,c=x+16:=⟨c-16,by omega⟩
   rw[h2];exact(Ao _ _ _).symm
theorem dG{h:Ac}{L:List AObj}{F:Nat->AObj}(hL:L.length=6)(h1:LowS h 2 L)(h2: ∀x,h (x+16)=some (F x)):Eg h kD=DH L F:=funext fun c=>by
 unfold Eg
 cases e:kD c with
 | true=>exact XY hL h1 h2 e
 | false=>
  rcases Ue e with rfl | rfl | hc
  . rfl
  . rfl
  . show some AObj.free=Hp (nb (.free:: .free::L)) F c;rw[IT _ _ (by omega)];show some AObj.free=some (U3 (.free:: .free::L) c);rw[nth_out (by show L.length+1+1<=c;omega)]
theorem Ef{P:Program}{o:Oper}{e:Av}{h:Ac}{g:FuncId}{fn:Func}{args:Array Operand}{tys:Array TypeId}{xs:List AV}{r:AV}(L L':List AObj){F:Nat->AObj}(F':Nat->AObj)
 (ho:o.op= .call {callee:=.value (.func g),args:=args,argTypes:=tys}) (hf:P.funcs[g]?=some fn) (hn:(fn.name== "runtime.NumGoroutine")=false) (hb:fn.body.isSome=true) (hx:AY e args.toList=some xs)
 (hxa:xs.all (AV.avoid kD)=true) (hL:L.length=6) (hL':L'.length=6) (hA: ∀o∈L,o.avoid kD=true) (hA': ∀o∈L',o.avoid kD=true) (h1:LowS h 2 L) (h2: ∀x,h (x+16)=some (F x)) (hF: ∀x,(F x).avoid kD=true) (hF': ∀x,(F' x).avoid kD=true) (hra:r.avoid kD=true)
 (hcall:ACall P g xs (DH L F) (fun r' h'=>r'=r/\HSub (EQ hNone (DH L' F')) h')):MC P o e h (EQ h (DH L' F')) r:=
 KI (hw:=EQ hNone (DH L' F')) kD ho hf hn hb hx hxa (fun b hb=>by rw[XY hL h1 h2 hb];exact Pk hL hA hF hb) (dG hL h1 h2) (fun b hb=>Xl hb)
  (fun b hb=>by obtain⟨q,q1,q2⟩:=Pk (L:=L') (F:=F') hL' hA' hF' hb;exact⟨q,(BQ hb).trans q1,(BQ hb).trans q1,q2⟩) hra hcall
theorem L1{h:Ac}{L:List AObj}{F:Nat->AObj}(hL:L.length=6)(h1:LowS h 2 L)(h2: ∀x,h (x+16)=some (F x)):HSub (EQ hNone (DH L F)) h:=fun c o ho=>by
 cases e:kD c with
 | true=>rw[BQ e]at ho;rw[XY hL h1 h2 e];exact ho
 | false=>rw[Xl e]at ho;cases ho
def Gv(f:BFunc)(i:Nat):Nat:=((f.blocks[i]?).map fun x=>x.ins.length).getD 0
theorem Cw{f:BFunc}{i:Nat}{x:Block}(h:f.blocks[i]?=some x):Gv f i=x.ins.length:=by unfold Gv;rw[h];rfl
abbrev CS:=Nat->Nat->List Site
def G1(s:Site):List AV:=[.int .i64 (s.at_:Int),.bool s.r,.bool s.s]
def aR(A:Nat->List Nat)(c:Nat):AV:=Ed (4*c+0+16) ((A c).map BG)
def gR(f:BFunc)(i:Nat):AV:=.ref (4*i+1+16) (Gv f i) 0 (Gv f i)
def M2(S:CS)(n v:Nat):List Nat:=(List.range n).filter fun i=> !(S i v).isEmpty
def Up(R:Nat)(S:CS)(v i:Nat):List AV:=[.int .i64 (i:Int),.ref (4*(v+R*i)+3+16) (S i v).length 0 (S i v).length]
def JQ(n R:Nat)(S:CS)(v:Nat):List (List AV):=(M2 S n v).map (Up R S v)
def oR(n R:Nat)(S:CS)(v:Nat):AV:=Ed (4*v+2+16) (JQ n R S v)
def RH(n:Nat)(A:Nat->List Nat):Nat->AObj:=CH n fun c=>Ia 1 ((A c).map BG)
def Pq(f:BFunc)(n:Nat)(G:GG):Nat->AObj:=CH n fun i=>.row true 1 (bC (Gv f i) (G i))
def NS(n R:Nat)(S:CS):Nat->AObj:=CH R fun v=>Pp 2 (JQ n R S v)
def MG(R:Nat)(S:CS):Nat->AObj:=fun m=>Ia 3 ((S (m/R) (m%R)).map G1)
theorem XD{R v i:Nat}(h:v<R):(v+R*i)/R=i:=by
 rw[Nat.add_mul_div_left _ _ (by omega),Nat.div_eq_of_lt h,Nat.zero_add]
theorem XC{R v i:Nat}(h:v<R):(v+R*i)%R=v:=by
 rw[Nat.add_mul_mod_self_left,Nat.mod_eq_of_lt h]
theorem bO{R v i:Nat}{S:CS}(h:v<R):MG R S (v+R*i)=Ia 3 ((S i v).map G1):=by
 unfold MG;rw[XD h,XC h]
abbrev SO(f:BFunc)(R m len:Nat):List AV:=[.int .i64 f.regs,B6 f.blocks,A2 f.nexts,.ref 3 f.blocks.length 0 f.blocks.length,.ref 4 R 0 R,.ref 5 f.blocks.length 0 f.blocks.length,.ref 6 m 0 len,.ref 7 R 0 R]
abbrev In(f:BFunc)(R:Nat)(S:CS)(es:List (List AV))(len:Nat)(w:Nat->Bool):List AObj:=
  [.row false 8 [SO f R es.length len],.row false 1 (Ax (aR (Aw f)) f.blocks.length),.row false 1 (Ax (oR f.blocks.length R S) R),.row false 1 (Ax (gR f) f.blocks.length),.row true 1 es,.row true 1 (bC R w)]
abbrev DF(f:BFunc)(R:Nat)(S:CS)(G:GG):Nat->AObj:=F4 (RH f.blocks.length (Aw f)) (Pq f f.blocks.length G) (NS f.blocks.length R S) (MG R S)
theorem Bd{k:Nat->Bool}(hk: ∀x,k (x+16)=true)(A:Nat->List Nat)(c:Nat):(aR A c).avoid k=true:=B9 _ (hk _)
theorem A4{k:Nat->Bool}(hk: ∀x,k (x+16)=true)(n R:Nat)(S:CS)(v:Nat):(oR n R S v).avoid k=true:=B9 _ (hk _)
theorem BX{k:Nat->Bool}(hk: ∀x,k (x+16)=true)(f:BFunc)(i:Nat):(gR f i).avoid k=true:=by
 grind[gR,AV.avoid,AV.flat]
theorem Jm{k:Nat->Bool}{n:Nat}{A:Nat->List Nat}(b:Nat):(RH n A b).avoid k=true:=Ey (fun _=>Dr _ _) b
theorem Jl{k:Nat->Bool}{f:BFunc}{n:Nat}{G:GG}(b:Nat):(Pq f n G b).avoid k=true:=Ey (fun _=>rfl) b
theorem Zp{k:Nat->Bool}(hk: ∀x,k (x+16)=true){n R:Nat}{S:CS}{v:Nat}{p:Bool}:(AObj.row p 2 (JQ n R S v)).avoid k=true:=by
 cases p with
 | true=>rfl
 | false=>
  show(JQ n R S v).all (fun cs=>cs.all (AV.avoid k))=true;refine List.all_eq_true.2 fun cs hc=>?_
  obtain⟨i,_,rfl⟩:=List.mem_map.1 hc;show(List.all [_,_] (AV.avoid k))=true;simp only[List.all_cons,List.all_nil,Bool.and_true,Bool.and_eq_true];exact⟨rfl,by simp[AV.avoid,AV.flat,hk]⟩
theorem Jk{k:Nat->Bool}(hk: ∀x,k (x+16)=true){n R:Nat}{S:CS}(b:Nat):(NS n R S b).avoid k=true:=Ey (fun v=>by
 unfold Pp
 cases (JQ n R S v).isEmpty with
 | true=>rfl
 | false=>exact Zp hk) b
theorem Jj{k:Nat->Bool}{R:Nat}{S:CS}(m:Nat):(MG R S m).avoid k=true:=Dr _ _
theorem Bc{k:Nat->Bool}(hk: ∀x,k (x+16)=true)(f:BFunc)(R:Nat)(S:CS)(G:GG)(x:Nat):(DF f R S G x).avoid k=true:=Lf (fun _=>Jm _) (fun _=>Jl _) (fun _=>Jk hk _) (fun _=>Jj _) x
theorem Cc(f:BFunc)(R:Nat)(S:CS)(es:List (List AV))(len:Nat)(w:Nat->Bool): ∀o∈In f R S es len w,o.avoid kD=true:=fun o ho=>by
 simp only[In,List.mem_cons,List.not_mem_nil,or_false]at ho;rcases ho with rfl | rfl | rfl | rfl | rfl | rfl
 . rfl
 . exact Ad (fun b _=>Bd CB _ _)
 . exact Ad (fun b _=>A4 CB _ _ _ _)
 . exact Ad (fun b _=>BX CB _ _)
 . rfl
 . rfl
theorem As(k0:Nat): ∀x,kf k0 (x+16)=true:=fun x=>T9 k0 x
theorem VC{f:BFunc}{n i:Nat}{G:GG}{r0 r2 r3:Nat->AObj}{x:Block}(hi:i<n)(hx:f.blocks[i]?=some x):F4 r0 (Pq f n G) r2 r3 (4*i+1)= .row true 1 (bC x.ins.length (G i)):=by
 rw[qW];unfold Pq;rw[Ep hi,Cw hx]
theorem gB{f:BFunc}{n i p:Nat}{G:GG}{r0 r2 r3:Nat->AObj}{x:Block}(hi:i<n)(hx:f.blocks[i]?=some x)(y:Nat):
 F4 r0 (Pq f n (DJ G i p)) r2 r3 y=if y=4*i+1 then .row true 1 ((bC x.ins.length (G i)).set (0+((p:Nat):Int).toNat) [AV.bool true])else F4 r0 (Pq f n G) r2 r3 y:=by
 have e:Pq f n (DJ G i p)=JW (Pq f n G) i (.row true 1 ((bC x.ins.length (G i)).set (0+((p:Nat):Int).toNat) [AV.bool true])):=by
  refine(Gi (k:=n) (o:=fun c=>.row true 1 (bC (Gv f c) (G c))) (o':=fun c=>.row true 1 (bC (Gv f c) (DJ G i p c))) (b:=i) hi fun c hc=>?_).trans ?_
  . congr 2;refine funext fun q=>?_
    rw[FT (fun e=>hc e.1)]
  . unfold Pq;congr 1;show AObj.row true 1 (bC (Gv f i) (DJ G i p i))=_;rw[H5,Cw hx];congr 2;refine funext fun q=>?_
    congr 1
    by_cases hq:q=p
    . subst hq;rw[Jn,CZ]
    . rw[FT (fun e=>hq e.2),CK _ hq]
 rw[e,jv]
theorem D4(n R:Nat)(S:CS)(v:Nat):(JQ n R S v).length=(M2 S n v).length:=by simp[JQ]
theorem Sf(S:CS)(n v:Nat):(M2 S n v).length<=n:=by
 unfold M2
 grind
theorem Ml{us:List Int}{k:Nat}{u:Int}{st:RSd}(h:us[k]?=some u):(us.take (k+1)).foldl (fun st u=>Gl st u.toNat) st=Gl ((us.take k).foldl (fun st u=>Gl st u.toNat) st) u.toNat:=by
 rw[List.take_add_one,h,List.foldl_append];rfl
theorem lZ{f:BFunc}{R i p:Nat}{S:CS}{G:GG}{x:Block}(hi:i<f.blocks.length)(hx:f.blocks[i]?=some x)(y:Nat):
 DF f R S (DJ G i p) y=if y=4*i+1 then .row true 1 ((bC x.ins.length (G i)).set (0+((p:Nat):Int).toNat) [AV.bool true])else DF f R S G y:=gB hi hx y
theorem Nd{f:BFunc}{R v i:Nat}{S:CS}{G:GG}(hv:v<R)(h:0<(S i v).length):DF f R S G (4*(v+R*i)+3)= .row true 3 ((S i v).map G1):=by
 refine(lX _ _ _ _ _).trans ?_;rw[bO hv]
 cases e:S i v with
 | nil=>rw[e]at h;simp at h
 | cons s l=>rfl
theorem SH{f:BFunc}{R v:Nat}{S:CS}{G:GG}(hv:v<R):DF f R S G (4*v+2)=Pp 2 (JQ f.blocks.length R S v):=(lY _ _ _ _ _).trans (Ep hv)
theorem jB{f:BFunc}{R b:Nat}{S:CS}{G:GG}(hb:b<f.blocks.length):DF f R S G (4*b+0)=Ia 1 ((Aw f b).map BG):=(qX _ _ _ _ _).trans (Ep hb)
theorem Sg{S:CS}{n v k i:Nat}(h:(M2 S n v)[k]?=some i):i<n/\0<(S i v).length:=by
 have:=List.mem_filter.1 (List.mem_of_getElem? h)
 grind
theorem Rs{sz k:Nat}{es:List (List AV)}(h:k<es.length):Pp sz es= .row false sz es:=by
 grind[Pp]
theorem NU{P:Program}{T:Nat->Option Ar}{o:Oper}{e:Av}{h:Ac}(hT:Cj P T){t:TypeId}{x y:Operand}{b sz:Nat}{es:List (List AV)}{k:IntKind}{n:Int}{i j:Ar}{u:Nat}(ho:o.op= .indexAddr t x y)(hx:Al e x=some (Ed b es))(hy:Al e y=some (.int k n))
 (hi:T t=some i) (hk:i.k= .slice u) (hj:T u=some j) (hb:h b=some (Pp sz es)) (hsz:sz=j.size) (h0:0<=n) (hn:n<es.length):QLoc P o e h [b] (.ptr b es.length n.toNat 0):=by
 have hlt:n.toNat<es.length:=by omega
 rw[Nv hlt]at hx;rw[Rs hlt]at hb;have:=Ab hT ho hx hy hi hk hj hb rfl hsz h0 hn;rwa[Nat.zero_add]at this
theorem left_yes{n:Nat}{s:Site}{g:Bool}(h:s.at_=n):true=(s.at_==n||g):=by simp[h]
theorem g8{n:Nat}{s:Site}{g:Bool}(h: ¬s.at_=n):g=(s.at_==n||g):=by
 grind
abbrev SB(f:BFunc):CS:=fun i v=>Hg f v i
abbrev iC(n:Nat)(w:Nat->Nat):List (List AV):=Ax (fun b=>.int .i64 (w b:Int)) n
def Lj(w:Nat->Nat)(b z:Nat):Nat->Nat:=fun c=>if c=b then z else w c
theorem dD{n b:Nat}{w:Nat->Nat}(z:Nat):(iC n w).set (0+((b:Nat):Int).toNat) [AV.int .i64 (z:Int)]=iC n (Lj w b z):=by
 rw[Nat.zero_add,Int.toNat_natCast];show(Ax _ n).set b _=_;rw[Ht];refine CU fun c _=>?_
 unfold Lj;split<;>rfl
theorem XF{n b:Nat}{w:Nat->Nat}:(iC n w).set (0+((b:Nat):Int).toNat) [AV.int .i64 2]=iC n (Lj w b 2):=dD 2
theorem ie{n b:Nat}{w:Nat->Nat}:(iC n w).set (0+((b:Nat):Int).toNat) [AV.int .i64 1]=iC n (Lj w b 1):=dD 1
theorem aY(w:Nat->Nat)(b y z:Nat):Lj (Lj w b y) b z=Lj w b z:=funext fun c=>by
 grind[Lj]
theorem fd(n:Nat)(w:Nat->Bool):bC n w=(G3 n w).map A5:=by
 unfold G3;show(List.range n).map _=_;rw[List.map_map];rfl
def HW(f:BFunc)(G:GG)(v k:Nat):Nat->Nat:=fun b=>if b∈(Fy f v).take k then firstG f G v b else 0
def SN(f:BFunc)(G:GG)(v k:Nat):Nat->Bool:=fun b=>HW f G v k b==1
def todoK(f:BFunc)(G:GG)(v k:Nat):List Nat:=((Fy f v).take k).filter fun b=>firstG f G v b==1
theorem G4{l:List Nat}{k i:Nat}(h:l[k]?=some i)(b:Nat):b∈l.take (k+1)↔b∈l.take k\/b=i:=by
 rw[List.take_add_one,h]
 simp
theorem Hn{f:BFunc}{G:GG}{v k i:Nat}(h:(Fy f v)[k]?=some i):HW f G v (k+1)=Lj (HW f G v k) i (firstG f G v i):=funext fun b=>by
 unfold HW Lj
 by_cases hb:b=i
 . subst hb;rw[if_pos ((G4 h b).2 (.inr rfl)),if_pos rfl]
 . rw[if_neg hb];dsimp only
   by_cases h2:b∈(Fy f v).take k
   . rw[if_pos h2,if_pos ((G4 h b).2 (.inl h2))]
   . rw[if_neg h2,if_neg (fun e=>((G4 h b).1 e).elim h2 hb)]
theorem QQ{f:BFunc}{G:GG}{v:Nat}:HW f G v 0=fun _=>0:=funext fun b=>by unfold HW;simp
theorem lv{f:BFunc}{v k i:Nat}(h:(Fy f v)[k]?=some i):i∉(Fy f v).take k:=fun e=>by
 obtain⟨j,hj⟩:=List.mem_iff_getElem?.1 e;have hjk:j<k:=by
  grind
 rw[List.getElem?_take_of_lt hjk]at hj;have hkl:=(List.getElem?_eq_some_iff.1 h).1;have:=(List.getElem?_inj (by omega:j<(Fy f v).length) (QN f v)).1 (hj.trans h.symm);omega
theorem Ur{f:BFunc}{G:GG}{v k i:Nat}(h:(Fy f v)[k]?=some i):HW f G v k i=0:=by
 unfold HW;rw[if_neg (lv h)]
theorem lB{f:BFunc}{G:GG}{v k i:Nat}(h:(Fy f v)[k]?=some i)(h0:firstG f G v i=0):HW f G v k=HW f G v (k+1):=by
 rw[Hn h,h0];refine funext fun b=>?_
 unfold Lj;split
 . subst_vars;exact Ur h
 . rfl
theorem dw{f:BFunc}{G:GG}{v k i:Nat}(h:(Fy f v)[k]?=some i)(h1:firstG f G v i=1):Cu (SN f G v k) i true=SN f G v (k+1):=funext fun b=>by
 unfold SN Cu;rw[Hn h,h1];unfold Lj;split<;>rfl
theorem dy{f:BFunc}{G:GG}{v k i:Nat}(h:(Fy f v)[k]?=some i)(h1:firstG f G v i≠1):SN f G v k=SN f G v (k+1):=funext fun b=>by
 unfold SN;rw[Hn h];unfold Lj;split
 . rename_i hb;rw[hb,Ur h];have:(firstG f G v i==1)=false:=by rw[beq_eq_false_iff_ne];exact h1
   rw[this];rfl
 . rfl
theorem No{f:BFunc}{G:GG}{v k i:Nat}(h:(Fy f v)[k]?=some i)(h1:firstG f G v i=1):todoK f G v k++[i]=todoK f G v (k+1):=by
 unfold todoK;rw[List.take_add_one,h,List.filter_append];simp[h1]
theorem Np{f:BFunc}{G:GG}{v k i:Nat}(h:(Fy f v)[k]?=some i)(h1:firstG f G v i≠1):todoK f G v k=todoK f G v (k+1):=by
 unfold todoK;rw[List.take_add_one,h,List.filter_append];simp[h1]
theorem Yu(f:BFunc)(G:GG)(v k:Nat):(todoK f G v k).length<=k:=by
 unfold todoK
 grind
theorem Us{f:BFunc}{G:GG}{v k:Nat}(h:(Fy f v).length<=k):HW f G v k=firstG f G v:=funext fun b=>by
 unfold HW;rw[List.take_of_length_le h];split
 . rfl
 . rename_i hn
   cases e:f.blocks[b]? with
   | none=>unfold firstG;rw[e];rfl
   | some x=>
    rw[F9 e];have hbl:=(List.getElem?_eq_some_iff.1 e).1;have:(Hg f v b).isEmpty=true:=by
     cases e2:(Hg f v b).isEmpty with
     | true=>rfl
     | false=>exact absurd (List.mem_filter.2 ⟨List.mem_range.2 hbl,by rw[e2];rfl⟩) hn
    rw[DA e]at this;rw[List.isEmpty_iff.1 this];rfl
theorem O6(p:Nat->Bool): ∀n,((List.range n).filter p).length+L3 n p=n
 | 0=>rfl
 | n+1=>by
  have ih:=O6 p n;unfold L3 at ih |-;rw[List.range_succ,List.filter_append,List.length_append,List.map_append,List.sum_append]
  cases e:p n<;>simp[e]<;>omega
theorem BfI.first{f:BFunc}{G:GG}{v k:Nat}(h:(Fy f v).length<=k):BfI f G v (SN f G v k) (todoK f G v k) 0 []:=by
 have hf:=Us (G:=G) h;have hin: ∀b,SN f G v k b=true->b∈todoK f G v k:=fun b hb=>by
  unfold SN at hb;unfold todoK;rw[List.take_of_length_le h];unfold HW at hb;rw[List.take_of_length_le h]at hb;split at hb
  . rename_i hm;exact List.mem_filter.2 ⟨hm,hb⟩
  . cases hb
 refine⟨fun b hb=>?_,fun b hb h1=>?_,fun c hc hn=>absurd (hin c hc) hn,fun c hc=>?_,?_⟩
 . have hm:=hin b hb;unfold todoK at hm;obtain⟨h1,h2⟩:=List.mem_filter.1 hm;have hbl:=dL (List.mem_of_mem_take h1);obtain⟨x,hx⟩:=Ae hbl;refine⟨hbl,.here (Fw hx) ?_⟩;have h3:C7 (G b) x.ins.length (A3 x v)=1:=by rw[<-F9 hx];simpa using h2
   have:=LR (G:=G) (v:=v) hx false;rw[Uy h3,Bool.or_false]at this;exact this
 . unfold SN;rw[hf,h1];rfl
 . unfold todoK at hc;obtain⟨h1,h2⟩:=List.mem_filter.1 hc;unfold SN;rw[hf];exact h2
 . have e:=O6 (SN f G v k) f.blocks.length;have hle:(todoK f G v k).length<=((List.range f.blocks.length).filter (SN f G v k)).length:=by
    unfold todoK;rw[List.take_of_length_le h];unfold Fy;rw[List.filter_filter];have: ∀(l:List Nat) (p q:Nat->Bool),(∀x,p x=true->q x=true)->(l.filter p).length<=(l.filter q).length:=fun l p q hpq=>by
     induction l with
     | nil=>simp
     | cons a l ih=>
      rw[List.filter_cons,List.filter_cons]
      cases ep:p a with
      | true=>rw[hpq a ep];simp;exact ih
      | false=>cases q a<;>simp<;>omega
    refine this _ _ _ fun x hx=>?_
    unfold SN;rw[hf];simp only[Bool.and_eq_true]at hx;exact hx.1
   omega
theorem StackI.push{n:Nat}{es:List (List AV)}{ws:List Nat}(h:StackI n es ws){b:Nat}(hlt:ws.length<n):StackI n (CV es ws.length (BG b)) (ws++[b]):=by
 refine⟨?_,?_,P2 h.le h.max hlt⟩
 . rw[List.length_append];simp only[List.length_cons,List.length_nil];rw[J6 h.le,h.top,List.map_append];rfl
 . rw[List.length_append];simp only[List.length_cons,List.length_nil];exact LA h.le
theorem StackI.none(n:Nat):StackI n [] []:=⟨rfl,Nat.le_refl _,Nat.zero_le _⟩
structure MQ where
  inn:Nat->Bool
  todo:List Nat
  es:List (List AV)
structure MP where
  inn:Nat->Bool
  todo:List Nat
  es:List (List AV)
  j:Nat
theorem first_skip{G:Nat->Bool}{n j:Nat}{l:List Site}{s:Site}(hs:l[j]?=some s)(h:leftS G n s=false):C7 G n (l.drop j)=C7 G n (l.drop (j+1)):=by
 rw[List.drop_eq_getElem_cons (List.getElem?_eq_some_iff.1 hs).1,(List.getElem?_eq_some_iff.1 hs).2,C7,h,cond_false]
theorem OJ{G:Nat->Bool}{n j:Nat}{l:List Site}{s:Site}(hs:l[j]?=some s)(h:leftS G n s=true):C7 G n (l.drop j)=bif s.r then 1 else 2:=by
 rw[List.drop_eq_getElem_cons (List.getElem?_eq_some_iff.1 hs).1,(List.getElem?_eq_some_iff.1 hs).2,C7,h,cond_true]
theorem kR{f:BFunc}{G:GG}{v k i n:Nat}(h:(Fy f v)[k]?=some i)(h1:firstG f G v i=1):((iC n (HW f G v k)).set (0+((i:Nat):Int).toNat) [AV.int .i64 2]).set (0+((i:Nat):Int).toNat) [AV.int .i64 1]=iC n (HW f G v (k+1)):=by
 rw[XF,ie,aY,Hn h,h1]
theorem kQ{f:BFunc}{G:GG}{v k i n:Nat}(h:(Fy f v)[k]?=some i)(h1:firstG f G v i=2):(iC n (HW f G v k)).set (0+((i:Nat):Int).toNat) [AV.int .i64 2]=iC n (HW f G v (k+1)):=by
 rw[XF,Hn h,h1]
theorem BfI.room{f:BFunc}{G:GG}{v:Nat}{inn:Nat->Bool}{todo:List Nat}{b:Nat}{rest:List Nat}(h:BfI f G v inn todo b rest){a:Nat}(ha:a<f.blocks.length)(hi:inn a=false):todo.length<f.blocks.length:=by
 have:=h.cnt;have e:=K5 hi ha;omega
theorem OW{l:List Nat}{j a:Nat}(h:l[j]?=some a):l.drop j=a::l.drop (j+1):=by
 rw[List.drop_eq_getElem_cons (List.getElem?_eq_some_iff.1 h).1,(List.getElem?_eq_some_iff.1 h).2]
theorem MO{f:BFunc}{v i:Nat}{x:Block}(hx:f.blocks[i]?=some x):(Hg f v i).length<=x.ins.length+1:=by
 rw[DA hx];exact W8 _ _ _ _
theorem EE{R v i:Nat}{S:CS}(k0:Nat):(AObj.row false 2 [Up R S v i]).avoid (kf k0)=true:=by
 show(List.all [_,_] (AV.avoid (kf k0))&&true)=true;simp only[List.all_cons,List.all_nil,Bool.and_true,Bool.and_eq_true];exact⟨rfl,by simp[AV.avoid,AV.flat,T9]⟩
theorem W5{f:BFunc}{v i j:Nat}{x:Block}(hx:f.blocks[i]?=some x){s:Site}(h:(Hg f v i)[j]?=some s):s.at_<=x.ins.length:=by
 rw[DA hx]at h;have:=(Vt s (List.mem_of_getElem? h)).2;omega
structure MPI(f:BFunc)(G:GG)(v b m0:Nat)(p:MP):Prop where
  k:BfI f G v p.inn p.todo b ((Aw f b).drop p.j)
  b:p.inn b=true
  st:StackI f.blocks.length p.es p.todo
  mu:2*L3 f.blocks.length p.inn+p.todo.length<=m0
theorem MPI.skip{f:BFunc}{G:GG}{v b m0:Nat}{p:MP}(h:MPI f G v b m0 p){a:Nat}(ha:(Aw f b)[p.j]?=some a)(hs: ¬(firstG f G v a=0/\p.inn a=false)):MPI f G v b m0 ⟨p.inn,p.todo,p.es,p.j+1⟩:=by
 have hk:=h.k;rw[OW ha]at hk;exact⟨hk.skip hs,h.b,h.st,h.mu⟩
theorem MPI.push{f:BFunc}{G:GG}{v b m0:Nat}{p:MP}(h:MPI f G v b m0 p){a:Nat}(ha:(Aw f b)[p.j]?=some a)(h0:firstG f G v a=0)(hi:p.inn a=false):MPI f G v b m0 ⟨Cu p.inn a true,p.todo++[a],CV p.es p.todo.length (BG a),p.j+1⟩:=by
 have hk:=h.k;have hal:=JF (List.mem_of_getElem? ha);have hr:=hk.room hal hi;rw[OW ha]at hk;have hne:b≠a:=fun e=>by have:=h.b;rw[e,hi]at this;cases this
 refine⟨hk.push h.b (List.mem_of_getElem? ha) h0 hi,?_,h.st.push hr,?_⟩
 . show Cu p.inn a true b=true;rw[CK _ hne];exact h.b
 . have:=h.mu;have e:=K5 hi hal;show 2*L3 f.blocks.length (Cu p.inn a true)+(p.todo++[a]).length<=m0;rw[List.length_append]
   simp
   omega
theorem Vr{x:Block}{b:Nat}{st:RSd×Bool}{s:Site}(h:leftS (st.1.G b) x.ins.length s=false):JL x b st s=st:=by
 grind[JL,leftS]
theorem Ta{x:Block}{b:Nat}{st:RSd×Bool}{s:Site}{t:Tac}(h:leftS (st.1.G b) x.ins.length s=true)(ht:x.ins[s.at_]?=some t)(hs:s.s=true)(hb:st.2=false)(hp:t.pure=true):JL x b st s=(BU b s.at_ t.uses st.1,st.2):=by
 grind[JL,leftS,BU]
theorem Nx{x:Block}{b:Nat}{st:RSd×Bool}{s:Site}(h:leftS (st.1.G b) x.ins.length s=true)(hk:s.s=true->∀t,x.ins[s.at_]?=some t->(!st.2&&t.pure)=false):JL x b st s=(st.1,s.r||(!s.s&&st.2)):=by
 grind[JL,leftS]
def UO(inn:Nat->Bool)(x:Block)(j:Nat):Bool:=(x.nexts.take j).any fun d=>inn d.toNat
theorem anyK_succ{inn:Nat->Bool}{x:Block}{j:Nat}{d:Int}(h:x.nexts[j]?=some d):UO inn x (j+1)=(UO inn x j||inn d.toNat):=by
 unfold UO;rw[List.take_add_one,h,List.any_append];simp
theorem fg{inn:Nat->Bool}{x:Block}{j:Nat}(h:x.nexts.length<=j):UO inn x j=Hx inn x:=by
 unfold UO Hx;rw[List.take_of_length_le h]
theorem YM{f:BFunc}{inn:Nat->Bool}{v:Nat}{st:RSd}{k i m:Nat}{x:Block}(h:(Fy f v)[k]?=some i)(hx:f.blocks[i]?=some x)(hm:(Hg f v i).length<=m):(CG inn v x i (J4 f inn v st k) m).1=J4 f inn v st (k+1):=by
 rw[DA hx]at hm;rw[PU h,Q6 hx,Nw hm]
theorem bl{f:BFunc}{v i j:Nat}{x:Block}(hx:f.blocks[i]?=some x){s:Site}(h:(Hg f v i)[j]?=some s)(hs:s.s=true): ∃t,x.ins[s.at_]?=some t:=by
 rw[DA hx]at h;rcases siF_get h with⟨_,_,e,_,_⟩ |⟨p,t,h1,h2,_⟩
 . grind
 grind
theorem YJ{L:Nat}(hL:L<=1000000000):AI .sub (.int .i64 (L:Int)) (.int .i64 1)=some (.int .i64 (((L-0:Nat):Int)-1)):=by
 grind[AI,Bm,isShift,BD]
theorem ja{L m kk:Nat}(h:m+kk+1=L)(hL:L<=1000000000):AI .sub (.int .i64 (kk:Int)) (.int .i64 1)=some (.int .i64 (((L-(m+1):Nat):Int)-1)):=by
 grind[AI,Bm,isShift,BD]
theorem QId.leaveR{R b p:Nat}{us:List Int}{st:RSd}(h:QId R st)(hu: ∀u∈us,0<=u/\u<R):QId R (BU b p us st):=QId.leave (b:=b) (p:=p) (st:=⟨DJ st.G b p,st.w,st.ws,st.es⟩) ⟨h.wt,h.st⟩ hu
theorem YL{f:BFunc}{v:Nat}{st:RSd}(h:(Fy f v).length=0):HF f v st=st:=by
 unfold HF;rw[h];rfl
def Ck(S:CS)(i v:Nat)(l:List Site):CS:=fun i' v'=>if i'=i/\v'=v then l else S i' v'
theorem Hh(S:CS)(i v:Nat)(l:List Site):Ck S i v l i v=l:=by unfold Ck;rw[if_pos ⟨rfl,rfl⟩]
theorem HA{S:CS}{i v i' v':Nat}(l:List Site)(h: ¬(i'=i/\v'=v)):Ck S i v l i' v'=S i' v':=by unfold Ck;rw[if_neg h]
theorem Ln(S:CS)(i v:Nat):Ck S i v (S i v)=S:=funext fun a=>funext fun b=>by
 unfold Ck;split
 . grind
 . rfl
def Cd(S:CS)(i v:Nat):List Nat:=(List.range i).filter fun j=> !(S j v).isEmpty
theorem LS{S:CS}{n i v:Nat}(hi:i<n)(h: ∀j,i<j->S j v=[]):M2 S n v=Cd S i v++(if(S i v).isEmpty then []else [i]):=by
 unfold M2 Cd;have key: ∀m,(List.range (i+1+m)).filter (fun j=> !(S j v).isEmpty)=(List.range (i+1)).filter (fun j=> !(S j v).isEmpty):=fun m=>by
  induction m with
  | zero=>rfl
  | succ m ih=>
   rw[show i+1+(m+1)=(i+1+m)+1 by omega,List.range_succ,List.filter_append,ih,List.filter_cons,h (i+1+m) (by omega)]
   simp
 have:=key (n-(i+1));rw[show i+1+(n-(i+1))=n by omega]at this;rw[this,List.range_succ,List.filter_append,List.filter_cons]
 cases (S i v).isEmpty<;>rfl
theorem cm{S:CS}{i v j:Nat}(h:j∈Cd S i v):j<i:=List.mem_range.1 (List.mem_filter.1 h).1
theorem P9{S:CS}{i v:Nat}(l:List Site)(u:Nat):Cd (Ck S i v l) i u=Cd S i u:=by
 unfold Cd;refine List.filter_congr fun j hj=>?_
 rw[HA l (fun e=>by have:=List.mem_range.1 hj;omega)]
def JA(R:Nat)(v i:Nat)(l:List Site):List AV:=[.int .i64 (i:Int),Ed (4*(v+R*i)+3+16) (l.map G1)]
def Cp(R:Nat)(S:CS)(v i:Nat):List (List AV):=(Cd S i v).map (Up R S v)
theorem lw{R v i:Nat}{S:CS}(h:0<(S i v).length):JA R v i (S i v)=Up R S v i:=by
 unfold JA Up;have:=Nv (b:=4*(v+R*i)+3+16) (es:=(S i v).map G1) (k:=0) (by rw[List.length_map];exact h)
 grind
theorem YY{R:Nat}{S:CS}{v i:Nat}(l:List Site):Cp R (Ck S i v l) v i=Cp R S v i:=by
 unfold Cp;rw[P9];refine List.map_congr_left fun j hj=>?_
 unfold Up;rw[HA l (fun e=>by have:=cm hj;omega)]
theorem M3{n R:Nat}{S:CS}{v i:Nat}(hi:i<n)(h: ∀j,i<j->S j v=[])(hl:0<(S i v).length):JQ n R S v=Cp R S v i++[JA R v i (S i v)]:=by
 unfold JQ Cp;have e:(S i v).isEmpty=false:=by
  grind
 rw[LS hi h,e,List.map_append,lw hl];rfl
theorem XG{n R:Nat}{S:CS}{v i:Nat}(hi:i<n)(h: ∀j,i<j->S j v=[])(hl:S i v=[]):JQ n R S v=Cp R S v i:=by
 unfold JQ Cp;rw[LS hi h,hl];simp
def oX(n R:Nat)(S:CS)(v i:Nat):Nat->AV:=fun u=>if u=v then .ref (4*v+2+16) ((Cd S i v).length+1) 0 ((Cd S i v).length+1)else oR n R S u
def PY(n R:Nat)(S:CS)(v i:Nat)(l:List Site):Nat->AObj:=JW (NS n R S) v (.row false 2 (Cp R S v i++[JA R v i l]))
def YR(R:Nat)(S:CS)(v i:Nat)(l:List Site):Nat->AObj:=JW (MG R S) (v+R*i) (Ia 3 (l.map G1))
theorem je{n R:Nat}{S:CS}{v i u:Nat}(l:List Site)(h:u≠v):JQ n R (Ck S i v l) u=JQ n R S u:=by
 unfold JQ M2;have e:((List.range n).filter fun j=> !(Ck S i v l j u).isEmpty)=(List.range n).filter fun j=> !(S j u).isEmpty:=List.filter_congr fun j _=>by rw[HA l (fun e=>h e.2)]
 rw[e];refine List.map_congr_left fun j _=>?_
 unfold Up;rw[HA l (fun e=>h e.2)]
theorem jd{n R:Nat}{S:CS}{v i:Nat}{l:List Site}(hi:i<n)(h: ∀j,i<j->S j v=[])(hl:0<l.length):Ax (oX n R S v i) R=Ax (oR n R (Ck S i v l)) R:=CU fun u _=>by
 unfold oX oR
 by_cases hu:u=v
 . subst hu;rw[if_pos rfl,M3 hi (fun j hj=>by rw[HA l (fun e=>by omega)];exact h j hj) (by rw[Hh];exact hl),Hf];unfold Cp;rw[List.length_map,P9]
 . rw[if_neg hu,je l hu]
theorem bR{n R:Nat}{S:CS}{v i:Nat}{l:List Site}(hv:v<R)(hi:i<n)(h: ∀j,i<j->S j v=[])(hl:0<l.length):PY n R S v i l=NS n R (Ck S i v l):=by
 unfold PY;have:=Gi (k:=R) (o:=fun u=>Pp 2 (JQ n R S u)) (o':=fun u=>Pp 2 (JQ n R (Ck S i v l) u)) hv (fun c hc=>by rw[je l hc]);refine Eq.trans ?_ this.symm;unfold NS;congr 1;rw[M3 hi (fun j hj=>by rw[HA l (fun e=>by omega)];exact h j hj) (by rw[Hh];exact hl),Hh,YY];simp[Pp,MN]
theorem RF{R:Nat}{S:CS}{v i:Nat}{l:List Site}(hv:v<R):YR R S v i l=MG R (Ck S i v l):=funext fun m=>by
 unfold YR JW MG
 by_cases hm:m=v+R*i
 . subst hm;rw[if_pos rfl,XD hv,XC hv,Hh]
 . rw[if_neg hm,HA l (fun e=>hm ?_)];have:=Nat.mod_add_div m R;rw[e.1,e.2]at this;exact this.symm
theorem bM{R:Nat}{S:CS}{v i:Nat}(hv:v<R):YR R S v i (S i v)=MG R S:=by rw[RF hv,Ln]
theorem bQ{n R:Nat}{S:CS}{v i:Nat}(hv:v<R)(hi:i<n)(h: ∀j,i<j->S j v=[])(hl:0<(S i v).length):PY n R S v i (S i v)=NS n R S:=by rw[bR hv hi h hl,Ln]
theorem gP{n R:Nat}{S:CS}{v i:Nat}(hi:i<n)(h: ∀j,i<j->S j v=[])(hl:0<(S i v).length):Ax (oX n R S v i) R=Ax (oR n R S) R:=by rw[jd hi h hl,Ln]
def A6(l:List Site)(p:Nat):List Site:=if(l.getLast?.map Site.at_)=some p then l else l++[⟨p,false,false⟩]
theorem Cv(l:List Site)(p:Nat):0<(A6 l p).length:=by
 grind[A6]
theorem Jt{l:List Site}{p k:Nat}{s:Site}(hk:l[k]?=some s)(hl:k+1=l.length)(h:s.at_≠p):A6 l p=l++[⟨p,false,false⟩]:=by
 grind[A6]
theorem Qf{l:List Site}{p k:Nat}{s:Site}(hk:l[k]?=some s)(hl:k+1=l.length)(h:s.at_=p):A6 l p=l:=by
 grind[A6]
theorem Qe{n R:Nat}{S:CS}{v i:Nat}(hi:i<n)(h: ∀j,i<j->S j v=[])(hl:(JQ n R S v).length=0):S i v=[]:=by
 cases e:S i v with
 | nil=>rfl
 | cons a l=>
  rw[M3 hi h (by rw[e];simp)]at hl;simp at hl
theorem note_new2{n:Nat}{S:CS}{v i k j0:Nat}(hi:i<n)(h: ∀j,i<j->S j v=[])(hk:(M2 S n v)[k]?=some j0)(hl:k+1=(M2 S n v).length)(hne:j0≠i):S i v=[]:=by
 cases e:S i v with
 | nil=>rfl
 | cons a l=>
  have hs:M2 S n v=Cd S i v++[i]:=by rw[LS hi h,e];rfl
  rw[hs]at hk hl;have:k=(Cd S i v).length:=by simp at hl;omega
  subst this;rw[List.getElem?_append_right (Nat.le_refl _)]at hk;simp at hk;exact absurd hk.symm hne
theorem cJ{n:Nat}{S:CS}{v i k:Nat}(hi:i<n)(h: ∀j,i<j->S j v=[])(hk:(M2 S n v)[k]?=some i):0<(S i v).length:=(Sg hk).2
theorem cH{n R:Nat}{S:CS}{v i:Nat}(hi:i<n)(h: ∀j,i<j->S j v=[])(hl:0<(S i v).length):oR n R S v= .ref (4*v+2+16) ((Cd S i v).length+1) 0 ((Cd S i v).length+1):=by
 unfold oR;rw[M3 hi h hl,Hf];unfold Cp;rw[List.length_map]
theorem Yg{es:List (List AV)}{x y:List AV}(h:WkAll x y): ∀(i:Nat) (ds ds':List AV),(es++[x])[i]?=some ds->(es++[y])[i]?=some ds'->ds'.length=ds.length/\∀(j:Nat) (a b:AV),ds[j]?=some a->ds'[j]?=some b->(a.cell1=true->b.cell1=true)/\∀H ι v,Rel H ι a v->Rel H ι b v:=fun i ds ds' h1 h2=>by
 grind[List.getElem?_append_left,Wk.refl,List.getElem?_append_right,Nh,WkAll]
theorem lj{n R:Nat}{S:CS}{v i:Nat}{es:List (List AV)}{x:List AV}(hp:es.length=(Cd S i v).length):(Ax (oR n R S) R).set (0+((v:Nat):Int).toNat) [Ed (4*v+2+16) (es++[x])]=Ax (oX n R S v i) R:=by
 rw[Nat.zero_add,Int.toNat_natCast,Ht];refine CU fun u _=>?_
 unfold oX
 by_cases hu:u=v
 . subst hu;rw[if_pos rfl,if_pos rfl,Hf,hp]
 . rw[if_neg hu,if_neg hu]
theorem Es(R:Nat)(S:CS)(v i:Nat):(Cp R S v i).length=(Cd S i v).length:=by simp[Cp]
theorem YX(S:CS)(i v:Nat):(Cd S i v).length<=i:=by
 unfold Cd
 grind
theorem Y7(l:List Site)(p:Nat):(A6 l p).length<=l.length+1:=by
 grind[A6]
theorem FD{n R v i:Nat}{S:CS}{l:List Site}{r0 r1 r3:Nat->AObj}:F4 r0 r1 (PY n R S v i l) r3 (4*v+2)= .row false 2 (Cp R S v i++[JA R v i l]):=by
 rw[lY];unfold PY JW;rw[if_pos rfl]
theorem kU{R v i:Nat}{S:CS}{l:List Site}{r0 r1 r2:Nat->AObj}:F4 r0 r1 r2 (YR R S v i l) (4*(v+R*i)+3)=Ia 3 (l.map G1):=by
 rw[lX];unfold YR JW;rw[if_pos rfl]
theorem ck{R v i:Nat}{S:CS}{l:List Site}:(Cp R S v i++[JA R v i l])[(Cd S i v).length]?=some (JA R v i l):=by
 rw[<-Es R S v i,List.getElem?_append_right (Nat.le_refl _)];simp
theorem kV{n R v i:Nat}{S:CS}{l:List Site}{r0 r1 r3:Nat->AObj}(x:Nat):F4 r0 r1 (PY n R S v i l) r3 x=if x=4*v+2 then .row false 2 (Cp R S v i++[JA R v i l])else F4 r0 r1 (NS n R S) r3 x:=ju _ _ _ _ _ _ _
theorem YS{n R v i:Nat}{S:CS}{l l':List Site}:PY n R S v i l'=JW (PY n R S v i l) v (.row false 2 (Cp R S v i++[JA R v i l'])):=funext fun c=>by
 unfold PY JW;split<;>rfl
theorem cj{R v i:Nat}{S:CS}{l:List Site}{y:List AV}:(Cp R S v i++[JA R v i l]).set (Cd S i v).length y=Cp R S v i++[y]:=by
 rw[<-Es R S v i,List.set_append_right _ _ (Nat.le_refl _)];simp
theorem MR{l:List Site}(h:0<l.length):Ia 3 (l.map G1)= .row true 3 (l.map G1):=Rt (k:=0) (by rw[List.length_map];exact h)
theorem VB{n R v:Nat}{S:CS}{r0 r1 r3:Nat->AObj}(hv:v<R):F4 r0 r1 (NS n R S) r3 (4*v+2)=Pp 2 (JQ n R S v):=(lY _ _ _ _ _).trans (Ep hv)
theorem PX{R v i:Nat}{S:CS}{r0 r1 r2:Nat->AObj}(hv:v<R):F4 r0 r1 r2 (MG R S) (4*(v+R*i)+3)=Ia 3 ((S i v).map G1):=(lX _ _ _ _ _).trans (bO hv)
theorem PO{L:Nat}(h:0<L)(hL:L<=1000000000):AI .sub (.int .i64 (L:Int)) (.int .i64 1)=some (.int .i64 ((L-1:Nat):Int)):=by
 grind[AI,Bm,isShift,BD]
theorem Sj{L:Nat}(h:(((L:Nat):Int)==0)=false):0<L:=by
 grind
theorem Eh{L:Nat}(h:(((L:Nat):Int)==0)=true):L=0:=by
 grind
theorem MU{α:Type}{l:List α}(h:l.length=0):l=[]:=List.length_eq_zero_iff.1 h
theorem kE(l:List Site): ∀cs∈l.map G1,cs.length=3:=fun cs hc=>by
 grind[G1]
theorem M7{h:Ac}{L:List AObj}{F:Nat->AObj}(hL:L.length=6)(h0:h 0=some .free)(h1:h 1=some .free)(hl:LowS h 2 L)(hh: ∀x,h (x+16)=some (F x))(hf: ∀c,8<=c->c<16->h c=some .free):HSub (DH L F) h:=fun c o ho=>by
 cases e:kD c with
 | true=>rw[XY hL hl hh e];exact ho
 | false=>
  rcases Ue e with rfl | rfl | hc
  . have:some AObj.free=some o:=ho;rw[h0];exact this
  . have:some AObj.free=some o:=ho;rw[h1];exact this
  . have e2:DH L F c=some .free:=by
     show Hp (nb (.free:: .free::L)) F c=_;rw[IT _ _ (by omega)];show some (U3 (.free:: .free::L) c)=_;rw[nth_out (by show L.length+1+1<=c;omega)]
    rw[e2]at ho;rw[hf c hc.1 hc.2];exact ho
theorem Wa(h:Ac)(z:Nat)(o1 o2:AObj):hput (hput h z o1) z o2=hput h z o2:=funext fun c=>by
 by_cases hc:c=z
 . subst hc;rw[Aq,Aq]
 . rw[AL _ _ hc,AL _ _ hc,AL _ _ hc]
theorem gv{n R v i:Nat}{S:CS}{r0 r1 r3:Nat->AObj}(hS0:S i v=[])(x:Nat):F4 r0 r1 (PY n R S v i (S i v)) r3 x=if x=4*v+2 then .row false 2 (Cp R S v i++[[.int .i64 (i:Int),Ed (4*(v+R*i)+3+16) []]])else F4 r0 r1 (NS n R S) r3 x:=by
 rw[kV,hS0];rfl
theorem bP{n R v i:Nat}{S:CS}{l l':List Site}{r0 r1 r3:Nat->AObj}{y:List AV}(hy:y=JA R v i l')(x:Nat):F4 r0 r1 (PY n R S v i l') r3 x=if x=4*v+2 then .row false 2 ((Cp R S v i++[JA R v i l]).set (0+(((Cd S i v).length:Nat):Int).toNat) y)else F4 r0 r1 (PY n R S v i l) r3 x:=by
 rw[YS (l:=l),ju,Nat.zero_add,Int.toNat_natCast,cj,hy]
theorem bL{R v i:Nat}{S:CS}{l:List Site}{s:Site}{r0 r1 r2:Nat->AObj}(x:Nat):F4 r0 r1 r2 (YR R S v i (l++[s])) x=if x=4*(v+R*i)+3 then Ia 3 (l.map G1++[G1 s])else F4 r0 r1 r2 (MG R S) x:=by
 unfold YR;rw[jt,List.map_append];rfl
theorem dM{R v i:Nat}{l:List Site}{s:Site}:[AV.int .i64 (i:Int),Ed (4*(v+R*i)+3+16) (l.map G1++[G1 s])]=JA R v i (l++[s]):=by
 unfold JA;rw[List.map_append];rfl
theorem Tc(z:Bool)(v:Nat)(t:Tac): ∀(l:List Tac) (j:Nat),GI false v (l++[t]) j=GI false v l j++(bif t.uses.contains (v:Int)||t.sets==(v:Int)then [⟨j+l.length,t.uses.contains (v:Int),t.sets==(v:Int)⟩]else [])
 | [],j=>by
  rw[List.nil_append,Ew]
  cases t.uses.contains (v:Int)||t.sets==(v:Int)<;>simp[GI]
 | u::l,j=>by
  rw[List.cons_append,Ew,Ew,Tc z v t l (j+1)];have:j+1+l.length=j+(u::l).length:=by rw[List.length_cons];omega
  rw[this]
  cases u.uses.contains (v:Int)||u.sets==(v:Int)<;>simp
theorem W9(z:Bool)(v:Nat): ∀(l:List Tac) (j:Nat),GI z v l j=GI false v l j++(bif z then [⟨j+l.length,true,false⟩]else [])
 | [],j=>by cases z<;>simp[GI]
 | u::l,j=>by
  rw[Ew,Ew,W9 z v l (j+1)];have:j+1+l.length=j+(u::l).length:=by rw[List.length_cons];omega
  rw[this]
  cases u.uses.contains (v:Int)||u.sets==(v:Int)<;>simp
def Pv(x:Block)(v j:Nat):List Site:=GI false v (x.ins.take j) 0
theorem Tb(x:Block)(v:Nat):Pv x v 0=[]:=by simp[Pv,GI]
theorem Ny{x:Block}{v j:Nat}{t:Tac}(h:x.ins[j]?=some t):Pv x v (j+1)=Pv x v j++(bif t.uses.contains (v:Int)||t.sets==(v:Int)then [⟨j,t.uses.contains (v:Int),t.sets==(v:Int)⟩]else []):=by
 unfold Pv;have hj:=(List.getElem?_eq_some_iff.1 h).1;have e:x.ins.take (j+1)=x.ins.take j++[t]:=by rw[List.take_add_one,h];rfl
 rw[e,Tc false,List.length_take,Nat.min_eq_left (by omega),Nat.zero_add]
theorem W7(x:Block)(v:Nat):A3 x v=Pv x v x.ins.length++(bif Db x v then [⟨x.ins.length,true,false⟩]else []):=by
 unfold A3 Pv;rw[W9,List.take_length,Nat.zero_add]
theorem bm{x:Block}{v j:Nat}: ∀s∈Pv x v j,s.at_<j:=fun s hs=>by
 unfold Pv at hs;obtain⟨k,hk⟩:=List.mem_iff_getElem?.1 hs;rcases siF_get hk with⟨_,_,_,e,_⟩ |⟨p,t,h1,h2,_⟩
 . cases e
 . have:=(List.getElem?_eq_some_iff.1 h2).1;rw[List.length_take]at this;omega
theorem noteL_fresh{l:List Site}{p:Nat}(h: ∀s∈l,s.at_<p):A6 l p=l++[⟨p,false,false⟩]:=by
 unfold A6
 cases e:l.getLast? with
 | none=>simp
 | some s=>
  have:=h s (List.mem_of_getLast? e);rw[if_neg (by simp;omega)]
theorem noteL_there{l:List Site}{p:Nat}{r s:Bool}:A6 (l++[⟨p,r,s⟩]) p=l++[⟨p,r,s⟩]:=by
 unfold A6;rw[List.getLast?_concat];simp
def C2(f:BFunc)(i:Nat)(cur:Nat->List Site):CS:=fun i' v=>if i'<i then Hg f v i' else if i'=i then cur v else []
theorem NZ(f:BFunc)(i:Nat)(cur:Nat->List Site)(v:Nat): ∀j,i<j->C2 f i cur j v=[]:=fun j hj=>by
 unfold C2;rw[if_neg (by omega),if_neg (by omega)]
theorem RP(f:BFunc)(i:Nat)(cur:Nat->List Site)(v:Nat):C2 f i cur i v=cur v:=by
 unfold C2;rw[if_neg (Nat.lt_irrefl i),if_pos rfl]
theorem RM(f:BFunc)(i:Nat)(cur:Nat->List Site)(v:Nat)(l:List Site):Ck (C2 f i cur) i v l=C2 f i (fun u=>if u=v then l else cur u):=funext fun a=>funext fun u=>by
 unfold Ck C2
 by_cases ha:a=i
 . subst ha;rw[if_neg (Nat.lt_irrefl a),if_pos rfl,if_neg (Nat.lt_irrefl a),if_pos rfl]
   by_cases hu:u=v
   . rw[if_pos ⟨rfl,hu⟩];exact(if_pos hu).symm
   . rw[if_neg (fun e=>hu e.2)];exact(if_neg hu).symm
 . rw[if_neg (fun e=>ha e.1)]
   by_cases h2:a<i
   . rw[if_pos h2,if_pos h2]
   . rw[if_neg h2,if_neg h2,if_neg ha,if_neg ha]
theorem TH{f:BFunc}{i:Nat}{x:Block}(hx:f.blocks[i]?=some x){cur:Nat->List Site}(h: ∀v,cur v=A3 x v):C2 f i cur=C2 f (i+1) (fun _=>[]):=funext fun a=>funext fun u=>by
 unfold C2
 by_cases ha:a=i
 . subst ha;rw[if_neg (Nat.lt_irrefl a),if_pos rfl,if_pos (Nat.lt_succ_self a),h,DA hx]
 . by_cases h2:a<i
   . rw[if_pos h2,if_pos (by omega)]
   . rw[if_neg h2,if_neg ha,if_neg (by omega)];split<;>rfl
theorem gG{f:BFunc}:C2 f f.blocks.length (fun _=>[])=SB f:=funext fun a=>funext fun u=>by
 unfold C2
 by_cases h:a<f.blocks.length
 . rw[if_pos h]
 . rw[if_neg h];have:f.blocks[a]?=none:=List.getElem?_eq_none_iff.2 (by omega);have e:Hg f u a=[]:=by unfold Hg;rw[this];rfl
   show _=Hg f u a;rw[e];split<;>rfl
theorem Jo{f:BFunc}{i:Nat}{cur cur':Nat->List Site}(h: ∀v,cur v=cur' v):C2 f i cur=C2 f i cur':=by rw[funext h]
def Bt(x:Block)(j:Nat)(us:List Int)(v:Nat):List Site:=Pv x v j++(bif us.contains (v:Int)then [⟨j,true,false⟩]else [])
theorem Hs(x:Block)(j v:Nat):Bt x j [] v=Pv x v j:=by simp[Bt]
def flagR(l:List Site):List Site:=l.dropLast++(l.getLast?.map fun s=>(⟨s.at_,true,s.s⟩:Site)).toList
def flagS(l:List Site):List Site:=l.dropLast++(l.getLast?.map fun s=>(⟨s.at_,s.r,true⟩:Site)).toList
theorem HX(l:List Site)(s:Site):flagR (l++[s])=l++[⟨s.at_,true,s.s⟩]:=by
 unfold flagR;rw[List.dropLast_concat,List.getLast?_concat];rfl
theorem Ke(l:List Site)(s:Site):flagS (l++[s])=l++[⟨s.at_,s.r,true⟩]:=by
 unfold flagS;rw[List.dropLast_concat,List.getLast?_concat];rfl
theorem jf{x:Block}{j v:Nat}{us:List Int}: ∃r,A6 (Bt x j us v) j=Pv x v j++[⟨j,r,false⟩]/\r=us.contains (v:Int):=by
 unfold Bt
 cases e:us.contains (v:Int)with
 | true=>exact⟨true,noteL_there,rfl⟩
 | false=>
  refine⟨false,?_,rfl⟩;rw[cond_false,List.append_nil];exact noteL_fresh bm
theorem use_noted{x:Block}{j:Nat}{us:List Int}{k:Nat}{u:Int}(h:us[k]?=some u)(h0:0<=u)(v:Nat):(if v=u.toNat then flagR (A6 (Bt x j (us.take k) u.toNat) j)else Bt x j (us.take k) v)=Bt x j (us.take (k+1)) v:=by
 have e:us.take (k+1)=us.take k++[u]:=by rw[List.take_add_one,h];rfl
 by_cases hv:v=u.toNat
 . rw[if_pos hv];obtain⟨r,h1,_⟩:=jf (x:=x) (j:=j) (v:=u.toNat) (us:=us.take k);rw[h1,HX];unfold Bt;have:(us.take (k+1)).contains (v:Int)=true:=by
    rw[List.contains_iff_mem,e,List.mem_append,List.mem_singleton];right;omega
   rw[this,hv];rfl
 . rw[if_neg hv];unfold Bt;have:(us.take (k+1)).contains (v:Int)=(us.take k).contains (v:Int):=by
    rw[Bool.eq_iff_iff,List.contains_iff_mem,List.contains_iff_mem,e,List.mem_append,List.mem_singleton];exact⟨fun h=>h.elim id fun e=>absurd (show v=u.toNat by omega) hv,.inl⟩
   rw[this]
theorem YC{x:Block}{j:Nat}{t:Tac}(ht:x.ins[j]?=some t)(h0:0<=t.sets)(v:Nat):(if v=t.sets.toNat then flagS (A6 (Bt x j t.uses t.sets.toNat) j)else Bt x j t.uses v)=Pv x v (j+1):=by
 rw[Ny ht]
 by_cases hv:v=t.sets.toNat
 . rw[if_pos hv];obtain⟨r,h1,h2⟩:=jf (x:=x) (j:=j) (v:=t.sets.toNat) (us:=t.uses);rw[h1,Ke];have e:(t.sets==(v:Int))=true:=by rw[beq_iff_eq];omega
   rw[e,Bool.or_true,cond_true,h2,hv]
 . rw[if_neg hv];have e:(t.sets==(v:Int))=false:=by rw[beq_eq_false_iff_ne];omega
   rw[e,Bool.or_false];unfold Bt
   cases t.uses.contains (v:Int)<;>rfl
theorem TQ{x:Block}{j:Nat}{t:Tac}(ht:x.ins[j]?=some t)(h0: ¬0<=t.sets)(v:Nat):Bt x j t.uses v=Pv x v (j+1):=by
 rw[Ny ht];have e:(t.sets==(v:Int))=false:=by rw[beq_eq_false_iff_ne];omega
 rw[e,Bool.or_false];unfold Bt
 cases t.uses.contains (v:Int)<;>rfl
theorem ZE{x:Block}(h:x.fin=2)(h0:0<=x.v)(v:Nat):(if v=x.v.toNat then flagR (A6 (Pv x x.v.toNat x.ins.length) x.ins.length)else Pv x v x.ins.length)=A3 x v:=by
 rw[W7]
 by_cases hv:v=x.v.toNat
 . rw[if_pos hv,noteL_fresh bm,HX];have:Db x v=true:=by unfold Db;rw[h];simp;omega
   rw[this,hv];rfl
 . rw[if_neg hv];have:Db x v=false:=by
    unfold Db;have:(x.v==(v:Int))=false:=by rw[beq_eq_false_iff_ne];omega
    rw[this,Bool.and_false]
   rw[this,cond_false,List.append_nil]
theorem TR{x:Block}(h: ¬x.fin=2)(v:Nat):Pv x v x.ins.length=A3 x v:=by
 rw[W7];have:Db x v=false:=by unfold Db;simp[h]
 rw[this,cond_false,List.append_nil]
theorem lS{n d k:Nat}{A A':Nat->List Nat}(h: ∀c,A' c=if c=d then A c++[k]else A c):(Ax (aR A) n).set (0+d) [Ed (4*d+0+16) ((A d).map BG++[BG k])]=Ax (aR A') n:=by
 grind[Ht,CU,aR,Ax,Ed,BG]
theorem gD{n d k:Nat}{A A':Nat->List Nat}{r1 r2 r3:Nat->AObj}(hd:d<n)(h: ∀c,A' c=if c=d then A c++[k]else A c)(x:Nat):F4 (RH n A') r1 r2 r3 x=if x=4*d+0 then Ia 1 ((A d).map BG++[BG k])else F4 (RH n A) r1 r2 r3 x:=by
 have e:RH n A'=JW (RH n A) d (Ia 1 ((A' d).map BG)):=Gi hd fun c hc=>by rw[h,if_neg hc]
 grind[qV,F4,RH,Ia,BG]
theorem P0{n:Nat}{A A':Nat->List Nat}(h: ∀c,A c=A' c):RH n A=RH n A':=by rw[funext h]
theorem qr{n:Nat}{A:Nat->List Nat}{r1 r2 r3:Nat->AObj}{b:Nat}(h:b<n):F4 (RH n A) r1 r2 r3 (4*b+0)=Ia 1 ((A b).map BG):=(qX _ _ _ _ _).trans (Ep h)
abbrev G0:GG:=fun _ _=>false
def S0:CS:=fun _ _=>[]
def gK(f:BFunc)(k:Nat):Nat->AV:=fun b=>if b<k then gR f b else .nil
theorem io(f:BFunc)(n:Nat):List.replicate n [AV.nil]=Ax (gK f 0) n:=by
 grind[Hu,CU,gK,Ax]
theorem ly(f:BFunc):Ax (gK f f.blocks.length) f.blocks.length=Ax (gR f) f.blocks.length:=CU fun b hb=>by
 grind[gK,Ax,gR]
theorem lx{f:BFunc}{n k:Nat}{m:Nat}(hm:Gv f k=m):(Ax (gK f k) n).set (0+((k:Nat):Int).toNat) [.ref (4*k+1+16) m 0 m]=Ax (gK f (k+1)) n:=by
 rw[Nat.zero_add,Int.toNat_natCast,Ht]
 grind[CU,gK,gR,Gv,Ax]
theorem DU{p:Nat->Bool}(hp: ∀x,p (x+16)=true)(f:BFunc)(k b:Nat):(gK f k b).avoid p=true:=by
 unfold gK;split
 . exact BX hp f b
 . rfl
theorem gC{f:BFunc}{k:Nat}{G:GG}{r0 r2 r3:Nat->AObj}:F4 r0 (Pq f k G) r2 r3 (4*k+1)= .free:=(qW _ _ _ _ _).trans (J0 (Nat.le_refl _))
theorem bZ{f:BFunc}{k m:Nat}{r0 r2 r3:Nat->AObj}(hm:Gv f k=m)(x:Nat):F4 r0 (Pq f (k+1) G0) r2 r3 x=if x=4*k+1 then .row true 1 (List.replicate m [AV.bool false])else F4 r0 (Pq f k G0) r2 r3 x:=by
 unfold Pq;rw[Iy,jv,hm];have:bC m (G0 k)=List.replicate m [AV.bool false]:=by
  show Ax (fun _=>AV.bool false) m=_;exact(Hu _ _).symm
 rw[this]
theorem fb(R:Nat):List.replicate R [AV.bool false]=bC R (fun b=>decide (b<0)):=by
 show _=Ax (fun b=>AV.bool (decide (b<0))) R;rw[Hu]
 grind
theorem dJ(n v:Nat):M2 S0 n v=[]:=by
 unfold M2;exact List.filter_eq_nil_iff.2 fun a _=>by simp[S0]
theorem Um(n R v:Nat):JQ n R S0 v=[]:=by unfold JQ;rw[dJ];rfl
theorem gQ(n R v:Nat):oR n R S0 v=Ed (4*v+2+16) []:=by unfold oR;rw[Um]
theorem F4_start{f:BFunc}{n R x:Nat}:F4 (RH n (fun _=>[])) (Pq f 0 G0) (NS n R S0) (MG R S0) x= .free:=by
 have e0: ∀b,RH n (fun _=>[]) b= .free:=fun b=>by unfold RH CH;split<;>rfl
 have e1: ∀b,Pq f 0 G0 b= .free:=fun b=>by unfold Pq CH;rw[if_neg (Nat.not_lt_zero b)]
 have e2: ∀b,NS n R S0 b= .free:=fun b=>by unfold NS CH;dsimp only;rw[Um];split<;>rfl
 have e3: ∀b,MG R S0 b= .free:=fun b=>rfl
 unfold F4;split
 . exact e0 _
 . split
   . exact e1 _
   . split
     . exact e2 _
     . exact e3 _
theorem dK{S S':CS}{n v:Nat}(h: ∀i,(S i v).length=(S' i v).length):M2 S n v=M2 S' n v:=by
 unfold M2
 grind
theorem Uo{S S':CS}{n R v:Nat}(h: ∀i,(S i v).length=(S' i v).length):JQ n R S v=JQ n R S' v:=by
 unfold JQ;rw[dK h];refine List.map_congr_left fun i _=>?_
 unfold Up;rw[h i]
theorem gS{S S':CS}{n R:Nat}(h: ∀v i,(S i v).length=(S' i v).length):Ax (oR n R S) R=Ax (oR n R S') R:=CU fun v _=>by
 unfold oR;rw[Uo (h v)]
theorem bS{S S':CS}{n R:Nat}(h: ∀v i,(S i v).length=(S' i v).length):NS n R S=NS n R S':=by
 unfold NS;congr 1;exact funext fun v=>by rw[Uo (h v)]
theorem PP{S:CS}{i v:Nat}{l l':List Site}(h:l'.length=l.length): ∀v' i',(Ck S i v l i' v').length=(Ck S i v l' i' v').length:=fun v' i'=>by
 unfold Ck;split
 . exact h.symm
 . rfl
theorem F8{l:List Site}:(flagR l).length=l.length:=by
 grind[HX,flagR]
theorem LV{l:List Site}:(flagS l).length=l.length:=by
 grind[Ke,flagS]
theorem gh{l:List Site}(h:0<l.length): ∃l' s,l=l'++[s]:=by
 rcases List.eq_nil_or_concat l with rfl |⟨l',s,rfl⟩
 . simp at h
 grind
theorem si_last{l:List Site}(h:0<l.length): ∃s,l[l.length-1]?=some s/\(l.map G1).set (l.length-1) [.int .i64 (s.at_:Int),.bool true,.bool s.s]=(flagR l).map G1/\(l.map G1).set (l.length-1) [.int .i64 (s.at_:Int),.bool s.r,.bool true]=(flagS l).map G1:=by
 grind[gh,List.getElem?_append_right,HX,G1,Ke,flagR,flagS]
theorem bN{R v i:Nat}{S:CS}{l l':List Site}{r0 r1 r2:Nat->AObj}{q:List (List AV)}(hv:v<R)(hl:0<l'.length)(hq:q=l'.map G1)(x:Nat):F4 r0 r1 r2 (MG R (Ck S i v l')) x=if x=4*(v+R*i)+3 then .row true 3 q else F4 r0 r1 r2 (MG R (Ck S i v l)) x:=by
 have e:MG R (Ck S i v l')=JW (MG R (Ck S i v l)) (v+R*i) (.row true 3 q):=by
  rw[<-RF hv,<-RF hv];refine funext fun m=>?_
  unfold YR JW;split
  . rw[hq,MR hl]
  . rfl
 rw[e,jt]
theorem OG{R v i:Nat}{S:CS}{l:List Site}{r0 r1 r2:Nat->AObj}(hv:v<R)(hl:0<l.length):F4 r0 r1 r2 (MG R (Ck S i v l)) (4*(v+R*i)+3)= .row true 3 (l.map G1):=by
 rw[PX hv,Hh,MR hl]
theorem W6(x:Block)(v:Nat): ∀j,(Pv x v j).length<=j
 | 0=>by rw[Tb];exact Nat.le_refl _
 | j+1=>by
  have ih:=W6 x v j
  cases e:x.ins[j]? with
  | none=>
   have:Pv x v (j+1)=Pv x v j:=by
    have:=List.getElem?_eq_none_iff.1 e;unfold Pv;rw[List.take_of_length_le (by omega),List.take_of_length_le this]
   rw[this];omega
  | some t=>
   rw[Ny e,List.length_append]
   cases t.uses.contains (v:Int)||t.sets==(v:Int)<;>simp<;>omega
theorem eF(x:Block)(j:Nat)(us:List Int)(v:Nat):(Bt x j us v).length<=j+1:=by
 grind[Bt,W6,List.length_append]
theorem YV(f:BFunc):S0=C2 f 0 (fun _=>[]):=funext fun a=>funext fun u=>by
 grind[C2,S0]
theorem P4(f:BFunc)(k:Nat)(x:Block):C2 f k (fun _=>[])=C2 f k (Bt x 0 []):=Jo fun v=>by rw[Hs,Tb]
abbrev l8(f:BFunc)(R:Nat):List AV:=[.int .i64 f.regs,B6 f.blocks,A2 f.nexts,.ref 3 f.blocks.length 0 f.blocks.length,.ref 4 R 0 R,.ref 5 f.blocks.length 0 f.blocks.length,.nil,.nil]
abbrev fu(f:BFunc)(R:Nat)(S:CS)(k:Nat):List AObj:=[.row false 8 [l8 f R],.row false 1 (Ax (aR (Aw f)) f.blocks.length),.row false 1 (Ax (oR f.blocks.length R S) R),.row false 1 (Ax (gK f k) f.blocks.length),.free,.free]
abbrev aw(f:BFunc)(R:Nat)(S:CS)(k:Nat):Nat->AObj:=F4 (RH f.blocks.length (Aw f)) (Pq f k G0) (NS f.blocks.length R S) (MG R S)
theorem Gb(f:BFunc)(R:Nat)(S:CS)(k:Nat): ∀o∈fu f R S k,o.avoid kD=true:=fun o ho=>by
 simp only[fu,List.mem_cons,List.not_mem_nil,or_false]at ho;rcases ho with rfl | rfl | rfl | rfl | rfl | rfl
 . rfl
 . exact Ad (fun b _=>Bd CB _ _)
 . exact Ad (fun b _=>A4 CB _ _ _ _)
 . exact Ad (fun b _=>DU CB _ _ _)
 . rfl
 . rfl
theorem C9{p:Nat->Bool}(hp: ∀x,p (x+16)=true)(f:BFunc)(R:Nat)(S:CS)(k x:Nat):(aw f R S k x).avoid p=true:=Lf (fun _=>Jm _) (fun _=>Jl _) (fun _=>Jk hp _) (fun _=>Jj _) x
theorem SC{f:BFunc}{R k v i:Nat}{S S2:CS}{l l':List Site}{q:List (List AV)}(hv:v<R)(hl:l'.length=l.length)(h0:0<l.length)(hS:S2=Ck S i v l')(hq:q=l'.map G1)(x:Nat):
 aw f R S2 k x=if x=4*(v+R*i)+3 then .row true 3 q else aw f R (Ck S i v l) k x:=by
 subst hS;have e:NS f.blocks.length R (Ck S i v l')=NS f.blocks.length R (Ck S i v l):=bS (PP hl.symm);show F4 _ _ (NS f.blocks.length R (Ck S i v l')) _ x=_;rw[e];exact bN hv (by omega) hq x
theorem JG{n R v i:Nat}{S S2:CS}{l l':List Site}(hl:l'.length=l.length)(hS:S2=Ck S i v l'):Ax (oR n R (Ck S i v l)) R=Ax (oR n R S2) R:=by
 subst hS;exact gS (PP hl)
theorem VJ{f:BFunc}{k:Nat}{x:Block}{j:Nat}{us:List Int}{q:Nat}{u:Int}(h:us[q]?=some u)(h0:0<=u):C2 f k (Bt x j (us.take (q+1)))=Ck (C2 f k (Bt x j (us.take q))) k u.toNat (flagR (A6 (C2 f k (Bt x j (us.take q)) k u.toNat) j)):=by
 rw[RP,RM];exact Jo fun v=>(use_noted h h0 v).symm
theorem VL{f:BFunc}{k:Nat}{x:Block}{j:Nat}{t:Tac}(ht:x.ins[j]?=some t)(h0:0<=t.sets):C2 f k (Bt x (j+1) [])=Ck (C2 f k (Bt x j t.uses)) k t.sets.toNat (flagS (A6 (C2 f k (Bt x j t.uses) k t.sets.toNat) j)):=by
 rw[RP,RM]
 grind[Jo,Hs,YC,C2,Bt,Ck,flagS,A6]
theorem TF{f:BFunc}{k:Nat}{x:Block}{j:Nat}{t:Tac}(ht:x.ins[j]?=some t)(h0: ¬0<=t.sets):C2 f k (Bt x j t.uses)=C2 f k (Bt x (j+1) []):=Jo fun v=>by
 rw[Hs];exact TQ ht h0 v
theorem VP{f:BFunc}{k:Nat}{x:Block}(hx:f.blocks[k]?=some x)(h:x.fin=2)(h0:0<=x.v):C2 f (k+1) (fun _=>[])=Ck (C2 f k (Bt x x.ins.length [])) k x.v.toNat (flagR (A6 (C2 f k (Bt x x.ins.length []) k x.v.toNat) x.ins.length)):=by
 rw[RP,RM,Hs]
 grind[TH,Hs,ZE,C2,Ck,Bt,flagR,A6]
theorem TG{f:BFunc}{k:Nat}{x:Block}(hx:f.blocks[k]?=some x)(h: ¬x.fin=2):C2 f k (Bt x x.ins.length [])=C2 f (k+1) (fun _=>[]):=TH hx fun v=>by rw[Hs];exact TR h v
theorem VM{f:BFunc}{k:Nat}{x:Block}{j:Nat}{us:List Int}{v:Nat}(hj:j<=100000):(C2 f k (Bt x j us) k v).length<=1000000:=by
 grind[RP,eF,C2,Bt]
section
variable {P : Program} {o : Oper} {e : Av} {h : Ac}
def KB(κ:Nat->Bool)(h g:Ac):Ac:=fun c=>bif κ c then g c else h c
theorem IC{κ:Nat->Bool}{h g:Ac}{c:Nat}(hc:κ c=true):KB κ h g c=g c:=by unfold KB;rw[hc];rfl
theorem Xk{κ:Nat->Bool}{h g:Ac}{c:Nat}(hc:κ c=false):KB κ h g c=h c:=by unfold KB;rw[hc];rfl
theorem TA{κ:Nat->Bool}{W h:Ac}(hH: ∀b,κ b=true->h b=W b):HSub (KB κ hNone W) h:=fun c o ho=>by
 cases e:κ c with
 | true=>rw[IC e]at ho;rw[hH c e];exact ho
 | false=>rw[Xk e]at ho;cases ho
theorem OC{κ:Nat->Bool}{W h:Ac}(hH: ∀b,κ b=true->h b=W b)(hN: ∀b,κ b=false->W b=some .free):Eg h κ=W:=funext fun b=>by
 unfold Eg
 cases e:κ b with
 | true=>rw[cond_true];exact hH b e
 | false=>rw[cond_false];exact(hN b e).symm
theorem cE{f:FuncId}{fn:Func}{args:Array Operand}{tys:Array TypeId}{xs:List AV}{r:AV}{W:Ac}(κ:Nat->Bool)(ho:o.op= .call {callee:=.value (.func f),args:=args,argTypes:=tys})(hf:P.funcs[f]?=some fn)(hnm:(fn.name== "runtime.NumGoroutine")=false)(hb:fn.body.isSome=true)
 (hx:AY e args.toList=some xs) (hxa:xs.all (AV.avoid κ)=true) (hH: ∀b,κ b=true->h b=W b) (hA: ∀b,κ b=true->∃q,W b=some q/\q.avoid κ=true) (hN: ∀b,κ b=false->W b=some .free) (hra:r.avoid κ=true)
 (hcall:ACall P f xs W (fun r' h'=>r'=r/\HSub (KB κ hNone W) h')):MC P o e h h r:=
 KI (hw:=KB κ hNone W) κ ho hf hnm hb hx hxa (fun b hb=>by rw[hH b hb];exact hA b hb) (OC hH hN) (fun _ _=>rfl)
  (fun b hb=>by obtain⟨q,q1,q2⟩:=hA b hb;exact⟨q,(IC hb).trans q1,(hH b hb).trans q1,q2⟩) hra hcall
theorem cD{f:FuncId}{fn:Func}{args:Array Operand}{tys:Array TypeId}{xs:List AV}{r:AV}{W W':Ac}(κ:Nat->Bool)(ho:o.op= .call {callee:=.value (.func f),args:=args,argTypes:=tys})(hf:P.funcs[f]?=some fn)(hnm:(fn.name== "runtime.NumGoroutine")=false)(hb:fn.body.isSome=true)
 (hx:AY e args.toList=some xs) (hxa:xs.all (AV.avoid κ)=true) (hH: ∀b,κ b=true->h b=W b) (hA: ∀b,κ b=true->∃q,W b=some q/\q.avoid κ=true) (hN: ∀b,κ b=false->W b=some .free) (hA': ∀b,κ b=true->∃q,W' b=some q/\q.avoid κ=true) (hra:r.avoid κ=true)
 (hcall:ACall P f xs W (fun r' h'=>r'=r/\HSub (KB κ hNone W') h')):MC P o e h (KB κ h W') r:=
 KI (hw:=KB κ hNone W') κ ho hf hnm hb hx hxa (fun b hb=>by rw[hH b hb];exact hA b hb) (OC hH hN) (fun _ hb=>Xk hb)
  (fun b hb=>by obtain⟨q,q1,q2⟩:=hA' b hb;exact⟨q,(IC hb).trans q1,(IC hb).trans q1,q2⟩) hra hcall
theorem cG{f:FuncId}{fn:Func}{x:Operand}{args:Array Operand}{tys:Array TypeId}{fs xs cs:List AV}{r:AV}{hc hw hn:Ac}(κ:Nat->Bool)(ho:o.op= .call {callee:=.value x,args:=args,argTypes:=tys})(hfn:Al e x=some (.fn (.func f) fs cs))(hf:P.funcs[f]?=some fn)(hnm:(fn.name== "runtime.NumGoroutine")=false)(hb:fn.body.isSome=true)
 (hx:AY e args.toList=some xs) (hxa:(fs++xs++cs).all (AV.avoid κ)=true) (hL: ∀b,κ b=true->∃q,h b=some q/\q.avoid κ=true) (hres':Eg h κ=hc) (hW: ∀b,κ b=false->hn b=h b)
 (hk: ∀b,κ b=true->∃q,hw b=some q/\hn b=some q/\q.avoid κ=true) (hra:r.avoid κ=true)
 (hcall:ACall P f (fs++xs++cs) hc (fun r' h'=>r'=r/\HSub hw h')):MC P o e h hn r:=by
 intro H ι a w n Q hs;have hvf:=Am hs hfn;obtain⟨us,vs,hve,k1,k2,k3,k4⟩:=hvf.fn_inv;have hraa:=Ct (Ct ⟨k1,k3⟩ (Ca hs hx)) ⟨k2,k4⟩;have hra':RelAll H (lcut ι κ) (fs++xs++cs) (us++args.map a.eval++vs):=⟨hraa.1,fun j x v h1 h2=>D7 (hraa.2 j x v h1 h2) (EM hxa h1)⟩;have hrc:HeapRel H (lcut ι κ) (Eg h κ) w:=by
  exact mR
 have hcalls:=hcall H (lcut ι κ) w _ hra' (hres'▸hrc);have hexec:(execOp a.eval o).run P w= .ok (.enter f (us++args.map a.eval++vs)) w:=by
  simp only[execOp,ho,resolve,hve,Deferred.ofValue,invoke,Sem.run_bind,Sem.run_pure,Result.andThen_ok,BW hf hnm hb]
 exact mN
theorem cF{f:FuncId}{fn:Func}{x:Operand}{args:Array Operand}{tys:Array TypeId}{fs xs cs:List AV}{r:AV}{W:Ac}(κ:Nat->Bool)(ho:o.op= .call {callee:=.value x,args:=args,argTypes:=tys})(hfn:Al e x=some (.fn (.func f) fs cs))(hf:P.funcs[f]?=some fn)(hnm:(fn.name== "runtime.NumGoroutine")=false)(hb:fn.body.isSome=true)
 (hx:AY e args.toList=some xs) (hxa:(fs++xs++cs).all (AV.avoid κ)=true) (hH: ∀b,κ b=true->h b=W b) (hA: ∀b,κ b=true->∃q,W b=some q/\q.avoid κ=true) (hN: ∀b,κ b=false->W b=some .free) (hra:r.avoid κ=true)
 (hcall:ACall P f (fs++xs++cs) W (fun r' h'=>r'=r/\HSub (KB κ hNone W) h')):MC P o e h h r:=
 cG (hw:=KB κ hNone W) κ ho hfn hf hnm hb hx hxa (fun b hb=>by rw[hH b hb];exact hA b hb) (OC hH hN) (fun _ _=>rfl)
  (fun b hb=>by obtain⟨q,q1,q2⟩:=hA b hb;exact⟨q,(IC hb).trans q1,(hH b hb).trans q1,q2⟩) hra hcall
end
def kW:Nat->Bool:=fun c=>(Nat.ble 2 c&&Nat.blt c 9)||(Nat.beq c 12||Nat.ble 16 c)
theorem Ud(x:Nat):kW (x+16)=true:=by
 unfold kW;rw[show Nat.ble 16 (x+16)=true by rw[Nat.ble_eq];omega];simp
theorem dj{c:Nat}(h:c<16):c=0\/c=1\/c=2\/c=3\/c=4\/c=5\/c=6\/c=7\/c=8\/c=9\/c=10\/c=11\/c=12\/c=13\/c=14\/c=15:=by omega
abbrev WH(r2 r3 r4 r5 r6 r7 A B:AObj)(F:Nat->AObj):Ac:=Hp (nb [.free,.free,r2,r3,r4,r5,r6,r7,A,.free,.free,.free,B]) F
theorem XV{r2 r3 r4 r5 r6 r7 A B:AObj}{F:Nat->AObj}: ∀b,kW b=false->WH r2 r3 r4 r5 r6 r7 A B F b=some .free:=fun b hb=>by
 rcases Nat.lt_or_ge b 16 with h | h
 . rcases dj h with rfl | rfl | rfl | rfl | rfl | rfl | rfl | rfl | rfl | rfl | rfl | rfl | rfl | rfl | rfl | rfl<;>first | rfl |(exact absurd hb (by decide))
 . obtain⟨x,rfl⟩: ∃x,b=x+16:=⟨b-16,by omega⟩
   rw[Ud]at hb;cases hb
theorem fk{r2 r3 r4 r5 r6 r7 A B:AObj}{F:Nat->AObj}(h2:r2.avoid kW=true)(h3:r3.avoid kW=true)(h4:r4.avoid kW=true)(h5:r5.avoid kW=true)(h6:r6.avoid kW=true)(h7:r7.avoid kW=true)(hA:A.avoid kW=true)(hB:B.avoid kW=true)(hF: ∀x,(F x).avoid kW=true):
 ∀b,kW b=true->∃q,WH r2 r3 r4 r5 r6 r7 A B F b=some q/\q.avoid kW=true:=fun b hb=>by
 rcases Nat.lt_or_ge b 16 with h | h
 . rcases dj h with rfl | rfl | rfl | rfl | rfl | rfl | rfl | rfl | rfl | rfl | rfl | rfl | rfl | rfl | rfl | rfl<;>first | exact absurd hb (by decide) | exact⟨_,rfl,h2⟩ | exact⟨_,rfl,h3⟩ | exact⟨_,rfl,h4⟩ | exact⟨_,rfl,h5⟩ | exact⟨_,rfl,h6⟩ | exact⟨_,rfl,h7⟩ | exact⟨_,rfl,hA⟩ | exact⟨_,rfl,hB⟩
 . obtain⟨x,rfl⟩: ∃x,b=x+16:=⟨b-16,by omega⟩
   exact⟨_,Ao _ _ _,hF x⟩
theorem XU{h:Ac}{r2 r3 r4 r5 r6 r7 A B:AObj}{F:Nat->AObj}(h2:h 2=some r2)(h3:h 3=some r3)(h4:h 4=some r4)(h5:h 5=some r5)(h6:h 6=some r6)(h7:h 7=some r7)(hA:h 8=some A)(hB:h 12=some B)(hF: ∀x,h (x+16)=some (F x)):
 ∀b,kW b=true->h b=WH r2 r3 r4 r5 r6 r7 A B F b:=fun b hb=>by
 rcases Nat.lt_or_ge b 16 with g | g
 . rcases dj g with rfl | rfl | rfl | rfl | rfl | rfl | rfl | rfl | rfl | rfl | rfl | rfl | rfl | rfl | rfl | rfl<;>first | exact absurd hb (by decide) | exact h2 | exact h3 | exact h4 | exact h5 | exact h6 | exact h7 | exact hA | exact hB
 . obtain⟨x,rfl⟩: ∃x,b=x+16:=⟨b-16,by omega⟩
   exact(hF x).trans (Ao _ _ _).symm
abbrev ArW:AObj:=.row false 1 [[.ptr 2 1 0 0]]
abbrev tW(i:Nat):AObj:=.row false 1 [[.int .i64 (i:Int)]]
abbrev WS(f:BFunc)(R:Nat)(S:CS)(G:GG)(es:List (List AV))(len:Nat)(w:Nat->Bool)(i:Nat):Ac:=
  WH (.row false 8 [SO f R es.length len]) (.row false 1 (Ax (aR (Aw f)) f.blocks.length)) (.row false 1 (Ax (oR f.blocks.length R S) R)) (.row false 1 (Ax (gR f) f.blocks.length)) (.row true 1 es) (.row true 1 (bC R w)) ArW (tW i) (DF f R S G)
theorem UQ(f:BFunc)(R:Nat)(S:CS)(G:GG)(es:List (List AV))(len:Nat)(w:Nat->Bool)(i:Nat): ∀b,kW b=true->∃q,WS f R S G es len w i b=some q/\q.avoid kW=true:=
 fk rfl (Ad (fun b _=>Bd Ud _ _)) (Ad (fun b _=>A4 Ud _ _ _ _)) (Ad (fun b _=>BX Ud _ _)) rfl rfl rfl rfl (Bc Ud f R S G)
theorem T2{G:Nat->Bool}{l:List Tac}{j:Nat}{t:Tac}(h:l[j]?=some t):Ej G (l.take (j+1)) 0=Ej G (l.take j) 0++(bif G j then []else [t]):=by
 have hj:=(List.getElem?_eq_some_iff.1 h).1;have e:l.take (j+1)=l.take j++[t]:=by rw[List.take_add_one,h];rfl
 grind[R2,Ej]
theorem T5{G:Nat->Bool}{l:List Tac}{j:Nat}{t:Tac}(h:l[j]?=some t)(hg:G j=true):Ej G (l.take (j+1)) 0=Ej G (l.take j) 0:=by rw[T2 h,hg];simp
theorem T4{G:Nat->Bool}{l:List Tac}{j:Nat}{t:Tac}(h:l[j]?=some t)(hg:G j=false):(Ej G (l.take j) 0).map Tac.cells++[t.cells]=(Ej G (l.take (j+1)) 0).map Tac.cells:=by rw[T2 h,hg,List.map_append];rfl
theorem eD{f:BFunc}{G:GG}{m:Nat}(h: ∀x∈f.blocks,x.ins.length<=m): ∀x∈(Cq f G).blocks,x.ins.length<=m:=fun y hy=>by
 obtain⟨b,hb⟩:=List.mem_iff_getElem?.1 hy;obtain⟨x,hx,rfl⟩:=M8 hb;exact Nat.le_trans (MZ (G b) x.ins 0) (h x (List.mem_of_getElem? hx))
theorem gn{f:BFunc}{R:Nat}:some (AObj.row false 8 [SO f R ((List.range R).map BG).length R])=some (AObj.row false 8 [SO f R (l7 R).es.length (l7 R).ws.length]):=by
 show some (AObj.row false 8 [SO f R ((List.range R).map BG).length R])=some (AObj.row false 8 [SO f R ((List.range R).map BG).length (List.range R).length]);rw[List.length_range]
theorem cL{x:Block}{n:Nat}{r:Int}(h:x.ends n r=true): ∀d∈x.nexts,0<=d/\d<n:=fun d hd=>by
 unfold Block.ends at h;unfold Block.nexts at hd
 cases e1:x.fin==1 with
 | true=>
  rw[e1]at h hd;simp[AT]at h hd;omega
 | false=>
  cases e2:x.fin==2 with
  | true=>
   rw[e1,e2]at h hd;simp[AT]at h hd;omega
  | false=>
   rw[e1,e2]at hd;simp at hd
theorem one_sane{f:BFunc}{n w:Int}(h:f.one n w=true):f.sane:=by
 obtain⟨h1,h2,h3,h4⟩:=C4 h;refine⟨h1,fun x hx t ht=>Uw ((h4 x hx).2 t ht),fun x hx e=>?_,fun x hx=>cL (h4 x hx).1⟩;have he:=(h4 x hx).1;unfold Block.ends at he;rw[e]at he;simp[AT]at he;omega
theorem dnf_insW{b:Blocks}(h:b.insW):b.dnf.insW:=fun g hg x hx=>by
 obtain⟨f,hf,rfl⟩:=List.mem_map.1 hg;have key: ∀{f g:BFunc},Cuts f g->(∀x∈f.blocks,Sv.Il x.ins)->∀x∈g.blocks,Sv.Il x.ins:=fun {f g} hc=>by
  induction hc with
  | refl=>exact fun h=>h
  | step a _ ih=>
   intro h;refine ih fun y hy=>?_
   obtain⟨c,x,l1,t,l2,v,ha⟩:=a;rw[ha.hg]at hy;rcases List.mem_or_eq_of_mem_set hy with hy | rfl
   . exact h y hy
   . have:=h x (List.mem_of_getElem? ha.hx);rw[ha.hi]at this;intro t ht;refine this t ?_;rcases List.mem_append.1 (show t∈l1++l2 from ht)with h | h
     . exact List.mem_append.2 (.inl h)
     . exact List.mem_append.2 (.inr (List.mem_cons.2 (.inr h)))
 exact key (Hr f) (h f hf) x hx
inductive Part:List Tac->List Tac->Prop
  | nil:Part [] []
  | keep (t:Tac) {x y:List Tac}:Part x y->Part (t::x) (t::y)
  | drop {t:Tac} {x y:List Tac}:t.pure=true->Part x y->Part (t::x) y
theorem Part.trans{x y z:List Tac}(h:Part x y):Part y z->Part x z:=by
 induction h generalizing z with
 | nil=>exact fun h=>h
 | keep t _ ih=>
  intro h
  cases h with
  | keep _ h=>exact .keep t (ih h)
  | drop h1 h2=>exact .drop h1 (ih h2)
 | drop h1 _ ih=>exact fun h=>.drop h1 (ih h)
theorem bh{f:BFunc}(h:f.tame){x:Block}(hx:x∈f.tidy.blocks): ∃p,rg f.blocks.length p/\p.length<=f.blocks.length+1/\x.ins=f.joined p:=by
 simp only[BFunc.tidy,List.mem_map]at hx;obtain⟨p,hp,rfl⟩:=hx;exact⟨p,ID h.leads _ (Nat.le_refl _) p hp,Fq _ p hp,rfl⟩
theorem Yw{f:BFunc}(h:f.tame)(hw: ∀x∈f.blocks,Sv.Il x.ins): ∀x∈f.tidy.blocks,Sv.Il x.ins:=fun x hx t ht=>by
 obtain⟨p,h1,h2,h3⟩:=bh h hx;rw[h3]at ht;obtain⟨i,hi,hti⟩:=Oi ht;exact hw _ (List.mem_of_getElem? (By (h1.2 i hi))) t hti
noncomputable def GN(f:BFunc)(k:Int):OPass:=bif k==1 then⟨1,f.all,[],f.fold⟩else bif k==2 then⟨2,f.fcert,[],f.forward⟩else bif k==3 then⟨3,⟨HV (Wq f)⟩,[],Wq f⟩else⟨4,⟨[]⟩,f.tpaths,f.tidy⟩
structure PS35(n w:Int)(f:BFunc):Prop where
  one:f.one n w=true
  r:f.regs<=30
  c:f.count<=200
  i: ∀x∈f.blocks,Il x.ins
section
variable {n w : Int} {f : BFunc}
theorem PS35.len(h:PS35 n w f):f.blocks.length<=200/\∀x∈f.blocks,x.ins.length<=200:=by
 have hc:=h.c;refine⟨by have:=DW f;omega,fun x hx=>?_⟩;have:x.count<=f.count:=IM hx;simp only[Block.count]at this;omega
theorem PS35.mild(h:PS35 n w f):f.mild:=by
 obtain⟨h1,h2,h3,h4⟩:=C4 h.one;have hl:=h.len;exact⟨h1,by omega,by omega,fun x hx=>⟨by have:=hl.2 x hx;omega,h.i x hx⟩⟩
theorem PS35.tame(h:PS35 n w f):f.tame:=by
 have hle:=HR h.one;have hl:=h.len;exact⟨by omega,fun x hx=>by have:=hl.2 x hx;omega,hle,fun k hk=>QL hle hk⟩
theorem ZJ(f:BFunc):(Wq f).count<=f.count:=by
 have key: ∀{f g:BFunc},Cuts f g->g.count<=f.count:=fun {f g} hc=>by
  induction hc with
  | refl=>exact Nat.le_refl _
  | @step f g h a b ih=>
   have h1:=GU a;have h2:=(O3 (Cuts.one a)).2;have h3:=DW f;have h4:=DW g;have h5:Dh f.blocks=dv f:=rfl;have h6:Dh g.blocks=dv g:=rfl;omega
 exact key (Hr f)
theorem We(f:BFunc):f.fold.count=f.count:=by
 show((f.blocks.map _).map Block.count).sum=_;rw[List.map_map];exact congrArg List.sum (List.map_congr_left fun x _=>by show 1+(DI [] x.ins).length=1+x.ins.length;rw[BO])
theorem PS35.step(h:PS35 n w f)(k:Int):PS35 n w (GN f k).f:=by
 have hle:=HR h.one;have hne:=(C4 h.one).2.2.1;unfold GN
 cases k==1 with
 | true=>exact⟨cv h.one,h.r,by show f.fold.count<=200;rw[We];exact h.c,fun x hx=>((Zw h.mild).2.2.2 x hx).2⟩
 | false=>
 cases k==2 with
 | true=>exact⟨TN h.one,h.r,by show f.forward.count<=200;rw[PF];exact h.c,fun x hx=>by
  obtain⟨y,hy,rfl⟩:=List.mem_map.1 (show x∈f.blocks.map _ from hx);exact QO _ _ (h.i y hy)⟩
 | false=>
 cases k==3 with
 | true=>exact⟨iD h.one,by show(Wq f).regs<=30;rw[(O3 (Hr f)).1];exact h.r,Nat.le_trans (ZJ f) h.c,fun x hx=>dnf_insW (b:=⟨0,[f]⟩) (fun g hg=>by rw[List.mem_singleton.1 hg];exact h.i) (Wq f) (by simp[Blocks.dnf]) x hx⟩
 | false=>exact⟨gJ (Nq hle hne) h.one,h.r,Nat.le_trans (Vk hle) h.c,Yw h.tame h.i⟩
end
section
variable {call call' : Int -> Mach -> Mach} {s : ByteArray}
theorem Ow: ∀(l:List Tac) (regs:List Int) (m:Mach),(Bf call s l regs m).2.1.length=regs.length
 | [],_,_=>rfl
 | t::r,regs,m=>by
  unfold Bf
  cases (mone call s t regs m).2.fin==0 with
  | false=>exact mone_len t regs m
  | true=>exact(Ow r _ _).trans (mone_len t regs m)
theorem Qv: ∀(l:List Tac) (K:CF) (regs:List Int) (m:Mach),(∀t∈l,setsOp t.op=true->0<=t.d/\t.d<regs.length)->Xx K regs->Gf K->Bf call s (DI K l) regs m=Bf call s l regs m
 | [],_,_,_,_,_,_=>rfl
 | t::r,K,regs,m,hl,hk,hu=>by
  have h1:=V4 (call:=call) (s:=s) hk t m;have hkn:=V7 (call:=call) (s:=s) hk hu (u:=Dc K t) (fun h=>by rw[ip];exact hl t (by simp) (KX h)) m;rw[h1]at hkn;simp only[DI,Bf,h1];rw[Qv r (Ho K (Dc K t)) _ _ (fun u hu' hs=>by rw[mone_len];exact hl u (by simp[hu']) hs) hkn (SZ hu _)]
theorem Qz{f:BFunc}(hf: ∀x∈f.blocks,∀t∈x.ins,setsOp t.op=true->0<=t.d/\t.d<f.regs.toNat): ∀(g:Nat) (i:Int) (regs:List Int) (m:Mach),regs.length=f.regs.toNat->kblk call s f.fold g i regs m=kblk call s f g i regs m
 | 0,_,_,_,_=>rfl
 | g+1,i,regs,m,hr=>by
  have e:f.fold.blocks[i.toNat]?=(f.blocks[i.toNat]?).map Block.fold:=by simp[BFunc.fold]
  cases hk:f.blocks[i.toNat]? with
  | none=>unfold kblk;rw[e,hk];rfl
  | some k=>
   have hm:Bf call s k.fold.ins regs m.tick=Bf call s k.ins regs m.tick:=Qv k.ins [] regs m.tick (fun t ht hs=>by rw[hr];exact hf k (List.mem_of_getElem? hk) t ht hs) (fun z v h=>by cases h) (by simp[Gf]);rw[Dm hk,Dm (k:=k.fold) (by rw[e,hk];rfl),hm];have ih:=Qz hf g (k.next (Bf call s k.ins regs m.tick).2.1) (Bf call s k.ins regs m.tick).2.1 (Bf call s k.ins regs m.tick).2.2 (by rw[Ow];exact hr);unfold DX;rw[show k.fold.fin=k.fin from rfl,show k.fold.next (Bf call s k.ins regs m.tick).2.1=k.next (Bf call s k.ins regs m.tick).2.1 from rfl,ih]
def iQ(R:Nat)(fr regs:List Int):Prop:=regs.length=R/\∀v:Int,0<=v->v<R->rget regs v=rget regs (rget fr v)
theorem lA{R:Nat}{regs:List Int}(h:regs.length=R):iQ R (KU R) regs:=⟨h,fun v h0 h1=>by
 obtain⟨u,rfl⟩: ∃u:Nat,v=u:=⟨v.toNat,by omega⟩
 rw[Jz (by omega)]⟩
theorem cS{R:Nat}{fr regs:List Int}(h:iQ R fr regs){t:Tac}(ht:fp R t)(m:Mach):mone call s (subT fr t) regs m=mone call s t regs m:=by
 unfold subT
 cases e1:use1 t.op with
 | true=>
  have ha:=ht.u1 e1;simp only[cond_true];unfold mone;dsimp only;rw[<-h.2 t.a ha.1 ha.2]
 | false=>
  cases e2:use2 t.op with
  | true=>
   obtain⟨ha,hb⟩:=ht.u2 e2;simp only[cond_true,cond_false];unfold mone;dsimp only;rw[<-h.2 t.a ha.1 ha.2,<-h.2 t.b hb.1 hb.2]
  | false=>rfl
theorem dP{R:Nat}{fr regs:List Int}(h:iQ R fr regs)(hr:MK R fr){t:Tac}(ht:fp R t){m:Mach}(h0:(mone call s t regs m).2.fin=0):iQ R (DR fr t) (mone call s t regs m).1:=by
 obtain⟨_,hm⟩:=TU (call:=call) (s:=s) t (r:=regs) (r':=regs) (fun _=>rfl) (fun _=>rfl) m;rcases hm with⟨hs,v,hv,_⟩ |⟨hv,_,hs⟩
 . have hd:=ht.d hs;have hsd:t.sets=t.d:=by unfold Tac.sets;rw[hs];rfl
   have hlt:t.d<regs.length:=by rw[h.1];exact hd.2
   have main:iQ R (Cl t.sets fr) (mone call s t regs m).1:=by
    rw[hv,hsd];refine⟨by rw[C0];exact h.1,fun u u0 u1=>?_⟩;obtain⟨w,rfl⟩: ∃w:Nat,u=w:=⟨u.toNat,by omega⟩
    rw[Df (by rw[hr.len];omega)]
    cases e:((w:Int)==t.d||rget fr w==t.d)with
    | true=>rfl
    | false=>
     simp only[Bool.or_eq_false_iff,beq_eq_false_iff_ne]at e;simp only[cond_false];rw[D3 hd.1 u0 e.1,D3 hd.1 (hr.ran w u0 u1).1 e.2];exact h.2 w u0 u1
   unfold DR;rw[show decide (t.sets>=0)=true by rw[hsd];simpa using hd.1]
   cases e2:(t.op==2&&t.a !=t.sets)with
   | false=>exact main
   | true=>
    simp only[Bool.and_eq_true,beq_iff_eq,bne_iff_ne]at e2;simp only[cond_true];have ha:=ht.u1 (by rw[e2.1];rfl);have hval:(mone call s t regs m).1=AS regs t.d (rget regs t.a):=by unfold mone;rw[e2.1];rfl
    refine⟨main.1,fun u u0 u1=>?_⟩;rw[hsd]at e2 main |-
    by_cases e:u=t.d
    . subst e;rw[HE ⟨u0,by rw[De,hr.len];exact u1⟩,hval,HE ⟨u0,hlt⟩,D3 u0 ha.1 e2.2]
    . rw[D3 hd.1 u0 e];exact main.2 u u0 u1
 grind[Tac.sets,DR,iQ,mone]
theorem kins_fwd{n w:Int}{R:Nat}: ∀(l:List Tac) (fr regs:List Int) (m:Mach),MK R fr->iQ R fr regs->(∀t∈l,t.fits n R w=true)->
 Bf call s (DC fr l).1 regs m=Bf call s l regs m/\((Bf call s l regs m).1=true->iQ R (DC fr l).2 (Bf call s l regs m).2.1)
 | [],_,_,_,_,h,_=>⟨rfl,fun _=>h⟩
 | t::r,fr,regs,m,hr,h,hl=>by
  have ht:=hl t (by simp);have hsub:=WX hr ht;have h1:=cS (call:=call) (s:=s) h (fits_tacR ht) m;show Bf call s (subT fr t::(DC (DR fr (subT fr t)) r).1) regs m=_/\(_->iQ R (DC (DR fr (subT fr t)) r).2 _);unfold Bf;rw[h1]
  cases hf:(mone call s t regs m).2.fin==0 with
  | false=>exact⟨rfl,fun e=>by cases e⟩
  | true=>
   have hn:=dP (call:=call) (s:=s) h hr (fits_tacR hsub) (m:=m) (by rw[h1];simpa using hf);rw[h1]at hn;exact kins_fwd r _ _ _ (PW hr hsub) hn fun u hu=>hl u (by simp[hu])
theorem Ub{n w:Int}{f:BFunc}{R:Nat}(hR:f.regs=(R:Int))(hf: ∀x∈f.blocks,(x.fin=2->0<=x.v/\x.v<R)/\∀t∈x.ins,t.fits n R w=true): ∀(g:Nat) (i:Int) (regs:List Int) (m:Mach),regs.length=R->kblk call s f.forward g i regs m=kblk call s f g i regs m
 | 0,_,_,_,_=>rfl
 | g+1,i,regs,m,hr=>by
  have e:f.forward.blocks[i.toNat]?=(f.blocks[i.toNat]?).map (Block.forward R):=by
   show(f.blocks.map _)[i.toNat]?=_;rw[List.getElem?_map,hR];rfl
  cases hk:f.blocks[i.toNat]? with
  | none=>unfold kblk;rw[e,hk];rfl
  | some k=>
   obtain⟨hv,hi⟩:=hf k (List.mem_of_getElem? hk);obtain⟨hm,ha⟩:=kins_fwd (call:=call) (s:=s) k.ins (KU R) regs m.tick (Xf R) (lA hr) hi;rw[Dm hk,Dm (k:=k.forward R) (by rw[e,hk];rfl)];show(bif (Bf call s (DC (KU R) k.ins).1 regs m.tick).1 then DX call s f.forward (k.forward R) g (Bf call s (DC (KU R) k.ins).1 regs m.tick).2.1 (Bf call s (DC (KU R) k.ins).1 regs m.tick).2.2 else(Bf call s (DC (KU R) k.ins).1 regs m.tick).2.2)=_;rw[hm]
   cases hc:(Bf call s k.ins regs m.tick).1 with
   | false=>rfl
   | true=>
    simp only[cond_true];have ha':=ha hc;unfold DX;have hnx:(k.forward R).next (Bf call s k.ins regs m.tick).2.1=k.next (Bf call s k.ins regs m.tick).2.1:=by
     unfold Block.next Block.forward;dsimp only
     cases e2:k.fin==2 with
     | false=>rfl
     | true=>
      have hz:=hv (by simpa using e2);simp only[cond_true,Bool.true_and];rw[<-ha'.2 k.v hz.1 hz.2]
    rw[hnx,Ub hR hf g _ _ _ (by rw[Ow];exact hr)];rfl
theorem Jy(hc:Cr call call' VY){z:Nat->Bool}: ∀(l:List Tac),(∀t∈l,t.low)->∀{a b:List Int} {m m':Mach},Fa (fun v=>need v l (z v)) a b->m.fin=0->m.Le m'->KS z (Bf call s l a m) (Bf call' s l b m')
 | [],_,a,b,m,m',ha,h0,h=>.inr ⟨rfl,h,fun _=>⟨h0,ha⟩,fun e=>by cases e⟩
 | t::r,hl,a,b,m,m',ha,h0,h=>by
  unfold Bf;obtain⟨b2,b1⟩:=Zb (s:=s) hc (fun _=>trivial) (hl t (by simp)) ha h0 h;rcases b2 with b2 | b2
  . rw[show((mone call s t a m).2.fin==0)=false by rw[b2];rfl];exact .inl ⟨rfl,b2⟩
  . rw[b2.fin]
    cases hf:(mone call s t a m).2.fin==0 with
    | false=>
     simp only[cond_false];exact .inr ⟨rfl,b2,(fun e=>by cases e),fun _=>by simpa using hf⟩
    | true=>
     simp only[cond_true];exact Jy hc r (fun u hu=>hl u (by simp[hu])) (b1 (by simpa using hf)) (by simpa using hf) b2
theorem dh(hc:Cr call call' VY){z:Nat->Bool}{l1 l2:List Tac}{t:Tac}{v:Nat}(hl: ∀u∈l1++t::l2,u.low)(hp:t.pure=true)(hk:t.op=3->4<=t.k/\t.k<=15)(hv:t.sets=(v:Int))(hd:need v l2 (z v)=false)
 {a b:List Int} {m m':Mach} (ha:Fa (fun v=>need v (l1++t::l2) (z v)) a b) (h0:m.fin=0) (h:m.Le m'):KS z (Bf call s (l1++t::l2) a m) (Bf call' s (l1++l2) b m'):=by
 have h1:=Jy (s:=s) hc (z:=fun v=>need v (t::l2) (z v)) l1 (fun u hu=>hl u (by simp[hu])) (a:=a) (b:=b) ⟨ha.1,fun w hw=>ha.2 w (by show need w _ _=true;rw[IE];exact hw)⟩ h0 h;rw[GS,GS];generalize Bf call s l1 a m=X at h1 |-;generalize Bf call' s l1 b m'=Y at h1 |-;obtain⟨X1,X2,X3⟩:=X;obtain⟨Y1,Y2,Y3⟩:=Y;rcases h1 with⟨h1,h2⟩ |⟨h1,h2,h3,h4⟩
 . simp only at h1 h2;subst h1;exact .inl ⟨rfl,h2⟩
 . simp only at h1 h2 h3 h4;subst h1
   cases X1 with
   | false=>exact .inr ⟨rfl,h2,(fun e=>by cases e),h4⟩
   | true=>
    simp only[cond_true];obtain⟨hz,hag⟩:=h3 rfl;obtain⟨val,hmo⟩:=Za (call:=call) (s:=s) hp hk X2 X3;have hlt:=hl t (by simp);have hso:=YU hp;have hdv:t.d=(v:Int):=by rw[<-Jg hso];exact hv
    have hkey:=Jy (s:=s) hc (z:=z) l2 (fun u hu=>hl u (by simp[hu])) (a:=AS X2 t.d val) (b:=Y2) (m:=X3) (m':=Y3)
     ⟨by rw[NG];exact hag.1,fun w hw=>by
      have hne: ¬t.d=(w:Int):=fun e=>by
       have:v=w:=by omega
       subst this;rw[show need v l2 (z v)=true from hw]at hd;cases hd
      rw[Ls (hlt.1 hso),if_neg (fun e=>hne e.1)];refine hag.2 w ?_;show need w (t::l2) (z w)=true;unfold need;rw[Jg hso,show(t.d==(w:Int))=false by simpa using hne,show need w l2 (z w)=true from hw]
      simp⟩ hz h2
    show KS z (bif (mone call s t X2 X3).2.fin==0 then Bf call s l2 (mone call s t X2 X3).1 (mone call s t X2 X3).2 else(false,mone call s t X2 X3)) _;rw[hmo];simp only[hz];exact hkey
theorem Uc(hc:Cr call call' VY){f g:BFunc}{c:Nat}{x:Block}{l1 l2:List Tac}{t:Tac}{v:Nat}(hcut:Fx f g c x l1 t l2 v)(hf:fx VY f):
 ∀(n:Nat) (i:Int) (a b:List Int) (m m':Mach),Fa (fun v=>V9 f v i.toNat) a b->m.fin=0->m.Le m'->(kblk call s f n i a m).Sim (kblk call' s g n i b m')
 | 0,_,_,_,_,_,_,_,_=>.inl rfl
 | n+1,i,a,b,m,m',hag,h0,h=>by
  cases hk:f.blocks[i.toNat]? with
  | none=>
   have hk':g.blocks[i.toNat]?=none:=by
    rw[List.getElem?_eq_none_iff]at hk |-;rw[hcut.hg,KC];exact hk
   unfold kblk;rw[hk,hk'];exact .inr h
  | some k=>
   obtain⟨k',hk',hkn,hs⟩: ∃k',g.blocks[i.toNat]?=some k'/\(k'.fin=k.fin/\∀r,k'.next r=k.next r)/\KS (endB f k) (Bf call s k.ins a m.tick) (Bf call' s k'.ins b m'.tick):=by
    have hin:=hf.ins k (List.mem_of_getElem? hk);have hag':Fa (fun v=>need v k.ins (endB f k v)) a b:=⟨hag.1,fun w hw=>hag.2 w (by show V9 f w _=true;rw[dz hk];exact hw)⟩
    by_cases hci:c=i.toNat
    . subst hci;have:=hcut.hx.symm.trans hk;cases this;refine⟨x.mid (l1++l2),by rw[hcut.hg];exact Er hcut.hx,⟨rfl,fun _=>rfl⟩,?_⟩;have hi:=hcut.hi;show KS (endB f x) (Bf call s x.ins a m.tick) (Bf call' s (l1++l2) b m'.tick);rw[hi]at hin hag' |-;exact dh hc (fun u hu=>(hin u hu).2.1) hcut.pure (hin t (by simp)).2.2 hcut.hv hcut.dead hag' h0 h.tick
    . exact⟨k,by rw[hcut.hg,HH hci];exact hk,⟨rfl,fun _=>rfl⟩,Jy hc k.ins (fun u hu=>(hin u hu).2.1) hag' h0 h.tick⟩
   rw[Dm hk,Dm hk'];have hfin:=hf.fin k (List.mem_of_getElem? hk);generalize Bf call s k.ins a m.tick=X at hs |-;generalize Bf call' s k'.ins b m'.tick=Y at hs |-;obtain⟨X1,X2,X3⟩:=X;obtain⟨Y1,Y2,Y3⟩:=Y;rcases hs with⟨h1,h2⟩ |⟨h1,h3,h4,h5⟩
   . simp only at h1 h2;subst h1;exact .inl h2
   . simp only at h1 h3 h4 h5;subst h1
     cases X1 with
     | false=>exact .inr h3
     | true=>
      simp only[cond_true];obtain⟨hz,hag2⟩:=h4 rfl;unfold DX;rw[hkn.1,hkn.2]
      cases hfin3:k.fin==3 with
      | true=>exact .inr h3
      | false=>
       simp only[cond_false];rw[<-V1 hfin.2 hag2];exact Uc hc hcut hf n _ _ _ _ _ (Wy hfin.1 hfin3 hag2) hz h3
end
theorem FSm.fold{f:BFunc}{n w:Int}(h:f.one n w=true):FSm f f.fold:=fun call s G hc m m' h0 hl=>by
 have hs:=C4 h;rw[show f.fold.regs=f.regs from rfl,Qz (fun x hx t ht e=>by
  have:=(Uw ((hs.2.2.2 x hx).2 t ht)).1 e;omega) G 0 _ m' (by simp)]
 exact F6 hc G _ _ h0 hl
theorem FSm.forward{f:BFunc}{n w:Int}(h:f.one n w=true):FSm f f.forward:=fun call s G hc m m' h0 hl=>by
 obtain⟨h1,h2,h3,h4⟩:=C4 h;obtain⟨R,hR⟩: ∃R:Nat,f.regs=(R:Int):=⟨f.regs.toNat,by omega⟩
 rw[show f.forward.regs=f.regs from rfl,Ub (n:=n) (w:=w) hR (fun x hx=>⟨fun e=>by
  have he:=(h4 x hx).1;unfold Block.ends at he;rw[e]at he;simp[AT]at he;omega,fun t ht=>by rw[<-hR];exact(h4 x hx).2 t ht⟩) G 0 _ m' (by rw[hR];simp)]
 exact F6 hc G _ _ h0 hl
theorem fy{f g:BFunc}(h:Cuts f g)(hf:fx VY f):FSm f g:=by
 induction h with
 | refl f=>exact UR f
 | @step f g h a1 b ih=>
  refine FSm.trans ?_ (ih (dZ a1 hf));have hr:=(O3 (Cuts.one a1)).1;obtain⟨c,x,l1,t,l2,v,a1⟩:=a1;intro call s G hc m m' h0 hl;rw[hr];exact Uc hc a1 hf G 0 _ _ m m' ⟨rfl,fun _ _=>rfl⟩ h0 hl
theorem FSm.dnf{f:BFunc}{n w:Int}(h:f.one n w=true):FSm f (Wq f):=by
 have hf:=cw h;exact fy (Hr f) ⟨fun x hx t ht=>⟨fun _=>trivial,(hf.ins x hx t ht).2⟩,hf.fin⟩
section
variable {n w : Int}
theorem PS35.fs{f:BFunc}(h:PS35 n w f)(k:Int):FSm f (GN f k).f:=by
 have hs:=C4 h.one;unfold GN
 cases k==1 with
 | true=>exact FSm.fold h.one
 | false=>
 cases k==2 with
 | true=>exact FSm.forward h.one
 | false=>
 cases k==3 with
 | true=>exact FSm.dnf h.one
 | false=>exact FSm.tidy (Nq (HR h.one) hs.2.2.1) fun x hx=>Uz (hs.2.2.2 x hx).1
theorem OQ: ∀(ks:List Int) (f:BFunc),PS35 n w f->PS35 n w (M4 GN ks f)/\FSm f (M4 GN ks f)
 | [],f,h=>⟨h,UR f⟩
 | k::r,f,h=>by
  obtain⟨h1,h2⟩:=OQ r (GN f k).f (h.step k);exact⟨h1,(h.fs k).trans h2⟩
end
noncomputable def TM(b:Blocks)(ks:List Int):Blocks:=⟨b.words,b.funcs.map (M4 GN ks)⟩
structure All35(b:Blocks):Prop where
  n:b.funcs.length<=6
  r:b.right=true
  e: ∀(i:Nat) (f:BFunc),b.funcs[i]?=some f->PS35 (i:Int) b.words f
theorem All35.of{b:Blocks}(h:GO b=true)(hw:b.insW):All35 b:=by
 have hS:=Vq h;refine⟨hS.n,hS.r,fun i f hf=>⟨(HC hS.r).2.2.2 i f hf,hS.g f (List.mem_of_getElem? hf),Nat.le_trans (IM (List.mem_of_getElem? hf)) hS.c,hw f (List.mem_of_getElem? hf)⟩⟩
theorem TL{b:Blocks}{ks:List Int}{i:Nat}{g:BFunc}(h:(TM b ks).funcs[i]?=some g): ∃f,b.funcs[i]?=some f/\g=M4 GN ks f:=by
 grind[TM,M4,GN]
theorem YH{b:Blocks}(h1:0<=b.words)(h2:b.words<=1048576)(h3:b.funcs≠[])(h4: ∀(i:Nat) (f:BFunc),b.funcs[i]?=some f->f.one (i:Int) b.words=true):b.right=true:=by
 grind[Lr,List.all_eq_true,List.getElem?_eq_some_iff,Ae,Gc]
theorem All35.opt{b:Blocks}(h:All35 b)(ks:List Int):All35 (TM b ks):=by
 obtain⟨h1,h2,h3,h4⟩:=HC h.r;have he: ∀(i:Nat) (g:BFunc),(TM b ks).funcs[i]?=some g->PS35 (i:Int) b.words g:=fun i g hg=>by
  obtain⟨f,hf,rfl⟩:=TL hg;exact(OQ ks f (h.e i f hf)).1
 refine⟨by show(b.funcs.map _).length<=6;rw[List.length_map];exact h.n,YH (b:=TM b ks) h1 h2 (fun e=>h3 (List.map_eq_nil_iff.1 e)) fun i g hg=>(he i g hg).one,he⟩
theorem All35.ps{b:Blocks}(h:All35 b)(ks:List Int):PS b (TM b ks):=by
 refine⟨rfl,(List.length_map _).symm,fun i f g hf hg=>?_⟩;obtain⟨f',hf',rfl⟩:=TL hg;rw[hf]at hf';cases hf';exact(OQ ks f (h.e i f hf)).2
theorem All35.insW{b:Blocks}(h:All35 b):b.insW:=fun f hf=>by
 obtain⟨i,hi⟩:=List.getElem?_of_mem hf;exact(h.e i f hi).i
theorem bj{l:List Nat}{q:Nat}(h: ∀x∈l,x<=q):l.sum<=q*l.length:=by
 induction l with
 | nil=>exact Nat.le_refl _
 | cons x l ih=>
  have h1:=ih fun y hy=>h y (by simp[hy])
  have h2:=h x (by simp);rw[List.sum_cons,List.length_cons,Nat.mul_succ];omega
theorem All35.count{b:Blocks}(h:All35 b):b.count<=1200:=by
 have:=bj (l:=b.funcs.map BFunc.count) (q:=200) fun x hx=>by
  obtain⟨f,hf,rfl⟩:=List.mem_map.1 hx;obtain⟨i,hi⟩:=List.getElem?_of_mem hf;exact(h.e i f hi).c
 rw[List.length_map]at this;have h2:=h.n;show(b.funcs.map BFunc.count).sum<=1200;have:200*b.funcs.length<=1200:=by omega
 omega
theorem All35.lim{b:Blocks}(h:All35 b):b.Lim:=⟨Nat.le_trans h.n (by decide),Nat.le_trans h.count (by decide)⟩
set_option maxRecDepth 100000
def jo(fr:List Int)(ks l:List Int)(g:List Int):Prop:=g.length=fr.length/\∀v:Nat,v<fr.length->rget g v=if(v:Int)∈ks/\(v:Int)∉l then(v:Int)else rget fr v
theorem PC{h:Ac}{b:Nat}{o:AObj}(hb:h b=some o):hput (hrm h b) b o=h:=by
 funext x
 by_cases hx:x=b
 . subst hx;rw[Aq,hb]
 . rw[AL _ _ hx,E5 _ hx]
theorem dH{h:Ac}{a b:Nat}{o:AObj}(hab:a≠b):hput (hrm h b) a o=hrm (hput h a o) b:=by
 funext x
 by_cases hx:x=a
 . subst hx;rw[Aq,E5 _ hab,Aq]
 . rw[AL _ _ hx]
   by_cases hb:x=b
   . subst hb;rw[Gw,Gw]
   . rw[E5 _ hb,E5 _ hb,AL _ _ hx]
theorem iq(h:Ac){R:Nat}{fr:List Int}{to:List (Option Nat)}{maps:List (List Int)}(hI:FwI R fr to maps){d:Nat}(hd:d<R):ACall Tryz.prog 78 [.ptr 2 1 0 0,.int .i64 (d:Int)] (FH h R fr to maps) (fun r h'=>r= .tup []/\∃maps',FwI R (Cl d fr) (to.set d none) maps'/\maps'.length=maps.length/\HSub (FH h R (Cl d fr) (to.set d none) maps') h'):=by
 refine ACall.of_body (n:=56) Ag Tryz.func78 rfl rfl ?_
 have hdf:(0:Int)<=(d:Int)/\(d:Int)<fr.length:=by rw[hI.lenF];omega
 obtain⟨s,hs⟩: ∃s:Nat,rget fr d=s:=⟨(rget fr d).toNat,by have:=(hI.ran d hd).1;omega⟩
 have hsR:s<R:=by have:=(hI.ran d hd).2;omega
 refine wk 1 ?_;refine AGo.join (γ:=List (List Int)) (fun m1=>⟨56,Aa (Aa A9 0 (.ptr 2 1 0 0)) 1 (.int .i64 (d:Int)),FH h R (AS fr (d:Int) d) to m1⟩) (fun m1=>FwI R (AS fr (d:Int) d) to m1/\m1.length=maps.length) ?_ ?_
 .
  refine wk 7 ?_;refine aq 11 (Ab Ag rfl rfl rfl rfl rfl rfl rfl (by rw[B5,hI.lenF]) rfl hdf.1 (by omega)) ?_;refine aq 12 (At Ag rfl rfl rfl (.ptr _ _ _ _ _ _ _ _ rfl (by rw[B5,hI.lenF]) (K2 hdf)) rfl) ?_;refine wk 8 ?_;refine asp 15 (fun hb1=>?_) fun hb1=>?_
  .
   have hne : s ≠ d := by rw[hs]at hb1;have:(s:Int)≠d:=by simpa using hb1
                          omega
   obtain⟨j,ks,k1,k2,k3⟩:=hI.off hd hs hne
   have hjl:j<maps.length:=(List.getElem?_eq_some_iff.1 k2).1
   refine wk 8 ?_;refine aq 21 (Ab Ag rfl rfl rfl rfl rfl rfl rfl (by rw[List.length_map,hI.lenT]) rfl (by rw[hs];omega) (by rw[hs];omega)) ?_;refine aq 22 (At Ag rfl rfl rfl (.ptr _ _ _ _ _ _ _ _ rfl (by rw[List.length_map,hI.lenT]) (by rw[hs];exact IR k1)) rfl) ?_;refine wk 1 ?_;refine AOps.w rfl rfl (N6 Ag rfl rfl rfl rfl (by rw[I8,HY k2]) rfl rfl rfl rfl) ?_;refine wk 1 ?_
   rw[Ua]
   show AGo _ _ ⟨_,_,hput (FH h R fr to maps) (j+16) _⟩ _
   rw[WC _ hjl]
   refine wk 7 ?_;refine aq 30 (Ab Ag rfl rfl rfl rfl rfl rfl rfl (by rw[B5,hI.lenF]) rfl hdf.1 (by omega)) ?_;refine AOps.w rfl rfl (o_store Ag rfl rfl rfl rfl rfl rfl (by rw[B5,hI.lenF]) (K2 hdf) rfl (by decide) rfl (by intro h;rfl)) ?_;refine wk 1 ?_;refine⟨_,Sub.mk' Cf ?_,k3,by simp⟩
   show HSub _ (hput (FH h R fr to (maps.set j (ks.erase (d:Int)))) 3 (.row true 1 ((Gu fr).set (0+((d:Nat):Int).toNat) [.int .i64 (d:Int)])))
   rw[JB,Nc]
   exact HSub.refl _
  have he : s = d := by rw[hs]at hb1;have: ¬((s:Int)≠d):=by simpa using hb1
                        omega
  subst he
  refine wk 2 ?_
  have hoff:=hI.off0 hd hs
  refine⟨maps,Sub.mk' Cf (by rw[hoff];exact HSub.refl _),by rw[hoff];exact hI,rfl⟩
 rintro m1 ⟨hI1,hm1⟩
 have hd1:rget (AS fr (d:Int) d) d=d:=by rw[EX (by rw[hI.lenF];exact hd),if_pos rfl]
 have hfin:=hI1.clear hd hd1
 rw[Lt hI hd]at hfin
 obtain⟨o,ho⟩:=hI1.to_of hd
 refine wk 1 ?_
 have hd3:(0:Int)<=(d:Int)/\(d:Int)<(AS fr (d:Int) d).length:=by rw[hI1.lenF];omega
 refine AGo.join (γ:=Unit) (fun _=>⟨56,Aa (Aa A9 0 (.ptr 2 1 0 0)) 1 (.int .i64 (d:Int)),FH h R (Cl d fr) to m1⟩) (fun _=>True) ?_ ?_
 .
  cases o with
  | none=>
   have hrs:Cl d fr=AS fr (d:Int) d:=by
    rw[<-Lt hI hd]
    exact Kw (De _ _) fun v hv=>by
     rw[De]at hv
     rw[Df hv]
     by_cases e:rget (AS fr (d:Int) d) v=d
     . have:=hI1.nn d ho v (by rw[<-hI1.lenF];exact hv) e
       subst this;rw[hd1];simp
     . have hvd:v≠d:=fun e2=>e (by rw[e2];exact hd1)
       rw[show((v:Int)==d)=false from beq_eq_false_iff_ne.2 (by omega),show(rget (AS fr (d:Int) d) v==(d:Int))=false from beq_eq_false_iff_ne.2 e];rfl
   refine WF Ag (n:=56) (e:=Aa (Aa (Aa A9 0 (.ptr 2 1 0 0)) 1 (.int .i64 (d:Int))) 37 (.val (.map none))) (h:=FH h R (AS fr (d:Int) d) to m1) 7 rfl ?_ ⟨rfl,rfl,rfl⟩ rfl rfl rfl ⟨rfl,rfl,rfl⟩ ⟨rfl,rfl,rfl⟩ (by decide) ⟨rfl,rfl,rfl⟩ ?_
   .
    exact mv
   . exact⟨(),Sub.mk' Cf (by rw[hrs];exact HSub.refl _),trivial⟩
  | some j=>
   obtain⟨ks,k1,k2,k3⟩:=hI1.sm d j ho
   have hj16:3≠j+16:=by omega
   have hbk: ∀g,jo (AS fr (d:Int) d) ks [] g->g=Cl d fr:=fun g ⟨g1,g2⟩=>by
    rw[<-Lt hI hd]
    refine Kw (by rw[g1,De]) fun v hv=>?_
    rw[g1]at hv
    rw[g2 v hv,Df hv]
    have hvR:v<R:=by rw[<-hI1.lenF];exact hv
    by_cases e:rget (AS fr (d:Int) d) v=d
    . by_cases e2:v=d
      . subst e2
        rw[if_neg (fun h=>((k3 v).1 h.1).2.2.1 rfl)];simp[hd1]
      . rw[if_pos ⟨(k3 v).2 ⟨by omega,by omega,by omega,e⟩,by simp⟩];simp[e]
    . have hvd:v≠d:=fun e2=>e (by rw[e2];exact hd1)
      rw[if_neg (fun h=>e ((k3 v).1 h.1).2.2.2),show((v:Int)==d)=false from beq_eq_false_iff_ne.2 (by omega),show(rget (AS fr (d:Int) d) v==(d:Int))=false from beq_eq_false_iff_ne.2 e];rfl
   refine WG Ag (K:=.i64) (γ:=List Int) (S:=fun rb g=>⟨56,Aa (Aa (Aa A9 0 (.ptr 2 1 0 0)) 1 (.int .i64 (d:Int))) 38 (.val (.pointer (some ⟨rb,0,none⟩))),hrm (FH h R g to m1) (j+16)⟩) (J:=fun l g=>jo (AS fr (d:Int) d) ks l g/\∀v∈l,v∈ks/\l.Nodup) (m:=SL ks) (b:=j+16)
     (e:=Aa (Aa (Aa A9 0 (.ptr 2 1 0 0)) 1 (.int .i64 (d:Int))) 37 (.map (j+16))) (h:=FH h R (AS fr (d:Int) d) to m1) (AS fr (d:Int) d) 7 rfl ?_ ⟨rfl,rfl,rfl⟩ rfl rfl rfl (by rw[I8,HY k1]) ⟨rfl,rfl,rfl⟩ ⟨rfl,rfl,rfl⟩ ⟨rfl,rfl,rfl⟩ ⟨rfl,rfl,rfl⟩ ⟨rfl,rfl,rfl⟩ (by decide) (by decide) (by decide) (fun _ _=>⟨rfl,rfl,rfl,rfl,rfl,rfl,rfl⟩) ?_ (fun _=>Sub.mk' Cf (HSub.refl _)) ?_ ?_
   .
    exact mv
   . rw[cf]
     exact⟨⟨rfl,fun v hv=>by rw[if_neg (fun h=>h.2 h.1)]⟩,fun v hv=>⟨hv,k2⟩⟩
   .
    rintro rb l1 z l2 g ⟨⟨g1,g2⟩,g3⟩
    have hz:=g3 z (by simp)
    obtain⟨z0,z1,z2,z3⟩:=(k3 z).1 hz.1
    have hzg:(0:Int)<=z/\z<g.length:=by rw[g1,hI1.lenF];omega
    refine wk 7 ?_;refine aq 49 (Ab Ag rfl rfl rfl rfl rfl rfl rfl (by rw[B5,g1,hI1.lenF]) rfl z0 (by omega)) ?_;refine AOps.w rfl rfl (o_store Ag rfl rfl rfl rfl rfl rfl (by rw[B5,g1,hI1.lenF]) (K2 hzg) rfl (by decide) rfl (by intro h;rfl)) ?_;refine wk 1 ?_;refine⟨rfl,AS g z z,⟨⟨by rw[C0,g1],fun v hv=>?_⟩,fun v hv=>⟨(g3 v ((List.Sublist.append_left (List.sublist_cons_self _ _) _).subset hv)).1,?_⟩⟩,Sub.mk' Cf ?_⟩
    . obtain⟨u,rfl⟩: ∃u:Nat,z=u:=⟨z.toNat,by omega⟩
      rw[EX (by omega)]
      have hnd:=hz.2
      rw[List.nodup_append]at hnd
      have hnd2:=List.nodup_cons.1 hnd.2.1
      by_cases e:v=u
      . subst e
        rw [if_pos rfl, if_pos ⟨hz.1, fun h => by rcases List.mem_append.1 h with h | h
                                                  . exact hnd.2.2 _ h _ (by simp) rfl
                                                  . exact hnd2.1 h⟩]
      . rw[if_neg e,g2 v hv]
        have hm:(v:Int)∈l1++(u:Int)::l2↔(v:Int)∈l1++l2:=by simp[show(v:Int)≠u from by omega]
        simp only[hm]
    . have hnd:=hz.2
      exact hnd.sublist (List.Sublist.append_left (List.sublist_cons_self _ _) _)
    . show HSub _ (hput (hrm (FH h R g to m1) (j+16)) 3 (.row true 1 ((Gu g).set (0+z.toNat) [.int .i64 z])))
      rw[JB,dH hj16,Nc]
      exact HSub.refl _
   . rintro rb g ⟨hg,_⟩
     refine⟨(),Sub.mk' Cf ?_,trivial⟩
     rw[PC (by rw[I8,HY k1]),hbk g hg]
     exact HSub.refl _
 intro _ _
 refine wk 6 ?_;refine aq 55 (Ab Ag rfl rfl rfl rfl rfl rfl rfl (by rw[List.length_map,hI.lenT]) rfl hdf.1 (by omega)) ?_;refine AOps.w rfl rfl (o_store Ag rfl rfl rfl rfl rfl rfl (by rw[List.length_map,hI.lenT]) (IR ho) rfl (by decide) rfl (by intro h;cases h)) ?_;refine wk 1 ?_;refine⟨[],trivial,rfl,m1,hfin,hm1,?_⟩
 have hsp:Eb (ML o) 0 [AV.val (.map none)]=ML none:=by cases o<;>rfl
 show HSub _ (hput (FH h R (Cl d fr) to m1) 4 (.row false 1 ((to.map ML).set (0+((d:Nat):Int).toNat) (Eb (ML o) 0 [AV.val (.map none)]))))
 rw[hsp,OE,jq]
 exact HSub.refl _
end Go.Proofs.YtbbfelelocccmaaGreat.Sv
