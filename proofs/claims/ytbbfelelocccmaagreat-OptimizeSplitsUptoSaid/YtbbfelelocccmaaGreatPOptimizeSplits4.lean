/-
  WHAT FOLLOWS BLOCKS, AND WHAT IS REACHED, IN PLAIN LEAN: own work, over no program.
-/
import Derived.Test.YtbbfelelocccmaaGreatPOptimizeSplits3
set_option linter.unusedVariables false
set_option linter.unusedSimpArgs false
set_option maxRecDepth 100000
set_option maxHeartbeats 2000000
namespace Go.Proofs.YtbbfelelocccmaaGreat.Sv
open Go
theorem Ghost.freezeA{n:Nat}{e:As}{h:Ab}(t b:Nat){m sz:Nat}{es:List (List AV)}(ht:e t=some (.ref b m 0 m))(hb:h b=some (.row true sz es))(hm:m=es.length):
 Ghost ⟨n,e,h⟩ ⟨n,Aa e t (.lst false es),hrm h b⟩:=by
 have:=Ghost.freeze (n:=n) t b ht hb hm;rwa[List.drop_zero,List.take_of_length_le (Nat.le_of_eq hm.symm)]at this
def pathCell(p:List Int):List AV:=[AM p]
def Block.nexts(b:Block):List Int:=bif b.fin==1 then [b.to]else bif b.fin==2 then [b.to,b.els]else []
def BFunc.nexts(f:BFunc):List (List Int):=f.blocks.map Block.nexts
theorem AE(f:BFunc):f.nexts.length=f.blocks.length:=by simp[BFunc.nexts]
theorem Cz{f:BFunc}{k:Nat}{x:Block}(h:f.blocks[k]?=some x):f.nexts[k]?=some x.nexts:=by simp[BFunc.nexts,h]
theorem XZ{α:Type}{F:List α}{f:α->List AV}{z:List AV}{k n:Nat}{x:α}(hF:F.length=n)(hx:F[k]?=some x)(hz:f x=z):((F.take k).map f++List.replicate (n-k) z)=(F.take (k+1)).map f++List.replicate (n-(k+1)) z:=by
 have hk:k<n:=by rw[<-hF];exact(List.getElem?_eq_some_iff.1 hx).1
 rw[Bc hx,List.map_append,List.append_assoc];congr 1;obtain⟨m,hm⟩: ∃m,n-k=m+1:=⟨n-k-1,by omega⟩
 grind
structure DS where
  been:List Bool
  way:List (Int×Int)
def notBeen(been:List Bool)(b:Int):Bool:=decide (b>=0)&&decide (b<been.length)&& !((been[b.toNat]?).getD true)
def BD(b:Int)(s:DS):DS:=bif notBeen s.been b then⟨s.been.set b.toNat true,s.way++[(b,0)]⟩else s
def Bj(next:List (List Int))(b:Int):List Int:=(next[b.toNat]?).getD []
def Er(next:List (List Int))(s:DS):DS:=
  match s.way.getLast? with
  | none=>s
  | some (b,i)=>bif decide (i<(Bj next b).length)then BD (((Bj next b)[i.toNat]?).getD 0) ⟨s.been,s.way.dropLast++[(b,i+1)]⟩else⟨s.been,s.way.dropLast⟩
def Hp(next:List (List Int)):Nat->DS->DS
  | 0,s=>s
  | g+1,s=>if s.way.isEmpty then s else Hp next g (Er next s)
def nu:List Bool->List (List Int)->Nat
  | x::xs,l::ls=>(bif x then 0 else l.length+2)+nu xs ls
  | _,_=>0
def kj(next:List (List Int))(way:List (Int×Int)):Nat:=(way.map fun p=>(Bj next p.1).length-p.2.toNat+1).sum
def Ri(next:List (List Int))(s:DS):Nat:=nu s.been next+kj next s.way
theorem ar: ∀{been:List Bool} {next:List (List Int)} {i:Nat} {l:List Int},been[i]?=some false->next[i]?=some l->nu (been.set i true) next+(l.length+2)=nu been next
 | [],_,_,_,h,_=>by simp at h
 | _::_,[],_,_,_,h=>by simp at h
 | x::xs,m::ls,0,l,h1,h2=>by
  grind[nu]
 | x::xs,m::ls,i+1,l,h1,h2=>by
  simp only[List.getElem?_cons_succ]at h1 h2;have:=ar h1 h2
  grind[nu]
def T5(l:List Bool):Nat:=(l.map fun x=>bif x then 0 else 1).sum
theorem Iu: ∀{been:List Bool} {i:Nat},been[i]?=some false->T5 (been.set i true)+1=T5 been
 | [],_,h=>by simp at h
 | x::xs,0,h=>by simp at h;subst h;simp[T5];omega
 | x::xs,i+1,h=>by
  simp only[List.getElem?_cons_succ]at h;have:=Iu h
  grind[T5]
theorem CG{been:List Bool}{b:Int}(h:notBeen been b=true):0<=b/\b<been.length/\been[b.toNat]?=some false:=by
 grind[notBeen,Ae]
theorem Mr(next:List (List Int))(w:List (Int×Int))(p:Int×Int):kj next (w++[p])=kj next w+((Bj next p.1).length-p.2.toNat+1):=by simp[kj]
theorem bA{next:List (List Int)}{b:Int}{s:DS}(hn:s.been.length=next.length):Ri next (BD b s)<=Ri next s:=by
 grind[BD,notBeen,CG,Ae,ar,Ri,Mr,Bj]
theorem FJ{w:List (Int×Int)}{p:Int×Int}(h:w.getLast?=some p):w=w.dropLast++[p]:=by
 cases w with
 | nil=>simp at h
 | cons x r=>
  have hne:x::r≠[]:=by simp
  rw[List.getLast?_eq_some_getLast hne]at h
  cases h
  exact(List.dropLast_concat_getLast hne).symm
theorem If{α:Type}{l:List α}{n:Nat}(h:n<=l.length):(l.take n).dropLast=l.take (n-1):=by
 rw[List.dropLast_eq_take,List.take_take,List.length_take];congr 1;omega
structure DS.ok(next:List (List Int))(s:DS):Prop where
  len:s.been.length=next.length
  way: ∀p∈s.way,0<=p.1/\p.1<next.length/\0<=p.2/\p.2<=(Bj next p.1).length
theorem dinto_ok{next:List (List Int)}{b:Int}{s:DS}(h:s.ok next):(BD b s).ok next:=by
 unfold BD
 cases e:notBeen s.been b with
 | false=>exact h
 | true=>
  obtain⟨h1,h2,h3⟩:=CG e;have:=h.len;refine⟨by simpa using h.len,fun p hp=>?_⟩;simp only[cond_true,List.mem_append,List.mem_singleton]at hp;rcases hp with hp | rfl
  . exact h.way p hp
  . exact⟨h1,by omega,Int.le_refl _,Int.natCast_nonneg _⟩
theorem N0{next:List (List Int)}{s:DS}(h:s.ok next):(Er next s).ok next:=by
 unfold Er;split
 . exact h
 . rename_i b i e;have hw:=FJ e;have hb:=h.way (b,i) (by rw[hw];simp)
   cases hi:decide (i<(Bj next b).length)with
   | false=>exact⟨h.len,fun p hp=>h.way p (List.dropLast_subset _ hp)⟩
   | true=>
    simp only[decide_eq_true_eq]at hi;refine dinto_ok ⟨h.len,fun p hp=>?_⟩;simp only[List.mem_append,List.mem_singleton]at hp;rcases hp with hp | rfl
    . exact h.way p (List.dropLast_subset _ hp)
    . exact⟨hb.1,hb.2.1,by show 0<=i+1;have:=hb.2.2.1;simp only at this;omega,by show i+1<=((Bj next b).length:Int);omega⟩
theorem Ts{next:List (List Int)}{s:DS}(h:s.ok next)(hne:s.way≠[]):Ri next (Er next s)<Ri next s:=by
 unfold Er
 cases e:s.way.getLast? with
 | none=>rw[List.getLast?_eq_none_iff]at e;exact absurd e hne
 | some p=>
  obtain⟨b,i⟩:=p;have hw:=FJ e;have hb:=h.way (b,i) (by rw[hw];simp);simp only at hb;have e1:Ri next s=nu s.been next+(kj next s.way.dropLast+((Bj next b).length-i.toNat+1)):=by
   unfold Ri;conv=>lhs;rw[hw]
   rw[Mr]
  dsimp only
  cases hi:decide (i<(Bj next b).length)with
  | false=>
   rw[e1];simp only[cond_false,Ri];omega
  | true=>
   simp only[decide_eq_true_eq]at hi;simp only[cond_true];refine Nat.lt_of_le_of_lt (bA h.len) ?_;rw[e1];simp only[Ri,Mr];omega
theorem P0{next:List (List Int)}{g:Nat}{s:DS}(hne:s.way≠[]):Hp next (g+1) s=Hp next g (Er next s):=by
 grind[Hp,Er]
theorem Tv{next:List (List Int)}{g:Nat}{s:DS}(h:s.way=[]):Hp next g s=s:=by
 cases g with
 | zero=>rfl
 | succ g=>simp[Hp,h]
def EP(been:List Bool):DS:=BD 0 ⟨been,[]⟩
def F2(next:List (List Int))(been:List Bool):List Bool:=(Hp next (Ri next (EP been)+1) (EP been)).been
def BFunc.reach(f:BFunc):List Bool:=F2 f.nexts (List.replicate f.nexts.length false)
def Dc(p:Int×Int):List AV:=[.int .i64 p.1,.int .i64 p.2]
structure WayIn(n:Nat)(s:DS)(es:List (List AV)):Prop where
  le:s.way.length<=es.length
  eq:es.take s.way.length=s.way.map Dc
  cap:es.length+T5 s.been<=n
def Q6(b:Int)(s:DS)(es:List (List AV)):List (List AV):=bif notBeen s.been b then CN es s.way.length (Dc (b,0))else es
theorem QN{es:List (List AV)}{len:Nat}{cs:List AV}:(CN es len cs).length<=es.length+1:=by
 grind[CN]
theorem WayIn.into{n:Nat}{b:Int}{s:DS}{es:List (List AV)}(h:WayIn n s es):WayIn n (BD b s) (Q6 b s es):=by
 unfold BD Q6
 cases e:notBeen s.been b with
 | false=>exact h
 | true=>
  obtain⟨h1,h2,h3⟩:=CG e;have hu:=Iu h3;simp only[cond_true];refine⟨by simpa using KS h.le,?_,?_⟩
  . show(CN es s.way.length (Dc (b,0))).take (s.way++[(b,0)]).length=_;rw[List.length_append];simp only[List.length_cons,List.length_nil,List.map_append,List.map_cons,List.map_nil];rw[Jp h.le,h.eq]
  . have:=QN (es:=es) (len:=s.way.length) (cs:=Dc (b,0));have:=h.cap;show(CN es s.way.length (Dc (b,0))).length+T5 (s.been.set b.toNat true)<=n;omega
theorem WayIn.top{n:Nat}{s:DS}{es:List (List AV)}(h:WayIn n s es){p:Int×Int}(hp:s.way.getLast?=some p):es[s.way.length-1]?=some (Dc p)/\0<s.way.length:=by
 have hw:=FJ hp;have hpos:0<s.way.length:=by rw[hw];simp
 have h1:(es.take s.way.length)[s.way.length-1]?=es[s.way.length-1]?:=List.getElem?_take_of_lt (by omega);rw[<-h1,h.eq,List.getElem?_map];rw[List.getLast?_eq_getElem?]at hp;rw[hp];exact⟨rfl,hpos⟩
theorem WayIn.seen{n:Nat}{s:DS}{es:List (List AV)}(h:WayIn n s es){b i:Int}(hp:s.way.getLast?=some (b,i)):WayIn n ⟨s.been,s.way.dropLast++[(b,i+1)]⟩ (es.set (s.way.length-1) (Dc (b,i+1))):=by
 obtain⟨h1,h2⟩:=h.top hp;have hl:(s.way.dropLast++[(b,i+1)]).length=s.way.length:=by simp;omega
 have hle:=h.le;refine⟨by simp only[hl,List.length_set];exact hle,?_,by simpa using h.cap⟩;simp only[hl];obtain⟨m,hm⟩: ∃m,s.way.length=m+1:=⟨s.way.length-1,by omega⟩
 rw[hm];simp only[Nat.add_sub_cancel];have hlt:m<es.length:=by omega
 rw[Bc (List.getElem?_set_self hlt),List.take_set_of_le (Nat.le_refl _),List.map_append];congr 1;have:=h.eq;rw[hm]at this;have h3:=congrArg List.dropLast this;rw[List.map_dropLast];rw[<-h3,If (by omega)];rfl
theorem WayIn.pop{n:Nat}{s:DS}{es:List (List AV)}(h:WayIn n s es){p:Int×Int}(hp:s.way.getLast?=some p):WayIn n ⟨s.been,s.way.dropLast⟩ es:=by
 obtain⟨h1,h2⟩:=h.top hp;have hle:=h.le;refine⟨by simp only[List.length_dropLast];omega,?_,h.cap⟩;simp only[List.length_dropLast];have h3:=congrArg List.dropLast h.eq;rw[List.map_dropLast,<-h3,If (by omega)]
def eZ(b:Int):Tac:=⟨10,0,0,0,0,b,0,0⟩
def Vc(t:Tac):Bool:=t.op !=10||(decide (0<=t.base)&&t.same (eZ t.base))
def aw(l:List Tac):List Tac:=l.filter fun t=>t.op !=10
def Block.bare(x:Block):Block:={x with ins:=aw x.ins}
def BFunc.bare(f:BFunc):BFunc:=⟨f.regs,f.blocks.map Block.bare⟩
def BFunc.stands(f:BFunc):Bool:=f.blocks.all (fun x=>x.ins.all Vc)&&(Blocks.mk 1048576 [f.bare]).right
def ML(x y:Block):Bool:=x.fin==y.fin&&(x.to==y.to&&x.els==y.els)
def ET(old new:BFunc):Bool:=decide (old.regs=new.regs)&&(decide (old.blocks.length=new.blocks.length)&&(old.stands&&(new.stands&&(old.blocks.zip new.blocks).all fun p=>ML p.1 p.2)))
structure ck(f:BFunc):Prop where
  r0:0<=f.regs
  r1:f.regs<=4000
  ne:f.blocks.length≠0
  tacs: ∀x∈f.blocks,∀t∈x.ins,Gc t.n->i7 t f.regs.toNat
  fin: ∀x∈f.blocks,x.fin=1\/x.fin=2\/x.fin=3
  v: ∀x∈f.blocks,x.fin=2->0<=x.v/\x.v<f.regs
  next: ∀x∈f.blocks,∀k∈x.nexts,0<=k/\k<f.blocks.length
theorem W4{f:BFunc}(h:f.stands=true):ck f:=by
 unfold BFunc.stands at h;rw[Bool.and_eq_true]at h;obtain⟨h1,h2⟩:=h;simp only[Blocks.right,Bool.and_eq_true,decide_eq_true_eq,List.all_eq_true]at h2;have h3:=h2.2.2.2 (f.bare,0) (by simp);simp only[BFunc.one,Bool.and_eq_true,decide_eq_true_eq,Bool.not_eq_true',List.isEmpty_eq_false_iff,List.all_eq_true,BFunc.bare,List.length_map]at h3;obtain⟨a1,a2,a3,a4⟩:=h3;have hb: ∀x∈f.blocks,x.ends f.blocks.length f.regs=true/\∀t∈aw x.ins,t.fits 0 f.regs 1048576=true:=fun x hx=>by
  have:=a4 x.bare (List.mem_map.2 ⟨x,hx,rfl⟩);unfold Block.ok at this;rw[Bool.and_eq_true,List.all_eq_true]at this;exact this
 have hend: ∀x∈f.blocks,(x.fin=1/\AP x.to f.blocks.length=true)\/(x.fin=2/\AP x.to f.blocks.length=true/\AP x.els f.blocks.length=true/\AP x.v f.regs=true)\/x.fin=3:=fun x hx=>by
  have he:=(hb x hx).1;unfold Block.ends at he
  cases e1:x.fin==1 with
  | true=>rw[e1]at he;simp only[cond_true,Bool.and_eq_true]at he;exact .inl ⟨by simpa using e1,he.1⟩
  | false=>
   cases e2:x.fin==2 with
   | true=>rw[e1,e2]at he;simp only[cond_true,cond_false,Bool.and_eq_true]at he;exact .inr (.inl ⟨by simpa using e2,he.1,he.2.1,he.2.2⟩)
   | false=>rw[e1,e2]at he;simp only[cond_false,Bool.and_eq_true,beq_iff_eq]at he;exact .inr (.inr he.1)
 have hw: ∀{i n:Int},AP i n=true->0<=i/\i<n:=fun {i n} h=>by simpa[AP]using h
 refine⟨of_decide_eq_true a1,of_decide_eq_true a2,fun e=>a3 (by simp[List.eq_nil_of_length_eq_zero e]),fun x hx t ht hn=>?_,fun x hx=>?_,fun x hx hf=>?_,fun x hx k hk=>?_⟩
 . by_cases h10:t.op=10
   . exact⟨(fun h=>by rw[h10]at h;cases h),(fun h=>by rw[h10]at h;rcases h with h | h<;>cases h),(fun h=>by rw[h10]at h;cases h),hn⟩
   . have hf:=(hb x hx).2 t (List.mem_filter.2 ⟨ht,by simpa using h10⟩);have hi:=RZ hf;exact⟨hi.d,hi.a,hi.b,hn⟩
 . rcases hend x hx with h | h | h
   . exact .inl h.1
   . exact .inr (.inl h.1)
   . exact .inr (.inr h)
 . rcases hend x hx with h | h | h
   . exact absurd (hf.symm.trans h.1) (by decide)
   . exact hw h.2.2.2
   . exact absurd (hf.symm.trans h) (by decide)
 . rcases hend x hx with h | h | h
   . rw[Block.nexts,show(x.fin==1)=true by simp[h.1]]at hk;simp only[cond_true,List.mem_singleton]at hk;rw[hk];exact hw h.2
   . rw[Block.nexts,show(x.fin==1)=false by simp[h.1],show(x.fin==2)=true by simp[h.1]]at hk;simp only[cond_true,cond_false,List.mem_cons,List.not_mem_nil,or_false]at hk;rcases hk with rfl | rfl
     . exact hw h.2.1
     . exact hw h.2.2.1
   . rw[Block.nexts,show(x.fin==1)=false by simp[h],show(x.fin==2)=false by simp[h]]at hk;simp at hk
theorem zip_at{α β:Type}{l:List α}{m:List β}{k:Nat}{x:α}{y:β}(hx:l[k]?=some x)(hy:m[k]?=some y):(l.zip m)[k]?=some (x,y):=by
 rw[List.getElem?_zip_eq_some];exact⟨hx,hy⟩
theorem Lq{old new:BFunc}(h1:old.regs=new.regs)(h2:old.blocks.length=new.blocks.length)(h3:old.stands=true)(h4:new.stands=true)(h5:((old.blocks.zip new.blocks).all fun p=>ML p.1 p.2)=true):ET old new=true:=by
 unfold ET;rw[decide_eq_true h1,decide_eq_true h2,h3,h4,h5];rfl
structure i6(old new:BFunc):Prop where
  regs:old.regs=new.regs
  len:old.blocks.length=new.blocks.length
  so:old.stands=true
  sn:new.stands=true
  b: ∀(k:Nat) (x y:Block),old.blocks[k]?=some x->new.blocks[k]?=some y->x.fin=y.fin/\x.to=y.to/\x.els=y.els
theorem EB{old new:BFunc}(h:ET old new=true):i6 old new:=by
 simp only[ET,Bool.and_eq_true,decide_eq_true_eq,List.all_eq_true]at h;refine⟨h.1,h.2.1,h.2.2.1,h.2.2.2.1,fun k x y hx hy=>?_⟩;have:=h.2.2.2.2 (x,y) (List.mem_of_getElem? (zip_at hx hy));simpa[ML]using this
section
variable {P : Program} {T : Nat -> Option Ar} {o : Oper} {e : As} {h : Ab}
end
structure RVal where
  kind:Int
  op:Int
  a:Int
  b:Int
  name:Int
  side:Int
  base:Int
  time:Int
  n:Int
  deriving DecidableEq
def RVal.cells(v:RVal):List AV:=[.int .i64 v.kind,.int .i64 v.op,.int .i64 v.a,.int .i64 v.b,.int .i64 v.name,.int .i64 v.side,.int .i64 v.base,.int .i64 v.time,.int .u32 v.n]
def RVal.same(x y:RVal):Bool:=x.kind==y.kind&&(x.op==y.op&&(x.a==y.a&&(x.b==y.b&&(x.name==y.name&&(x.side==y.side&&(x.base==y.base&&(x.time==y.time&&(x.n==y.n&&true))))))))
theorem RVal.same_iff(x y:RVal):x.same y=true↔x=y:=by
 obtain⟨a1,a2,a3,a4,a5,a6,a7,a8,a9⟩:=x;obtain⟨b1,b2,b3,b4,b5,b6,b7,b8,b9⟩:=y;simp[RVal.same,RVal.mk.injEq]
structure REff where
  op:Int
  k:Int
  base:Int
  size:Int
  a:Int
  b:Int
  deriving DecidableEq
def REff.cells(v:REff):List AV:=[.int .i64 v.op,.int .i64 v.k,.int .i64 v.base,.int .i64 v.size,.int .i64 v.a,.int .i64 v.b]
def REff.same(x y:REff):Bool:=x.op==y.op&&(x.k==y.k&&(x.base==y.base&&(x.size==y.size&&(x.a==y.a&&(x.b==y.b&&true)))))
theorem REff.same_iff(x y:REff):x.same y=true↔x=y:=by
 obtain⟨a1,a2,a3,a4,a5,a6⟩:=x;obtain⟨b1,b2,b3,b4,b5,b6⟩:=y;simp[REff.same,REff.mk.injEq]
def ridx(v:RVal):List RVal->Option Nat
  | []=>none
  | x::r=>bif x.same v then some 0 else(ridx v r).map (· +1)
def FN(L:List RVal)(v:RVal):Int×List RVal:=match ridx v L with
  | some i=>((i:Int),L)
  | none=>((L.length:Int),L++[v])
theorem QB{v:RVal}: ∀{L:List RVal} {i:Nat},ridx v L=some i->i<L.length/\L[i]?=some v
 | [],i,h=>by cases h
 | x::r,i,h=>by
  unfold ridx at h
  cases hx:x.same v with
  | true=>rw[hx]at h;cases h;exact⟨by simp,by rw[(RVal.same_iff x v).1 hx];rfl⟩
  | false=>
   rw[hx]at h;simp only[cond_false,Option.map_eq_some_iff]at h;obtain⟨j,hj,rfl⟩:=h;obtain⟨h1,h2⟩:=QB hj;exact⟨by simp;omega,by simpa using h2⟩
theorem MY{v:RVal}{L:List RVal}(h:ridx v L=none):FN L v=((L.length:Int),L++[v]):=by unfold FN;rw[h]
theorem MX{v:RVal}{L:List RVal}{i:Nat}(h:ridx v L=some i):FN L v=((i:Int),L):=by unfold FN;rw[h]
theorem VF{v:RVal}{L:List RVal}:L.length<=(FN L v).2.length/\(FN L v).2.length<=L.length+1/\0<=(FN L v).1/\(FN L v).1<(FN L v).2.length:=by
 cases e:ridx v L with
 | none=>rw[MY e];simp;omega
 | some i=>
  rw[MX e];have:=(QB e).1;exact⟨Nat.le_refl _,Nat.le_succ _,by dsimp only;omega,by dsimp only;omega⟩
def Zh(L:List RVal)(i:Int):RVal:=(L[i.toNat]?).getD ⟨0,0,0,0,0,0,0,0,0⟩
def Fd(L:List RVal)(i:Int):Int×Bool:=((Zh L i).n,(Zh L i).kind==1)
theorem Zg{L:List RVal}(hL: ∀v∈L,Gc v.n)(i:Int):Gc (Zh L i).n:=by
 unfold Zh
 cases e:L[i.toNat]? with
 | none=>exact E6
 | some v=>exact hL v (List.mem_of_getElem? e)
structure RW where
  L:List RVal
  regs:List Int
  out:List REff
  time:Int
def RW.put(w:RW)(z:Int)(p:Int×List RVal):RW:={w with L:=p.2,regs:=AZ w.regs z p.1}
def RW.eff(w:RW)(e:REff):RW:={w with out:=w.out++[e]}
def RW.tick(w:RW):RW:={w with time:=w.time+1}
def KJ(w:RW)(t:Tac):Bool:=(t.k==7||t.k==8)&&(!(Fd w.L (rget w.regs t.b)).2||(Fd w.L (rget w.regs t.b)).1==0)
def RW.div(w:RW)(t:Tac):RW:=bif KJ w t then w.eff ⟨t.op,t.k,0,0,rget w.regs t.a,rget w.regs t.b⟩else w
def Lw(w:RW)(t:Tac):Bool:=(Fd w.L (rget w.regs t.a)).2&&((Fd w.L (rget w.regs t.b)).2&& !KJ w t)
def Gi(w:RW)(t:Tac):RVal:=bif Lw w t then⟨1,0,0,0,0,0,0,0,(DP t.k (Fd w.L (rget w.regs t.a)).1 (Fd w.L (rget w.regs t.b)).1).1⟩else⟨3,t.k,rget w.regs t.a,rget w.regs t.b,0,0,0,0,0⟩
def RW.bin(w:RW)(t:Tac):RW:=(w.div t).put t.d (FN w.L (Gi w t))
def MN(n:Nat):RVal:=⟨2,0,0,0,(n:Int),2,0,0,0⟩
def RW.get(w:RW)(t:Tac)(e:REff):RW:=(w.eff e).put t.d (FN w.L (MN w.out.length))
def RW.step(w:RW)(t:Tac):RW:=
  bif t.op==1 then w.put t.d (FN w.L ⟨1,0,0,0,0,0,0,0,t.n⟩)
  else bif t.op==2 then {w with regs:=AZ w.regs t.d (rget w.regs t.a)}
  else bif t.op==3 then w.bin t
  else bif t.op==4 then w.put t.d (FN w.L ⟨4,0,0,0,0,0,t.base,w.time,0⟩)
  else bif t.op==5 then(w.eff ⟨t.op,0,t.base,0,rget w.regs t.a,0⟩).tick
  else bif t.op==6 then w.get t ⟨t.op,0,t.base,t.size,rget w.regs t.a,0⟩
  else bif t.op==7 then(w.eff ⟨t.op,0,t.base,t.size,rget w.regs t.a,rget w.regs t.b⟩).tick
  else bif t.op==8 then w.get t ⟨t.op,0,0,0,0,0⟩
  else bif t.op==9 then w.eff ⟨t.op,0,0,0,rget w.regs t.a,0⟩
  else(w.eff ⟨t.op,0,t.base,0,0,0⟩).tick
structure ROk(R m:Nat)(w:RW):Prop where
  wn: ∀v∈w.L,Gc v.n
  kl:w.L.length<=m
  el:w.out.length<=m
  tl:0<=w.time/\w.time<=m
  vl:w.regs.length=R
  v: ∀n∈w.regs,0<=n/\n<w.L.length
theorem ROk.mono{R m m':Nat}{w:RW}(h:ROk R m w)(hm:m<=m'):ROk R m' w:=
 ⟨h.wn,Nat.le_trans h.kl hm,Nat.le_trans h.el hm,⟨h.tl.1,by have:=h.tl.2;omega⟩,h.vl,h.v⟩
theorem il{v:RVal}{L:List RVal}(hL: ∀v∈L,Gc v.n)(hv:Gc v.n): ∀x∈(FN L v).2,Gc x.n:=by
 cases e:ridx v L with
 | none=>
  rw[MY e];intro x hx;simp only[List.mem_append,List.mem_singleton]at hx;rcases hx with hx | rfl
  . exact hL x hx
  . exact hv
 | some i=>rw[MX e];exact hL
theorem ROk.put{R m:Nat}{w:RW}(h:ROk R m w)(z:Int){v:RVal}(hv:Gc v.n):ROk R (m+1) (w.put z (FN w.L v)) where
 wn:=il h.wn hv
 kl:=by have:=h.kl;have:=(VF (v:=v) (L:=w.L)).2.1;show(FN w.L v).2.length<=_;omega
 el:=by have:=h.el;show w.out.length<=_;omega
 tl:=⟨h.tl.1,by have:=h.tl.2;show w.time<=_;omega⟩
 vl:=by show(AZ w.regs z _).length=R;rw[BF];exact h.vl
 v:=fun n hn=>by
  have hn':n∈AZ w.regs z (FN w.L v).1:=hn;unfold AZ at hn';show 0<=n/\n<((FN w.L v).2.length:Int);have hp:=VF (v:=v) (L:=w.L);rcases List.mem_or_eq_of_mem_set hn' with hn' | rfl
  . have:=h.v n hn';omega
  . exact hp.2.2
theorem ROk.eff{R m:Nat}{w:RW}(h:ROk R m w)(e:REff):ROk R (m+1) (w.eff e) where
 wn:=h.wn
 kl:=by have:=h.kl;show w.L.length<=_;omega
 el:=by have:=h.el;show(w.out++[e]).length<=_;simp;omega
 tl:=⟨h.tl.1,by have:=h.tl.2;show w.time<=_;omega⟩
 vl:=h.vl
 v:=h.v
theorem ROk.tick{R m:Nat}{w:RW}(h:ROk R m w):ROk R (m+1) w.tick where
 wn:=h.wn
 kl:=by have:=h.kl;show w.L.length<=_;omega
 el:=by have:=h.el;show w.out.length<=_;omega
 tl:=⟨by have:=h.tl.1;show 0<=w.time+1;omega,by have:=h.tl.2;show w.time+1<=_;push_cast;omega⟩
 vl:=h.vl
 v:=h.v
theorem ROk.div{R m:Nat}{w:RW}(h:ROk R m w)(t:Tac):ROk R (m+1) (w.div t):=by
 unfold RW.div
 cases KJ w t with
 | true=>exact h.eff _
 | false=>exact h.mono (Nat.le_succ _)
theorem Zw(w:RW)(t:Tac):(w.div t).L=w.L:=by unfold RW.div;cases KJ w t<;>rfl
theorem Xg{w:RW}(hL: ∀v∈w.L,Gc v.n)(t:Tac):Gc (Gi w t).n:=by
 unfold Gi
 cases Lw w t with
 | true=>exact wapp_word (Zg hL _) (Zg hL _)
 | false=>exact E6
theorem ROk.at{R m:Nat}{w:RW}(h:ROk R m w){z:Int}(hz:0<=z/\z<R):0<=z/\z<w.regs.length/\z<((gP w.regs).length:Int)/\0<=rget w.regs z/\rget w.regs z<w.L.length:=by
 have h1:=h.vl;have h2:=h.v _ (L4 (z:=z) (by rw[h1];exact hz));rw[RQ,h1];exact⟨hz.1,hz.2,hz.2,h2.1,h2.2⟩
theorem ROk.bin{R m:Nat}{w:RW}(h:ROk R m w)(t:Tac):ROk R (m+2) (w.bin t):=by
 have h1:=(h.div t).put t.d (Xg h.wn t);rw[Zw]at h1;exact h1
theorem ROk.get{R m:Nat}{w:RW}(h:ROk R m w)(t:Tac)(e:REff):ROk R (m+2) (w.get t e):=ROk.put (h.eff e) t.d (v:=MN w.out.length) E6
theorem ROk.step{R m:Nat}{w:RW}(h:ROk R m w){t:Tac}(ht:i7 t R):ROk R (m+2) (w.step t):=by
 unfold RW.step
 cases t.op==1 with
 | true=>exact(h.put _ ht.n).mono (Nat.le_succ _)
 | false=>
 cases h2:t.op==2 with
 | true=>
  have h2':t.op=2:=by simpa using h2
  refine ROk.mono (m:=m) ⟨h.wn,h.kl,h.el,h.tl,?_,fun n hn=>?_⟩ (by omega)
  . show(AZ w.regs t.d _).length=R;rw[BF];exact h.vl
  . have hn':n∈AZ w.regs t.d (rget w.regs t.a):=hn;unfold AZ at hn';rcases List.mem_or_eq_of_mem_set hn' with hn' | rfl
    . exact h.v n hn'
    . have:=ht.a (.inl (by simp[use1,h2']));exact h.v _ (L4 (by rw[h.vl];exact this))
 | false=>
 cases t.op==3 with
 | true=>exact h.bin t
 | false=>
 cases t.op==4 with
 | true=>exact(h.put _ (v:=⟨4,0,0,0,0,0,_,_,0⟩) E6).mono (Nat.le_succ _)
 | false=>
 cases t.op==5 with
 | true=>exact ROk.tick (h.eff _)
 | false=>
 cases t.op==6 with
 | true=>exact h.get t _
 | false=>
 cases t.op==7 with
 | true=>exact ROk.tick (h.eff _)
 | false=>
 cases t.op==8 with
 | true=>exact h.get t _
 | false=>
 cases t.op==9 with
 | true=>exact(h.eff _).mono (Nat.le_succ _)
 | false=>exact ROk.tick (h.eff _)
section
variable {P : Program} {T : Nat -> Option Ar} {o : Oper} {e : As} {h : Ab}
end
theorem Xh{w:RW}{t:Tac}(h:Lw w t=true):Gi w t=⟨1,0,0,0,0,0,0,0,(DP t.k (Fd w.L (rget w.regs t.a)).1 (Fd w.L (rget w.regs t.b)).1).1⟩:=by unfold Gi;rw[h];rfl
theorem KO{w:RW}{t:Tac}(h:Lw w t=false):Gi w t=⟨3,t.k,rget w.regs t.a,rget w.regs t.b,0,0,0,0,0⟩:=by unfold Gi;rw[h];rfl
def RVal.reg(v:Nat)(side:Int):RVal:=⟨2,0,0,0,(v:Int),side,0,0,0⟩
section
variable {R : Nat} {old new : Block} {c : Cert} {i : Int} {next : List Int}
end
section
variable {P : Program} {T : Nat -> Option Ar} {h : Ab}
end
theorem ic{w:RW}{t:Tac}(ho:t.op=1):w.step t=w.put t.d (FN w.L ⟨1,0,0,0,0,0,0,0,t.n⟩):=by
 unfold RW.step;rw[ho];rfl
theorem ib{w:RW}{t:Tac}(ho:t.op=2):w.step t={w with regs:=AZ w.regs t.d (rget w.regs t.a)}:=by
 unfold RW.step;rw[ho];rfl
theorem ia{w:RW}{t:Tac}(ho:t.op=3):w.step t=w.bin t:=by
 unfold RW.step;rw[ho];rfl
theorem hZ{w:RW}{t:Tac}(ho:t.op=4):w.step t=w.put t.d (FN w.L ⟨4,0,0,0,0,0,t.base,w.time,0⟩):=by
 unfold RW.step;rw[ho];rfl
theorem g9{w:RW}{t:Tac}(ho:t.op=5):w.step t=(w.eff ⟨t.op,0,t.base,0,rget w.regs t.a,0⟩).tick:=by
 unfold RW.step;rw[ho];rfl
theorem g8{w:RW}{t:Tac}(ho:t.op=6):w.step t=w.get t ⟨t.op,0,t.base,t.size,rget w.regs t.a,0⟩:=by
 unfold RW.step;rw[ho];rfl
theorem g7{w:RW}{t:Tac}(ho:t.op=7):w.step t=(w.eff ⟨t.op,0,t.base,t.size,rget w.regs t.a,rget w.regs t.b⟩).tick:=by
 unfold RW.step;rw[ho];rfl
theorem gZ{w:RW}{t:Tac}(ho:t.op=8):w.step t=w.get t ⟨t.op,0,0,0,0,0⟩:=by
 unfold RW.step;rw[ho];rfl
theorem gY{w:RW}{t:Tac}(ho:t.op=9):w.step t=w.eff ⟨t.op,0,0,0,rget w.regs t.a,0⟩:=by
 unfold RW.step;rw[ho];rfl
theorem ie{w:RW}{t:Tac}(h1:(t.op==1)=false)(h2:(t.op==2)=false)(h3:(t.op==3)=false)(h4:(t.op==4)=false)(h5:(t.op==5)=false)(h6:(t.op==6)=false)(h7:(t.op==7)=false)(h8:(t.op==8)=false)(h9:(t.op==9)=false):w.step t=(w.eff ⟨t.op,0,t.base,0,0,0⟩).tick:=by
 unfold RW.step;rw[h1,h2,h3,h4,h5,h6,h7,h8,h9];rfl
inductive Tm where
  | old (v:Nat)
  | own (v:Nat)
  | cst (n:Int)
  | op (k:Int) (a b:Tm)
  | ld (base time:Int)
  | unk (n:Nat)
  deriving DecidableEq
structure SE where
  risk:Bool
  op:Int
  k:Int
  base:Int
  size:Int
  a:Option Tm
  b:Option Tm
  deriving DecidableEq
structure SS where
  regs:List Tm
  effs:List SE
  time:Int
def tget(l:List Tm)(z:Int):Tm:=(l[z.toNat]?).getD (.cst 0)
def tset(l:List Tm)(z:Int)(t:Tm):List Tm:=l.set z.toNat t
def Tm.isZero:Tm->Bool
  | .cst n=>n==0
  | _=>true
def trisky(k:Int)(b:Tm):Bool:=(k==7||k==8)&&b.isZero
def HM(k:Int)(a b:Tm):Tm:=match a,b with
  | .cst x,.cst y=>bif trisky k (.cst y)then .op k a b else .cst (DP k x y).1
  | _,_=>.op k a b
def SS.put(s:SS)(z:Int)(t:Tm):SS:={s with regs:=tset s.regs z t}
def SS.eff(s:SS)(e:SE):SS:={s with effs:=s.effs++[e]}
def SS.tick(s:SS):SS:={s with time:=s.time+1}
def SS.div(s:SS)(t:Tac):SS:=bif trisky t.k (tget s.regs t.b)then s.eff ⟨true,3,t.k,0,0,some (tget s.regs t.a),some (tget s.regs t.b)⟩else s
def SS.bin(s:SS)(t:Tac):SS:=(s.div t).put t.d (HM t.k (tget s.regs t.a) (tget s.regs t.b))
def SS.get(s:SS)(t:Tac)(e:SE):SS:=(s.eff e).put t.d (.unk s.effs.length)
def SS.step(s:SS)(t:Tac):SS:=
  bif t.op==1 then s.put t.d (.cst t.n)
  else bif t.op==2 then s.put t.d (tget s.regs t.a)
  else bif t.op==3 then s.bin t
  else bif t.op==4 then s.put t.d (.ld t.base s.time)
  else bif t.op==5 then(s.eff ⟨false,5,0,t.base,0,some (tget s.regs t.a),none⟩).tick
  else bif t.op==6 then s.get t ⟨false,6,0,t.base,t.size,some (tget s.regs t.a),none⟩
  else bif t.op==7 then(s.eff ⟨false,7,0,t.base,t.size,some (tget s.regs t.a),some (tget s.regs t.b)⟩).tick
  else bif t.op==8 then s.get t ⟨false,8,0,0,0,none,none⟩
  else bif t.op==9 then s.eff ⟨false,9,0,0,0,some (tget s.regs t.a),none⟩
  else(s.eff ⟨false,10,0,t.base,0,none,none⟩).tick
structure nP(t:Tac)(R:Nat):Prop extends i7 t R where
  op:1<=t.op/\t.op<=10
  k:t.op=3->4<=t.k/\t.k<=15
  want:t=t.want
def SE.wf(e:SE):Prop:=(e.risk=true/\e.op=3/\e.base=0/\e.size=0/\e.a.isSome/\e.b.isSome)\/
  (e.risk=false/\e.k=0/\(e.op=5/\e.size=0/\e.a.isSome/\e.b=none\/e.op=6/\e.a.isSome/\e.b=none\/e.op=7/\e.a.isSome/\e.b.isSome\/e.op=8/\e.base=0/\e.size=0/\e.a=none/\e.b=none\/e.op=9/\e.base=0/\e.size=0/\e.a.isSome/\e.b=none\/e.op=10/\e.size=0/\e.a=none/\e.b=none))
def All2{α β:Type}(r:α->β->Prop):List α->List β->Prop
  | [],[]=>True
  | x::xs,y::ys=>r x y/\All2 r xs ys
  | _,_=>False
theorem All2.len{α β:Type}{r:α->β->Prop}: ∀{l:List α} {m:List β},All2 r l m->l.length=m.length
 | [],[],_=>rfl
 | x::xs,y::ys,h=>by simp[All2.len h.2]
 | [],y::ys,h=>h.elim
 | x::xs,[],h=>h.elim
theorem All2.mono{α β:Type}{r r':α->β->Prop}(hr: ∀x y,r x y->r' x y): ∀{l:List α} {m:List β},All2 r l m->All2 r' l m
 | [],[],_=>trivial
 | x::xs,y::ys,h=>⟨hr _ _ h.1,All2.mono hr h.2⟩
 | [],y::ys,h=>h.elim
 | x::xs,[],h=>h.elim
theorem All2.snoc{α β:Type}{r:α->β->Prop}{x:α}{y:β}(hx:r x y): ∀{l:List α} {m:List β},All2 r l m->All2 r (l++[x]) (m++[y])
 | [],[],_=>⟨hx,trivial⟩
 | a::l,b::m,h=>⟨h.1,All2.snoc hx h.2⟩
 | [],b::m,h=>h.elim
 | a::l,[],h=>h.elim
theorem All2.get{α β:Type}{r:α->β->Prop}: ∀{l:List α} {m:List β},All2 r l m->∀{i:Nat} {x:α} {y:β},l[i]?=some x->m[i]?=some y->r x y
 | [],[],_,i,x,y,h1,_=>by simp at h1
 | a::l,b::m,h,0,x,y,h1,h2=>by simp at h1 h2;subst h1;subst h2;exact h.1
 | a::l,b::m,h,i+1,x,y,h1,h2=>All2.get h.2 (by simpa using h1) (by simpa using h2)
 | [],b::m,h,_,_,_,_,_=>h.elim
 | a::l,[],h,_,_,_,_,_=>h.elim
theorem All2.set{α β:Type}{r:α->β->Prop}{x:α}{y:β}(hx:r x y): ∀{l:List α} {m:List β} (i:Nat),All2 r l m->All2 r (l.set i x) (m.set i y)
 | [],[],_,_=>trivial
 | a::l,b::m,0,h=>⟨hx,h.2⟩
 | a::l,b::m,i+1,h=>⟨h.1,All2.set hx i h.2⟩
 | [],b::m,_,h=>h.elim
 | a::l,[],_,h=>h.elim
theorem Pq{α:Type}{l:List α}(h:l.Nodup){i j:Nat}{x:α}(hi:l[i]?=some x)(hj:l[j]?=some x):i=j:=by
 obtain⟨h1,e1⟩:=List.getElem?_eq_some_iff.1 hi;obtain⟨h2,e2⟩:=List.getElem?_eq_some_iff.1 hj;have hp:=List.pairwise_iff_getElem.1 h;rcases Nat.lt_trichotomy i j with hl | hl | hl
 . exact absurd (e1.trans e2.symm) (hp i j h1 h2 hl)
 . exact hl
 . exact absurd (e2.trans e1.symm) (hp j i h2 h1 hl)
theorem JY{α:Type}{l m:List α}(h:l<+:m){i:Nat}{x:α}(hi:l[i]?=some x):m[i]?=some x:=by
 obtain⟨r,rfl⟩:=h;rw[List.getElem?_append_left (List.getElem?_eq_some_iff.1 hi).1];exact hi
def VN(R:Nat)(ts:List Tm):Tm->Int->Prop
  | .old v,n=>n=(v:Int)/\v<R
  | .own v,n=>n=((R+v:Nat):Int)/\v<R
  | t,n=>∃i:Nat,ts[i]?=some t/\n=((2*R+i:Nat):Int)
def VK(R:Nat)(ts:List Tm):Tm->List Int->Prop
  | .cst n,k=>k=[1,n,0,0]
  | .op o a b,k=>∃x y,VN R ts a x/\VN R ts b y/\k=[2,o,x,y]
  | .ld b τ,k=>k=[3,b,τ,0]
  | .unk n,k=>k=[4,(n:Int)+1,0,0]
  | _,_=>False
structure VT(R:Nat)(ts:List Tm)(K:List (List Int)):Prop where
  nd:ts.Nodup
  len:K.length=ts.length
  key: ∀(i:Nat) (t:Tm) (k:List Int),ts[i]?=some t->K[i]?=some k->VK R ts t k
  word: ∀(n:Int),Tm.cst n∈ts->Gc n
section
variable {R : Nat} {ts ts' : List Tm} {K : List (List Int)}
theorem VN.ext(hp:ts<+:ts'): ∀{t:Tm} {n:Int},VN R ts t n->VN R ts' t n
 | .old _,_,h=>h
 | .own _,_,h=>h
 | .cst _,_,⟨i,h1,h2⟩=>⟨i,JY hp h1,h2⟩
 | .op _ _ _,_,⟨i,h1,h2⟩=>⟨i,JY hp h1,h2⟩
 | .ld _ _,_,⟨i,h1,h2⟩=>⟨i,JY hp h1,h2⟩
 | .unk _,_,⟨i,h1,h2⟩=>⟨i,JY hp h1,h2⟩
theorem VK.ext(hp:ts<+:ts'): ∀{t:Tm} {k:List Int},VK R ts t k->VK R ts' t k
 | .cst _,_,h=>h
 | .op _ _ _,_,⟨x,y,h1,h2,h3⟩=>⟨x,y,h1.ext hp,h2.ext hp,h3⟩
 | .ld _ _,_,h=>h
 | .unk _,_,h=>h
theorem cg{t:Tm}{k:List Int}{n:Int}(hk:VK R ts t k):VN R ts t n↔ ∃i:Nat,ts[i]?=some t/\n=((2*R+i:Nat):Int):=by
 cases t with
 | old=>exact hk.elim
 | own=>exact hk.elim
 | _=>exact Iff.rfl
theorem VN.cls{t:Tm}{n:Int}(h:VN R ts t n):(∃v:Nat,t= .old v/\n=(v:Int)/\v<R)\/(∃v:Nat,t= .own v/\n=((R+v:Nat):Int)/\v<R)\/(∃i:Nat,ts[i]?=some t/\n=((2*R+i:Nat):Int)):=by
 cases t with
 | old v=>exact .inl ⟨v,rfl,h.1,h.2⟩
 | own v=>exact .inr (.inl ⟨v,rfl,h.1,h.2⟩)
 | _=>exact .inr (.inr h)
theorem VN.uniq(hnd:ts.Nodup)(hno: ∀v,Tm.old v∉ts/\Tm.own v∉ts){t:Tm}{n m:Int}(h1:VN R ts t n)(h2:VN R ts t m):n=m:=by
 cases t with
 | old=>exact h1.1.trans h2.1.symm
 | own=>exact h1.1.trans h2.1.symm
 | _=>
  obtain⟨i,a1,a2⟩:=h1;obtain⟨j,b1,b2⟩:=h2;have:=Pq hnd a1 b1;omega
theorem VN.inj{t s:Tm}{n:Int}(h1:VN R ts t n)(h2:VN R ts s n):t=s:=by
 rcases h1.cls with⟨v,rfl,a1,a2⟩ |⟨v,rfl,a1,a2⟩ |⟨i,a1,a2⟩<;>rcases h2.cls with⟨u,rfl,b1,b2⟩ |⟨u,rfl,b1,b2⟩ |⟨j,b1,b2⟩
 . rw[show v=u by omega]
 . omega
 . omega
 . omega
 . rw[show v=u by omega]
 . omega
 . omega
 . omega
 . have:i=j:=by omega
   subst this;rw[a1]at b1;exact Option.some.inj b1
theorem VT.noreg(h:VT R ts K)(v:Nat):Tm.old v∉ts/\Tm.own v∉ts:=by
 constructor
 . intro hm;exact zt102
 . intro hm;exact zt102
theorem VT.uniq(h:VT R ts K){t:Tm}{n m:Int}(h1:VN R ts t n)(h2:VN R ts t m):n=m:=VN.uniq h.nd h.noreg h1 h2
theorem VK.uniq(h:VT R ts K): ∀{t:Tm} {k k':List Int},VK R ts t k->VK R ts t k'->k=k'
 | .cst _,_,_,h1,h2=>h1.trans h2.symm
 | .op _ _ _,_,_,⟨x,y,a1,a2,a3⟩,⟨x',y',b1,b2,b3⟩=>by rw[a3,b3,h.uniq a1 b1,h.uniq a2 b2]
 | .ld _ _,_,_,h1,h2=>h1.trans h2.symm
 | .unk _,_,_,h1,h2=>h1.trans h2.symm
theorem VK.inj: ∀{t s:Tm} {k:List Int},VK R ts t k->VK R ts s k->t=s
 | .cst n,.cst m,_,h1,h2=>by have:=h1.symm.trans h2;simp at this;rw[this]
 | .cst n,.op _ _ _,_,h1,⟨x,y,_,_,h2⟩=>by have:=h1.symm.trans h2;simp at this
 | .cst n,.ld _ _,_,h1,h2=>by have:=h1.symm.trans h2;simp at this
 | .cst n,.unk _,_,h1,h2=>by have:=h1.symm.trans h2;simp at this
 | .op _ _ _,.cst _,_,⟨x,y,_,_,h1⟩,h2=>by have:=h1.symm.trans h2;simp at this
 | .op o a b,.op o' a' b',_,⟨x,y,a1,a2,a3⟩,⟨x',y',b1,b2,b3⟩=>by
  have e:=a3.symm.trans b3;simp only[List.cons.injEq,true_and,and_true]at e;obtain⟨e1,e2,e3⟩:=e;subst e2;subst e3;rw[e1,VN.inj a1 b1,VN.inj a2 b2]
 | .op _ _ _,.ld _ _,_,⟨x,y,_,_,h1⟩,h2=>by have:=h1.symm.trans h2;simp at this
 | .op _ _ _,.unk _,_,⟨x,y,_,_,h1⟩,h2=>by have:=h1.symm.trans h2;simp at this
 | .ld _ _,.cst _,_,h1,h2=>by have:=h1.symm.trans h2;simp at this
 | .ld _ _,.op _ _ _,_,h1,⟨x,y,_,_,h2⟩=>by have:=h1.symm.trans h2;simp at this
 | .ld b τ,.ld b' τ',_,h1,h2=>by have:=h1.symm.trans h2;simp at this;rw[this.1,this.2]
 | .ld _ _,.unk _,_,h1,h2=>by have:=h1.symm.trans h2;simp at this
 | .unk _,.cst _,_,h1,h2=>by have:=h1.symm.trans h2;simp at this
 | .unk _,.op _ _ _,_,h1,⟨x,y,_,_,h2⟩=>by have:=h1.symm.trans h2;simp at this
 | .unk _,.ld _ _,_,h1,h2=>by have:=h1.symm.trans h2;simp at this
 | .unk n,.unk m,_,h1,h2=>by
  have:=h1.symm.trans h2;simp only[List.cons.injEq,true_and,and_true]at this;rw[show n=m by omega]
theorem PB{k:List Int}: ∀{K:List (List Int)},kidx k K=none->k∉K
 | [],_=>by simp
 | x::r,h=>by
  unfold kidx at h
  cases hx:k==x with
  | true=>rw[hx]at h;cases h
  | false=>
   rw[hx]at h;have h':kidx k r=none:=by simpa using h
   have:=PB h';simp only[List.mem_cons,not_or];exact⟨by simpa using hx,this⟩
theorem VT.num(h:VT R ts K){t:Tm}{k:List Int}(hk:VK R ts t k)(hw: ∀n,t= .cst n->Gc n): ∃ts',ts<+:ts'/\VT R ts' (EZ ((2*R:Nat):Int) K k).2/\VN R ts' t (EZ ((2*R:Nat):Int) K k).1:=by
 cases e:kidx k K with
 | some i=>
  rw[YU e];obtain⟨h1,h2⟩:=QY e;obtain⟨s,hs⟩:=Ae (l:=ts) (k:=i) (by rw[<-h.len];exact h1);have:=VK.inj (h.key i s k hs h2) hk;subst this;exact⟨ts,List.prefix_rfl,h,(cg hk).2 ⟨i,hs,by push_cast;omega⟩⟩
 | none=>
  rw[YV e];have hni:=PB e;have hnt:t∉ts:=fun hm=>by
   obtain⟨i,hi⟩:=List.mem_iff_getElem?.1 hm;obtain⟨k',hk'⟩:=Ae (l:=K) (k:=i) (by rw[h.len];exact(List.getElem?_eq_some_iff.1 hi).1);have:=VK.uniq h (h.key i t k' hi hk') hk;subst this;exact hni (List.mem_of_getElem? hk')
  have hp:ts<+:ts++[t]:=List.prefix_append _ _;refine⟨ts++[t],hp,⟨?_,?_,fun i s k' hs hk'=>?_,fun n hn=>?_⟩,?_⟩
  . rw[List.nodup_append];exact⟨h.nd,by simp,fun a ha b hb=>by simp at hb;subst hb;exact fun e=>hnt (e▸ha)⟩
  . simp[h.len]
  . rw[List.getElem?_append]at hs hk';exact zt51
  . simp only[List.mem_append,List.mem_singleton]at hn;rcases hn with hn | hn
    . exact h.word n hn
    . exact hw n hn.symm
  . exact(cg (hk.ext hp)).2 ⟨ts.length,by simp,by rw[h.len];push_cast;omega⟩
theorem VT.cst(h:VT R ts K){t:Tm}{n:Int}(hn:VN R ts t n):(∃c,t= .cst c/\Gc c/\BV ((2*R:Nat):Int) K n=(c,true))\/((∀c,t≠ .cst c)/\(BV ((2*R:Nat):Int) K n).2=false):=by
 rcases hn.cls with⟨v,rfl,a1,a2⟩ |⟨v,rfl,a1,a2⟩ |⟨i,a1,a2⟩
 . exact .inr ⟨fun c=>by simp,by rw[Mv (by simp;omega)]⟩
 . exact .inr ⟨fun c=>by simp,by rw[Mv (by simp;omega)]⟩
 . obtain⟨k,hk⟩:=Ae (l:=K) (k:=i) (by rw[h.len];exact(List.getElem?_eq_some_iff.1 a1).1);have hkey:=h.key i t k a1 hk;have hv:BV ((2*R:Nat):Int) K n=(IntKind.u32.wrap (rget k 1),rget k 0==1):=by
    unfold BV;rw[show decide (n<((2*R:Nat):Int))=false by simp;omega,show(n-((2*R:Nat):Int)).toNat=i by omega,hk];rfl
   rw[hv]
   cases t with
   | old=>exact hkey.elim
   | own=>exact hkey.elim
   | cst c=>
    have hc:=h.word c (List.mem_of_getElem? a1);have hk':k=[1,c,0,0]:=hkey;subst hk';refine .inl ⟨c,rfl,hc,?_⟩;show(IntKind.u32.wrap c,true)=_;rw[IntKind.wrap_u32];obtain⟨h1,h2⟩:=hc;congr 1;omega
   | op o a b=>
    obtain⟨x,y,_,_,rfl⟩:=hkey;exact .inr ⟨fun c=>by simp,rfl⟩
   | ld b τ=>
    have hk':k=[3,b,τ,0]:=hkey;subst hk';exact .inr ⟨fun c=>by simp,rfl⟩
   | unk m=>
    have hk':k=[4,(m:Int)+1,0,0]:=hkey;subst hk';exact .inr ⟨fun c=>by simp,rfl⟩
end
def VO(R:Nat)(ts:List Tm):Option Tm->Int->Prop
  | none,n=>n=0
  | some t,n=>VN R ts t n
def VE(R:Nat)(ts:List Tm)(e:SE)(k:List Int):Prop:=∃x y,VO R ts e.a x/\VO R ts e.b y/\k=bif e.risk then [1,e.k,x,y,0,0]else [2,e.op,e.base,e.size,x,y]
structure VS(R:Nat)(ts:List Tm)(w:VW)(s:SS):Prop where
  t:VT R ts w.K
  regs:All2 (VN R ts) s.regs w.vals
  effs:All2 (VE R ts) s.effs w.effs
  time:w.time=s.time
section
variable {R : Nat} {ts ts' : List Tm}
theorem VO.ext(hp:ts<+:ts'): ∀{t:Option Tm} {n:Int},VO R ts t n->VO R ts' t n
 | none,_,h=>h
 | some _,_,h=>VN.ext hp h
theorem VE.ext(hp:ts<+:ts'){e:SE}{k:List Int}:VE R ts e k->VE R ts' e k:=fun⟨x,y,h1,h2,h3⟩=>⟨x,y,h1.ext hp,h2.ext hp,h3⟩
theorem VS.at{w:VW}{s:SS}(h:VS R ts w s){z:Int}(hz:0<=z/\z<s.regs.length):VN R ts (tget s.regs z) (rget w.vals z):=by
 have hl:=h.regs.len;obtain⟨x,hx⟩:=Ae (l:=s.regs) (k:=z.toNat) (by omega);obtain⟨y,hy⟩:=Ae (l:=w.vals) (k:=z.toNat) (by omega);unfold tget rget;rw[hx,hy];exact h.regs.get hx hy
theorem VS.put{w:VW}{s:SS}(h:VS R ts w s)(z:Int){t:Tm}{k:List Int}(hk:VK R ts t k)(hw: ∀n,t= .cst n->Gc n): ∃ts',ts<+:ts'/\VS R ts' (w.put z (EZ ((2*R:Nat):Int) w.K k)) (s.put z t):=by
 obtain⟨ts',hp,h1,h2⟩:=h.t.num hk hw;exact⟨ts',hp,h1,(h.regs.mono fun x y hxy=>hxy.ext hp).set h2 _,h.effs.mono fun x y hxy=>hxy.ext hp,h.time⟩
theorem VS.eff{w:VW}{s:SS}(h:VS R ts w s){e:SE}{k:List Int}(he:VE R ts e k):VS R ts {w with effs:=w.effs++[k]} (s.eff e):=⟨h.t,h.regs,h.effs.snoc he,h.time⟩
theorem VS.tick{w:VW}{s:SS}(h:VS R ts w s):VS R ts w.tick s.tick:=⟨h.t,h.regs,h.effs,by show w.time+1=s.time+1;rw[h.time]⟩
theorem VS.get{w:VW}{s:SS}(h:VS R ts w s)(t:Tac){e:SE}{a:Int}(he:VE R ts e [2,t.op,t.base,t.size,a,0]): ∃ts',ts<+:ts'/\VS R ts' ((w.hap t a 0).put t.d (YT ((2*R:Nat):Int) (w.hap t a 0))) (s.get t e):=by
 have h1:VS R ts (w.hap t a 0) (s.eff e):=h.eff he;have hlen:(w.hap t a 0).effs.length=s.effs.length+1:=by
  have:=h.effs.len;show(w.effs++[_]).length=_;simp[this]
 refine h1.put t.d (t:=.unk s.effs.length) (k:=[4,((w.hap t a 0).effs.length:Int),0,0]) ?_ (fun n e=>by cases e);show _=_;rw[hlen];push_cast;rfl
theorem VS.risky{w:VW}{s:SS}(h:VS R ts w s){t:Tac}(hb:0<=t.b/\t.b<s.regs.length):Mu ((2*R:Nat):Int) w t=trisky t.k (tget s.regs t.b):=by
 unfold Mu trisky;congr 1;exact jl
theorem YS{k x y:Int}(hk:4<=k/\k<=15):((DP k x y).2==0)= !(((k==7||k==8))&&y==0):=by
 unfold DP;have h:k=4\/k=5\/k=6\/k=7\/k=8\/k=9\/k=10\/k=11\/k=12\/k=13\/k=14\/k=15:=by omega
 rcases h with rfl | rfl | rfl | rfl | rfl | rfl | rfl | rfl | rfl | rfl | rfl | rfl<;>first | rfl |(simp only[wdivide];cases y==0<;>rfl)
theorem VS.apply{w:VW}{s:SS}(h:VS R ts w s){t:Tac}(hk:4<=t.k/\t.k<=15)(ha:0<=t.a/\t.a<s.regs.length)(hb:0<=t.b/\t.b<s.regs.length):
 ∃k,Dx ((2*R:Nat):Int) w.K t.k (rget w.vals t.a) (rget w.vals t.b)=EZ ((2*R:Nat):Int) w.K k/\VK R ts (HM t.k (tget s.regs t.a) (tget s.regs t.b)) k/\∀n,HM t.k (tget s.regs t.a) (tget s.regs t.b)= .cst n->Gc n:=by
 have hna:=h.at ha;have hnb:=h.at hb;have hop: ∀x y:Tm,VN R ts x (rget w.vals t.a)->VN R ts y (rget w.vals t.b)->VK R ts (.op t.k x y) [2,t.k,rget w.vals t.a,rget w.vals t.b]:=fun x y h1 h2=>⟨_,_,h1,h2,rfl⟩
 rcases h.t.cst hna with⟨c,h1,h2,h3⟩ |⟨h1,h2⟩
 . rcases h.t.cst hnb with⟨d,g1,g2,g3⟩ |⟨g1,g2⟩
   . rw[h1]at hna |-;rw[g1]at hnb |-;have herr:=YS (k:=t.k) (x:=c) (y:=d) hk
     cases hr:trisky t.k (.cst d)with
     | true=>
      have hr':((t.k==7||t.k==8)&&d==0)=true:=hr;refine⟨_,WQ (by rw[h3,g3,herr,hr'];rfl),?_,?_⟩
      . simp only[HM,hr,cond_true];exact hop _ _ hna hnb
      . simp only[HM,hr,cond_true];intro n e;cases e
     | false=>
      have hr':((t.k==7||t.k==8)&&d==0)=false:=hr;refine⟨_,YW (by rw[h3]) (by rw[g3]) (by rw[h3,g3,herr,hr'];rfl),?_,?_⟩
      . simp only[HM,hr,cond_false];rw[h3,g3];rfl
      . simp only[HM,hr,cond_false];intro n e
        cases e
        exact wapp_word h2 g2
   . refine⟨_,WR g2,?_,?_⟩
     . cases e2:tget s.regs t.b with
       | cst d=>exact absurd e2 (g1 d)
       | _=>rw[h1]at hna |-;rw[e2]at hnb;exact hop _ _ hna hnb
     . intro n e
       cases e2:tget s.regs t.b with
       | cst d=>exact absurd e2 (g1 d)
       | _=>rw[h1,e2]at e;cases e
 . refine⟨_,WT h2,?_,?_⟩
   . cases e1:tget s.regs t.a with
     | cst d=>exact absurd e1 (h1 d)
     | _=>rw[e1]at hna;exact hop _ _ hna hnb
   . intro n e
     cases e1:tget s.regs t.a with
     | cst d=>exact absurd e1 (h1 d)
     | _=>rw[e1]at e;cases e
theorem VS.step{w:VW}{s:SS}(h:VS R ts w s){t:Tac}(ht:nP t R)(hl:s.regs.length=R): ∃ts',ts<+:ts'/\VS R ts' (w.step ((2*R:Nat):Int) t) (s.step t):=by
 have hd:setsOp t.op=true->0<=t.d/\t.d<s.regs.length:=fun e=>by rw[hl];exact ht.d e
 have ha:use1 t.op=true\/use2 t.op=true->0<=t.a/\t.a<s.regs.length:=fun e=>by rw[hl];exact ht.a e
 have hb:use2 t.op=true->0<=t.b/\t.b<s.regs.length:=fun e=>by rw[hl];exact ht.b e
 have hw:=ht.want;have h10:t.op=1\/t.op=2\/t.op=3\/t.op=4\/t.op=5\/t.op=6\/t.op=7\/t.op=8\/t.op=9\/t.op=10:=by have:=ht.op;omega
 have hsz:G2 t.op=false->t.size=0:=fun e=>by have:=congrArg Tac.size hw;simp only[Tac.want,e,cond_false]at this;exact this
 have hbs:(baseOp t.op||(G2 t.op||t.op==10))=false->t.base=0:=fun e=>by have:=congrArg Tac.base hw;simp only[Tac.want,e,cond_false]at this;exact this
 rcases h10 with ho | ho | ho | ho | ho | ho | ho | ho | ho | ho
 . rw[gN ho,show s.step t=s.put t.d (.cst t.n) by unfold SS.step;rw[ho];rfl];exact h.put t.d rfl (fun n e=>by cases e;exact ht.n)
 . rw[gM ho,show s.step t=s.put t.d (tget s.regs t.a) by unfold SS.step;rw[ho];rfl];exact⟨ts,List.prefix_rfl,h.t,h.regs.set (h.at (ha (.inl (by rw[ho];rfl)))) _,h.effs,h.time⟩
 . rw[gL ho,show s.step t=s.bin t by unfold SS.step;rw[ho];rfl];have ha':=ha (.inr (by rw[ho];rfl));have hb':=hb (by rw[ho];rfl);obtain⟨k,hk1,hk2,hk3⟩:=h.apply (ht.k ho) ha' hb';have hr:=h.risky hb';have h1:VS R ts (w.div ((2*R:Nat):Int) t) (s.div t):=by
    unfold VW.div SS.div;rw[hr]
    cases trisky t.k (tget s.regs t.b)with
    | true=>exact h.eff ⟨_,_,h.at ha',h.at hb',rfl⟩
    | false=>exact h
   unfold VW.bin SS.bin;rw[hk1];have:=h1.put t.d hk2 hk3;rwa[bz]at this
 . rw[gJ ho,show s.step t=s.put t.d (.ld t.base s.time) by unfold SS.step;rw[ho];rfl];exact h.put t.d (by show _=_;rw[h.time]) (fun n e=>by cases e)
 . rw[gI ho,show s.step t=(s.eff ⟨false,5,0,t.base,0,some (tget s.regs t.a),none⟩).tick by unfold SS.step;rw[ho];rfl];refine⟨ts,List.prefix_rfl,VS.tick (h.eff ⟨_,_,h.at (ha (.inl (by rw[ho];rfl))),rfl,?_⟩)⟩;rw[ho,hsz (by rw[ho];rfl)];rfl
 . rw[gH ho,show s.step t=s.get t ⟨false,6,0,t.base,t.size,some (tget s.regs t.a),none⟩ by unfold SS.step;rw[ho];rfl];refine h.get t ⟨_,_,h.at (ha (.inl (by rw[ho];rfl))),rfl,?_⟩;rw[ho];rfl
 . rw[gG ho,show s.step t=(s.eff ⟨false,7,0,t.base,t.size,some (tget s.regs t.a),some (tget s.regs t.b)⟩).tick by unfold SS.step;rw[ho];rfl];refine⟨ts,List.prefix_rfl,VS.tick (h.eff ⟨_,_,h.at (ha (.inr (by rw[ho];rfl))),h.at (hb (by rw[ho];rfl)),?_⟩)⟩;rw[ho];rfl
 . rw[gF ho,show s.step t=s.get t ⟨false,8,0,0,0,none,none⟩ by unfold SS.step;rw[ho];rfl];refine h.get t ⟨_,_,rfl,rfl,?_⟩;rw[ho,hsz (by rw[ho];rfl),hbs (by rw[ho];rfl)];rfl
 . rw[gE ho,show s.step t=s.eff ⟨false,9,0,0,0,some (tget s.regs t.a),none⟩ by unfold SS.step;rw[ho];rfl];refine⟨ts,List.prefix_rfl,h.eff ⟨_,_,h.at (ha (.inl (by rw[ho];rfl))),rfl,?_⟩⟩;rw[ho,hsz (by rw[ho];rfl),hbs (by rw[ho];rfl)];rfl
 . rw[cS ho,show s.step t=(s.eff ⟨false,10,0,t.base,0,none,none⟩).tick by unfold SS.step;rw[ho];rfl];refine⟨ts,List.prefix_rfl,VS.tick (h.eff ⟨_,_,rfl,rfl,?_⟩)⟩;rw[ho,hsz (by rw[ho];rfl)];rfl
end
def Qq(R:Nat):List Tm:=(List.range R).map Tm.old
def Qt(regs:List Tm)(l:List Tac):SS:=l.foldl SS.step ⟨regs,[],0⟩
theorem All2.map{α β γ:Type}{r:β->γ->Prop}{f:α->β}{g:α->γ}: ∀{l:List α},(∀x∈l,r (f x) (g x))->All2 r (l.map f) (l.map g)
 | [],_=>trivial
 | x::l,h=>⟨h x (by simp),All2.map fun y hy=>h y (by simp[hy])⟩
section
variable {R : Nat} {ts : List Tm}
theorem VE.uniq{K:List (List Int)}(hK:VT R ts K){e:SE}{k k':List Int}(h1:VE R ts e k)(h2:VE R ts e k'):k=k':=by
 obtain⟨x,y,a1,a2,a3⟩:=h1;obtain⟨x',y',b1,b2,b3⟩:=h2;have hu: ∀{o:Option Tm} {n m:Int},VO R ts o n->VO R ts o m->n=m:=fun {o n m} g1 g2=>by
  cases o with
  | none=>exact g1.trans g2.symm
  | some t=>exact hK.uniq g1 g2
 rw[a3,b3,hu a1 b1,hu a2 b2]
theorem VE.inj{e e':SE}{k:List Int}(hw:e.wf)(hw':e'.wf)(h1:VE R ts e k)(h2:VE R ts e' k):e=e':=by
 obtain⟨x,y,a1,a2,a3⟩:=h1;obtain⟨x',y',b1,b2,b3⟩:=h2;have hso: ∀{o o':Option Tm} {n:Int},o.isSome->o'.isSome->VO R ts o n->VO R ts o' n->o=o':=fun {o o' n} g1 g2 g3 g4=>by
  cases o with
  | none=>cases g1
  | some t=>cases o' with
   | none=>cases g2
   | some s=>rw[VN.inj (R:=R) (ts:=ts) g3 g4]
 obtain⟨r,o,k1,ba,si,oa,ob⟩:=e;obtain⟨r',o',k1',ba',si',oa',ob'⟩:=e';have h3:=a3.symm.trans b3;rcases hw with⟨w1,w2,w3,w4,w5,w6⟩ |⟨w1,w0,w2⟩<;>rcases hw' with⟨v1,v2,v3,v4,v5,v6⟩ |⟨v1,v0,v2⟩<;>simp only at*
 . subst w1;subst v1;subst w2;subst v2;subst w3;subst v3;subst w4;subst v4;simp only[cond_true,List.cons.injEq,true_and,and_true]at h3;obtain⟨e1,e2,e3⟩:=h3;subst e1;subst e2;subst e3;rw[hso w5 v5 a1 b1,hso w6 v6 a2 b2]
 . subst w1;subst v1;simp at h3
 . subst w1;subst v1;simp at h3
 . subst w1;subst v1;subst w0;subst v0;simp only[cond_false,List.cons.injEq,true_and,and_true]at h3;obtain⟨e1,e2,e3,e4,e5⟩:=h3;subst e1;subst e2;subst e3;subst e4;subst e5;have hfin:oa=oa'->ob=ob'->(⟨false,o,0,ba,si,oa,ob⟩:SE)=⟨false,o,0,ba,si,oa',ob'⟩:=fun q1 q2=>by rw[q1,q2]
   rcases w2 with⟨u1,u2,u3,u4⟩ |⟨u1,u3,u4⟩ |⟨u1,u3,u4⟩ |⟨u1,u2,u5,u3,u4⟩ |⟨u1,u2,u5,u3,u4⟩ |⟨u1,u2,u3,u4⟩<;>
    rcases v2 with⟨q1,q2,q3,q4⟩ |⟨q1,q3,q4⟩ |⟨q1,q3,q4⟩ |⟨q1,q2,q5,q3,q4⟩ |⟨q1,q2,q5,q3,q4⟩ |⟨q1,q2,q3,q4⟩<;>first
     |(exfalso;omega)
     | exact hfin (hso u3 q3 a1 b1) (u4.trans q4.symm)
     | exact hfin (hso u3 q3 a1 b1) (hso u4 q4 a2 b2)
     | exact hfin (u3.trans q3.symm) (u4.trans q4.symm)
end
theorem All2.at{α β:Type}{r:α->β->Prop}{l:List α}{m:List β}(h:All2 r l m){i:Nat}(hi:i<l.length): ∃x y,l[i]?=some x/\m[i]?=some y/\r x y:=by
 obtain⟨x,hx⟩:=Ae hi;obtain⟨y,hy⟩:=Ae (l:=m) (k:=i) (by rw[<-h.len];exact hi);exact⟨x,y,hx,hy,h.get hx hy⟩
def RN(ts:List Tm)(t:Tm)(n:Int):Prop:=∃i:Nat,ts[i]?=some t/\n=(i:Int)
def RK(ts:List Tm):Tm->RVal->Prop
  | .cst n,k=>k=⟨1,0,0,0,0,0,0,0,n⟩
  | .op o a b,k=>∃x y,RN ts a x/\RN ts b y/\k=⟨3,o,x,y,0,0,0,0,0⟩
  | .ld b τ,k=>k=⟨4,0,0,0,0,0,b,τ,0⟩
  | .unk n,k=>k=MN n
  | .old v,k=>k=RVal.reg v 0
  | .own v,k=>k=RVal.reg v 1
structure RT(ts:List Tm)(K:List RVal):Prop where
  nd:ts.Nodup
  len:K.length=ts.length
  key: ∀(i:Nat) (t:Tm) (k:RVal),ts[i]?=some t->K[i]?=some k->RK ts t k
  word: ∀(n:Int),Tm.cst n∈ts->Gc n
section
variable {ts ts' : List Tm} {K : List RVal}
theorem RN.ext(hp:ts<+:ts'){t:Tm}{n:Int}:RN ts t n->RN ts' t n:=fun⟨i,h1,h2⟩=>⟨i,JY hp h1,h2⟩
theorem RK.ext(hp:ts<+:ts'): ∀{t:Tm} {k:RVal},RK ts t k->RK ts' t k
 | .cst _,_,h=>h
 | .op _ _ _,_,⟨x,y,h1,h2,h3⟩=>⟨x,y,h1.ext hp,h2.ext hp,h3⟩
 | .ld _ _,_,h=>h
 | .unk _,_,h=>h
 | .old _,_,h=>h
 | .own _,_,h=>h
theorem RN.uniq(hnd:ts.Nodup){t:Tm}{n m:Int}(h1:RN ts t n)(h2:RN ts t m):n=m:=by
 obtain⟨i,a1,a2⟩:=h1;obtain⟨j,b1,b2⟩:=h2;have:=Pq hnd a1 b1;omega
theorem RN.inj{t s:Tm}{n:Int}(h1:RN ts t n)(h2:RN ts s n):t=s:=by
 obtain⟨i,a1,a2⟩:=h1;obtain⟨j,b1,b2⟩:=h2;have:i=j:=by omega
 subst this;rw[a1]at b1;exact Option.some.inj b1
theorem RK.uniq(h:ts.Nodup): ∀{t:Tm} {k k':RVal},RK ts t k->RK ts t k'->k=k'
 | .cst _,_,_,h1,h2=>h1.trans h2.symm
 | .op _ _ _,_,_,⟨x,y,a1,a2,a3⟩,⟨x',y',b1,b2,b3⟩=>by rw[a3,b3,RN.uniq h a1 b1,RN.uniq h a2 b2]
 | .ld _ _,_,_,h1,h2=>h1.trans h2.symm
 | .unk _,_,_,h1,h2=>h1.trans h2.symm
 | .old _,_,_,h1,h2=>h1.trans h2.symm
 | .own _,_,_,h1,h2=>h1.trans h2.symm
def Vo:Tm->Int
  | .cst _=>1
  | .op _ _ _=>3
  | .ld _ _=>4
  | .unk _=>2
  | .old _=>2
  | .own _=>2
def Vm:Tm->Int
  | .unk _=>2
  | .own _=>1
  | _=>0
theorem RK.kind{t:Tm}{k:RVal}(h:RK ts t k):k.kind=Vo t/\k.side=Vm t:=by
 cases t with
 | op o a b=>obtain⟨x,y,_,_,rfl⟩:=h;exact⟨rfl,rfl⟩
 | _=>have h':k=_:=h;subst h';exact⟨rfl,rfl⟩
theorem RK.inj{t s:Tm}{k:RVal}(h1:RK ts t k)(h2:RK ts s k):t=s:=by
 have e1:=h1.kind;have e2:=h2.kind;have ek:Vo t=Vo s:=e1.1.symm.trans e2.1;have es:Vm t=Vm s:=e1.2.symm.trans e2.2
 cases t<;>cases s<;>first |(exfalso;revert ek;simp only[Vo];decide) |(exfalso;revert es;simp only[Vm];decide) | skip
 . have e:RVal.reg _ 0=RVal.reg _ 0:=(show k=_ from h1).symm.trans h2;simp only[RVal.reg,RVal.mk.injEq,true_and,and_true]at e;exact congrArg Tm.old (Int.ofNat_inj.1 e)
 . have e:RVal.reg _ 1=RVal.reg _ 1:=(show k=_ from h1).symm.trans h2;simp only[RVal.reg,RVal.mk.injEq,true_and,and_true]at e;exact congrArg Tm.own (Int.ofNat_inj.1 e)
 . have e:=(show k=_ from h1).symm.trans h2;simp only[RVal.mk.injEq,true_and,and_true]at e;rw[e]
 . obtain⟨x,y,a1,a2,a3⟩:=h1;obtain⟨x',y',b1,b2,b3⟩:=h2;have e:=a3.symm.trans b3;simp only[RVal.mk.injEq,true_and,and_true]at e;obtain⟨q1,q2,q3⟩:=e;subst q2;subst q3;rw[q1,RN.inj a1 b1,RN.inj a2 b2]
 . have e:=(show k=_ from h1).symm.trans h2;simp only[RVal.mk.injEq,true_and,and_true]at e;rw[e.1,e.2]
 . have e:MN _=MN _:=(show k=_ from h1).symm.trans h2;simp only[MN,RVal.mk.injEq,true_and,and_true]at e;exact congrArg Tm.unk (Int.ofNat_inj.1 e)
theorem VH{v:RVal}: ∀{L:List RVal},ridx v L=none->v∉L
 | [],_=>by simp
 | x::r,h=>by
  unfold ridx at h
  cases hx:x.same v with
  | true=>rw[hx]at h;cases h
  | false=>
   rw[hx]at h;have h':ridx v r=none:=by simpa using h
   have:=VH h';simp only[List.mem_cons,not_or];refine⟨fun e=>?_,this⟩;subst e;rw[(RVal.same_iff v v).2 rfl]at hx;cases hx
theorem RT.num(h:RT ts K){t:Tm}{k:RVal}(hk:RK ts t k)(hw: ∀n,t= .cst n->Gc n): ∃ts',ts<+:ts'/\RT ts' (FN K k).2/\RN ts' t (FN K k).1:=by
 cases e:ridx k K with
 | some i=>
  rw[MX e];obtain⟨h1,h2⟩:=QB e;obtain⟨s,hs⟩:=Ae (l:=ts) (k:=i) (by rw[<-h.len];exact h1);have:=RK.inj (h.key i s k hs h2) hk;subst this;exact⟨ts,List.prefix_rfl,h,i,hs,rfl⟩
 | none=>
  rw[MY e];have hni:=VH e;have hnt:t∉ts:=fun hm=>by
   obtain⟨i,hi⟩:=List.mem_iff_getElem?.1 hm;obtain⟨k',hk'⟩:=Ae (l:=K) (k:=i) (by rw[h.len];exact(List.getElem?_eq_some_iff.1 hi).1);have:=RK.uniq h.nd (h.key i t k' hi hk') hk;subst this;exact hni (List.mem_of_getElem? hk')
  have hp:ts<+:ts++[t]:=List.prefix_append _ _;refine⟨ts++[t],hp,⟨?_,?_,fun i s k' hs hk'=>?_,fun n hn=>?_⟩,?_⟩
  . rw[List.nodup_append];exact⟨h.nd,by simp,fun a ha b hb=>by simp at hb;subst hb;exact fun e=>hnt (e▸ha)⟩
  . simp[h.len]
  . rw[List.getElem?_append]at hs hk';exact zt51
  . simp only[List.mem_append,List.mem_singleton]at hn;rcases hn with hn | hn
    . exact h.word n hn
    . exact hw n hn.symm
  . exact⟨ts.length,by simp,by rw[h.len]⟩
theorem RT.cst(h:RT ts K){t:Tm}{n:Int}(hn:RN ts t n):(∃c,t= .cst c/\Gc c/\Fd K n=(c,true))\/((∀c,t≠ .cst c)/\(Fd K n).2=false):=by
 obtain⟨i,a1,a2⟩:=hn;obtain⟨k,hk⟩:=Ae (l:=K) (k:=i) (by rw[h.len];exact(List.getElem?_eq_some_iff.1 a1).1);have hkey:=h.key i t k a1 hk;have hv:Fd K n=(k.n,k.kind==1):=by
  unfold Fd Zh;rw[show n.toNat=i by omega,hk];rfl
 rw[hv]
 by_cases hc: ∃c,t= .cst c
 . obtain⟨c,rfl⟩:=hc;have hk':k=⟨1,0,0,0,0,0,0,0,c⟩:=hkey;subst hk';exact .inl ⟨c,rfl,h.word c (List.mem_of_getElem? a1),rfl⟩
 . refine .inr ⟨fun c e=>hc ⟨c,e⟩,?_⟩;rw[hkey.kind.1]
   cases t<;>first | rfl | exact absurd ⟨_,rfl⟩ hc
end
def RO(ts:List Tm):Option Tm->Int->Prop
  | none,n=>n=0
  | some t,n=>RN ts t n
def RE(ts:List Tm)(e:SE)(k:REff):Prop:=∃x y,RO ts e.a x/\RO ts e.b y/\k=⟨e.op,e.k,e.base,e.size,x,y⟩
structure RS(ts:List Tm)(w:RW)(s:SS):Prop where
  t:RT ts w.L
  regs:All2 (RN ts) s.regs w.regs
  effs:All2 (RE ts) s.effs w.out
  time:w.time=s.time
section
variable {R : Nat} {ts ts' : List Tm}
theorem RO.ext(hp:ts<+:ts'): ∀{t:Option Tm} {n:Int},RO ts t n->RO ts' t n
 | none,_,h=>h
 | some _,_,h=>RN.ext hp h
theorem RE.ext(hp:ts<+:ts'){e:SE}{k:REff}:RE ts e k->RE ts' e k:=fun⟨x,y,h1,h2,h3⟩=>⟨x,y,h1.ext hp,h2.ext hp,h3⟩
theorem RS.at{w:RW}{s:SS}(h:RS ts w s){z:Int}(hz:0<=z/\z<s.regs.length):RN ts (tget s.regs z) (rget w.regs z):=by
 have hl:=h.regs.len;obtain⟨x,hx⟩:=Ae (l:=s.regs) (k:=z.toNat) (by omega);obtain⟨y,hy⟩:=Ae (l:=w.regs) (k:=z.toNat) (by omega);unfold tget rget;rw[hx,hy];exact h.regs.get hx hy
theorem RS.put{w:RW}{s:SS}(h:RS ts w s)(z:Int){t:Tm}{k:RVal}(hk:RK ts t k)(hw: ∀n,t= .cst n->Gc n): ∃ts',ts<+:ts'/\RS ts' (w.put z (FN w.L k)) (s.put z t):=by
 obtain⟨ts',hp,h1,h2⟩:=h.t.num hk hw;exact⟨ts',hp,h1,(h.regs.mono fun x y hxy=>hxy.ext hp).set h2 _,h.effs.mono fun x y hxy=>hxy.ext hp,h.time⟩
theorem RS.eff{w:RW}{s:SS}(h:RS ts w s){e:SE}{k:REff}(he:RE ts e k):RS ts (w.eff k) (s.eff e):=⟨h.t,h.regs,h.effs.snoc he,h.time⟩
theorem RS.tick{w:RW}{s:SS}(h:RS ts w s):RS ts w.tick s.tick:=⟨h.t,h.regs,h.effs,by show w.time+1=s.time+1;rw[h.time]⟩
theorem RS.get{w:RW}{s:SS}(h:RS ts w s)(t:Tac){e:SE}{k:REff}(he:RE ts e k): ∃ts',ts<+:ts'/\RS ts' (w.get t k) (s.get t e):=by
 have h1:RS ts (w.eff k) (s.eff e):=h.eff he;have:=h1.put t.d (t:=.unk s.effs.length) (k:=MN w.out.length) (by show _=_;rw[h.effs.len]) (fun n e=>by cases e);exact this
theorem RS.risky{w:RW}{s:SS}(h:RS ts w s){t:Tac}(hb:0<=t.b/\t.b<s.regs.length):KJ w t=trisky t.k (tget s.regs t.b):=by
 unfold KJ trisky;congr 1;exact jl
theorem RS.apply{w:RW}{s:SS}(h:RS ts w s){t:Tac}(ha:0<=t.a/\t.a<s.regs.length)(hb:0<=t.b/\t.b<s.regs.length):
 RK ts (HM t.k (tget s.regs t.a) (tget s.regs t.b)) (Gi w t)/\∀n,HM t.k (tget s.regs t.a) (tget s.regs t.b)= .cst n->Gc n:=by
 have hna:=h.at ha;have hnb:=h.at hb;have hr:=h.risky hb;have hop: ∀x y:Tm,RN ts x (rget w.regs t.a)->RN ts y (rget w.regs t.b)->RK ts (.op t.k x y) ⟨3,t.k,rget w.regs t.a,rget w.regs t.b,0,0,0,0,0⟩:=fun x y h1 h2=>⟨_,_,h1,h2,rfl⟩
 rcases h.t.cst hna with⟨c,h1,h2,h3⟩ |⟨h1,h2⟩
 . rcases h.t.cst hnb with⟨d,g1,g2,g3⟩ |⟨g1,g2⟩
   . rw[g1]at hr;rw[h1]at hna |-;rw[g1]at hnb |-
     cases hk:trisky t.k (.cst d)with
     | true=>
      rw[hk]at hr;rw[KO (by unfold Lw;rw[hr];simp)];simp only[HM,hk,cond_true];exact⟨hop _ _ hna hnb,fun n e=>by cases e⟩
     | false=>
      rw[hk]at hr;rw[Xh (by unfold Lw;rw[hr,h3,g3];rfl),h3,g3];simp only[HM,hk,cond_false];exact⟨rfl,fun n e=>by cases e;exact wapp_word h2 g2⟩
   . rw[KO (by unfold Lw;rw[g2];simp)];rw[h1]at hna |-
     cases e2:tget s.regs t.b with
     | cst d=>exact absurd e2 (g1 d)
     | _=>rw[e2]at hnb;exact⟨hop _ _ hna hnb,fun n e=>by cases e⟩
 . rw[KO (by unfold Lw;rw[h2];rfl)]
   cases e1:tget s.regs t.a with
   | cst d=>exact absurd e1 (h1 d)
   | _=>rw[e1]at hna;exact⟨hop _ _ hna hnb,fun n e=>by cases e⟩
theorem RS.step{w:RW}{s:SS}(h:RS ts w s){t:Tac}(ht:nP t R)(hl:s.regs.length=R): ∃ts',ts<+:ts'/\RS ts' (w.step t) (s.step t):=by
 have ha:use1 t.op=true\/use2 t.op=true->0<=t.a/\t.a<s.regs.length:=fun e=>by rw[hl];exact ht.a e
 have hb:use2 t.op=true->0<=t.b/\t.b<s.regs.length:=fun e=>by rw[hl];exact ht.b e
 have h10:t.op=1\/t.op=2\/t.op=3\/t.op=4\/t.op=5\/t.op=6\/t.op=7\/t.op=8\/t.op=9\/t.op=10:=by have:=ht.op;omega
 rcases h10 with ho | ho | ho | ho | ho | ho | ho | ho | ho | ho
 . rw[ic ho,show s.step t=s.put t.d (.cst t.n) by unfold SS.step;rw[ho];rfl];exact h.put t.d rfl (fun n e=>by cases e;exact ht.n)
 . rw[ib ho,show s.step t=s.put t.d (tget s.regs t.a) by unfold SS.step;rw[ho];rfl];exact⟨ts,List.prefix_rfl,h.t,h.regs.set (h.at (ha (.inl (by rw[ho];rfl)))) _,h.effs,h.time⟩
 . rw[ia ho,show s.step t=s.bin t by unfold SS.step;rw[ho];rfl];have ha':=ha (.inr (by rw[ho];rfl));have hb':=hb (by rw[ho];rfl);obtain⟨hk2,hk3⟩:=h.apply ha' hb';have hr:=h.risky hb';have h1:RS ts (w.div t) (s.div t):=by
    unfold RW.div SS.div;rw[hr]
    cases trisky t.k (tget s.regs t.b)with
    | true=>exact h.eff ⟨_,_,h.at ha',h.at hb',by rw[ho]⟩
    | false=>exact h
   have:=h1.put t.d hk2 hk3;rw[Zw]at this;exact this
 . rw[hZ ho,show s.step t=s.put t.d (.ld t.base s.time) by unfold SS.step;rw[ho];rfl];exact h.put t.d (by show _=_;rw[h.time]) (fun n e=>by cases e)
 . rw[g9 ho,show s.step t=(s.eff ⟨false,5,0,t.base,0,some (tget s.regs t.a),none⟩).tick by unfold SS.step;rw[ho];rfl];exact⟨ts,List.prefix_rfl,RS.tick (h.eff ⟨_,_,h.at (ha (.inl (by rw[ho];rfl))),rfl,by rw[ho]⟩)⟩
 . rw[g8 ho,show s.step t=s.get t ⟨false,6,0,t.base,t.size,some (tget s.regs t.a),none⟩ by unfold SS.step;rw[ho];rfl];exact h.get t ⟨_,_,h.at (ha (.inl (by rw[ho];rfl))),rfl,by rw[ho]⟩
 . rw[g7 ho,show s.step t=(s.eff ⟨false,7,0,t.base,t.size,some (tget s.regs t.a),some (tget s.regs t.b)⟩).tick by unfold SS.step;rw[ho];rfl];exact⟨ts,List.prefix_rfl,RS.tick (h.eff ⟨_,_,h.at (ha (.inr (by rw[ho];rfl))),h.at (hb (by rw[ho];rfl)),by rw[ho]⟩)⟩
 . rw[gZ ho,show s.step t=s.get t ⟨false,8,0,0,0,none,none⟩ by unfold SS.step;rw[ho];rfl];exact h.get t ⟨_,_,rfl,rfl,by rw[ho]⟩
 . rw[gY ho,show s.step t=s.eff ⟨false,9,0,0,0,some (tget s.regs t.a),none⟩ by unfold SS.step;rw[ho];rfl];exact⟨ts,List.prefix_rfl,h.eff ⟨_,_,h.at (ha (.inl (by rw[ho];rfl))),rfl,by rw[ho]⟩⟩
 . have hn: ∀k:Int,k≠10->(t.op==k)=false:=fun k hk=>by rw[ho];simpa using Ne.symm hk
   rw[ie (hn 1 (by decide)) (hn 2 (by decide)) (hn 3 (by decide)) (hn 4 (by decide)) (hn 5 (by decide)) (hn 6 (by decide)) (hn 7 (by decide)) (hn 8 (by decide)) (hn 9 (by decide)),show s.step t=(s.eff ⟨false,10,0,t.base,0,none,none⟩).tick by unfold SS.step;rw[ho];rfl];exact⟨ts,List.prefix_rfl,RS.tick (h.eff ⟨_,_,rfl,rfl,by rw[ho]⟩)⟩
theorem RE.uniq(hK:ts.Nodup){e:SE}{k k':REff}(h1:RE ts e k)(h2:RE ts e k'):k=k':=by
 obtain⟨x,y,a1,a2,a3⟩:=h1;obtain⟨x',y',b1,b2,b3⟩:=h2;have hu: ∀{o:Option Tm} {n m:Int},RO ts o n->RO ts o m->n=m:=fun {o n m} g1 g2=>by
  cases o with
  | none=>exact g1.trans g2.symm
  | some t=>exact RN.uniq hK g1 g2
 rw[a3,b3,hu a1 b1,hu a2 b2]
theorem RE.inj{e e':SE}{k:REff}(hw:e.wf)(hw':e'.wf)(h1:RE ts e k)(h2:RE ts e' k):e=e':=by
 obtain⟨x,y,a1,a2,a3⟩:=h1;obtain⟨x',y',b1,b2,b3⟩:=h2;have hso: ∀{o o':Option Tm} {n:Int},o.isSome->o'.isSome->RO ts o n->RO ts o' n->o=o':=fun {o o' n} g1 g2 g3 g4=>by
  cases o with
  | none=>cases g1
  | some t=>cases o' with
   | none=>cases g2
   | some s=>rw[RN.inj (ts:=ts) g3 g4]
 obtain⟨r,o,k1,ba,si,oa,ob⟩:=e;obtain⟨r',o',k1',ba',si',oa',ob'⟩:=e';have h3:=a3.symm.trans b3;simp only[REff.mk.injEq]at h3;obtain⟨e1,e2,e3,e4,e5,e6⟩:=h3;subst e1;subst e2;subst e3;subst e4;subst e5;subst e6;have hfin:r=r'->oa=oa'->ob=ob'->(⟨r,o,k1,ba,si,oa,ob⟩:SE)=⟨r',o,k1,ba,si,oa',ob'⟩:=fun q0 q1 q2=>by rw[q0,q1,q2]
 rcases hw with⟨w1,w2,w3,w4,w5,w6⟩ |⟨w1,w0,w2⟩<;>rcases hw' with⟨v1,v2,v3,v4,v5,v6⟩ |⟨v1,v0,v2⟩<;>simp only at*
 . exact hfin (w1.trans v1.symm) (hso w5 v5 a1 b1) (hso w6 v6 a2 b2)
 . rcases v2 with v2 | v2 | v2 | v2 | v2 | v2<;>(exfalso;have:=v2.1;omega)
 . rcases w2 with w2 | w2 | w2 | w2 | w2 | w2<;>(exfalso;have:=w2.1;omega)
 . have hr:=w1.trans v1.symm;rcases w2 with⟨u1,u2,u3,u4⟩ |⟨u1,u3,u4⟩ |⟨u1,u3,u4⟩ |⟨u1,u2,u5,u3,u4⟩ |⟨u1,u2,u5,u3,u4⟩ |⟨u1,u2,u3,u4⟩<;>
    rcases v2 with⟨q1,q2,q3,q4⟩ |⟨q1,q3,q4⟩ |⟨q1,q3,q4⟩ |⟨q1,q2,q5,q3,q4⟩ |⟨q1,q2,q5,q3,q4⟩ |⟨q1,q2,q3,q4⟩<;>first
     |(exfalso;omega)
     | exact hfin hr (hso u3 q3 a1 b1) (u4.trans q4.symm)
     | exact hfin hr (hso u3 q3 a1 b1) (hso u4 q4 a2 b2)
     | exact hfin hr (u3.trans q3.symm) (u4.trans q4.symm)
end
def BFunc.words(f:BFunc):Prop:=∀x∈f.blocks,I2 x.ins
structure Cert.Ok(c:Cert):Prop where
  len:c.same.length*24<=reachBytes
  rows: ∀r∈c.same,r.length*1<=reachBytes
def Tm.pure(R:Nat):Tm->Prop
  | .old v=>v<R
  | .own _=>False
  | .op _ a b=>a.pure R/\b.pure R
  | _=>True
def Tm.inR(row:List Bool):Tm->Prop
  | .old v=>row[v]?=some true
  | .own _=>False
  | .op _ a b=>a.inR row/\b.inR row
  | _=>True
def fw(R:Nat):Option Tm->Prop
  | none=>True
  | some t=>t.pure R
def Z8(row:List Bool):Option Tm->Prop
  | none=>True
  | some t=>t.inR row
def SE.pure(R:Nat)(e:SE):Prop:=fw R e.a/\fw R e.b
def SE.inR(row:List Bool)(e:SE):Prop:=Z8 row e.a/\Z8 row e.b
structure SS.pure(R:Nat)(s:SS):Prop where
  regs: ∀t∈s.regs,t.pure R
  effs: ∀e∈s.effs,e.pure R
def nL(R:Nat)(x y:Block)(c:Cert)(i:Int)(next:List Int):Prop:=
  (Qt (Qq R) x.ins).effs=(Qt (Qq R) y.ins).effs/\(∀e∈(Qt (Qq R) y.ins).effs,e.inR (c.at' i))/\
  (x.fin=2->tget (Qt (Qq R) x.ins).regs x.v=tget (Qt (Qq R) y.ins).regs y.v/\(tget (Qt (Qq R) y.ins).regs y.v).inR (c.at' i))/\
  ∀k∈next,∀j:Nat,(c.at' k)[j]?=some true->tget (Qt (Qq R) x.ins).regs (j:Int)=tget (Qt (Qq R) y.ins).regs (j:Int)/\(tget (Qt (Qq R) y.ins).regs (j:Int)).inR (c.at' i)
structure GCheck(old new:BFunc)(c:Cert):Prop where
  sh:ET old new=true
  len:c.same.length=old.blocks.length
  rows: ∀r∈c.same,(r.length:Int)=old.regs
  b: ∀(k:Nat) (x y:Block),old.blocks[k]?=some x->new.blocks[k]?=some y->nL old.regs.toNat x y c (k:Int) x.nexts
theorem Qm{old new:BFunc}(h:ET old new=true):ET new old=true:=by
 have hV:=EB h;refine Lq hV.regs.symm hV.len.symm hV.sn hV.so ?_;rw[List.all_eq_true]
 rintro⟨y,x⟩ hp
 obtain⟨k,hk⟩:=List.mem_iff_getElem?.1 hp;rw[List.getElem?_zip_eq_some]at hk;obtain⟨e1,e2,e3⟩:=hV.b k x y hk.2 hk.1;simp[ML,e1,e2,e3]
theorem Np{x y:Block}(h:x.fin=y.fin/\x.to=y.to/\x.els=y.els):x.nexts=y.nexts:=by
 unfold Block.nexts;rw[h.1,h.2.1,h.2.2]
theorem GCheck.symm{old new:BFunc}{c:Cert}(h:GCheck old new c):GCheck new old c:=by
 have hV:=EB h.sh;refine⟨Qm h.sh,h.len.trans hV.len,fun r hr=>by rw[<-hV.regs];exact h.rows r hr,fun k y x hy hx=>?_⟩;have hb:=hV.b k x y hx hy;obtain⟨g1,g2,g3,g4⟩:=h.b k x y hx hy;rw[<-hV.regs];refine⟨g1.symm,by rw[g1];exact g2,fun hf=>?_,fun q hq j hj=>?_⟩
 . obtain⟨a1,a2⟩:=g3 (hb.1.trans hf);exact⟨a1.symm,by rw[a1];exact a2⟩
 . obtain⟨a1,a2⟩:=g4 q (by rw[Np hb];exact hq) j hj;exact⟨a1.symm,by rw[a1];exact a2⟩
def Yv(c d:Cert):Cert:=⟨(c.same.zip d.same).map fun p=>(p.1.zip p.2).map fun q=>q.1&&q.2⟩
theorem Wq{c d:Cert}{k:Int}{j:Nat}(hk:0<=k/\k<c.same.length)(hl:c.same.length=d.same.length):((Yv c d).at' k)[j]?=some true↔(c.at' k)[j]?=some true/\(d.at' k)[j]?=some true:=by
 obtain⟨r,hr⟩:=Ae (l:=c.same) (k:=k.toNat) (by omega);obtain⟨s,hs⟩:=Ae (l:=d.same) (k:=k.toNat) (by omega);unfold Cert.at' Yv;rw[List.getElem?_map,zip_at hr hs,hr,hs];simp only[Option.map_some,Option.getD_some,List.getElem?_map]
 cases e1:r[j]? with
 | none=>
  have:(r.zip s)[j]?=none:=by
   rw[List.getElem?_eq_none_iff]at e1 |-;rw[List.length_zip];omega
  rw[this];simp
 | some a=>
  cases e2:s[j]? with
  | none=>
   have:(r.zip s)[j]?=none:=by
    rw[List.getElem?_eq_none_iff]at e2 |-;rw[List.length_zip];omega
   rw[this];simp
  | some b=>rw[zip_at e1 e2];simp
theorem F8{r s t:List Bool}(h: ∀j:Nat,r[j]?=some true->s[j]?=some true->t[j]?=some true): ∀{x:Tm},x.inR r->x.inR s->x.inR t
 | .old v,h1,h2=>h v h1 h2
 | .own _,h1,_=>h1.elim
 | .op _ a b,h1,h2=>⟨F8 h h1.1 h2.1,F8 h h1.2 h2.2⟩
 | .cst _,_,_=>trivial
 | .ld _ _,_,_=>trivial
 | .unk _,_,_=>trivial
theorem SG{r s t:List Bool}(h: ∀j:Nat,r[j]?=some true->s[j]?=some true->t[j]?=some true){x:Option Tm}(h1:Z8 r x)(h2:Z8 s x):Z8 t x:=by
 cases x with
 | none=>trivial
 | some x=>exact F8 h h1 h2
theorem OD{a b c:BFunc}(h1:ET a b=true)(h2:ET b c=true):ET a c=true:=by
 have hV:=EB h1;have hW:=EB h2;refine Lq (hV.regs.trans hW.regs) (hV.len.trans hW.len) hV.so hW.sn ?_;rw[List.all_eq_true]
 rintro⟨x,z⟩ hp
 obtain⟨k,hk⟩:=List.mem_iff_getElem?.1 hp;rw[List.getElem?_zip_eq_some]at hk;obtain⟨y,hy⟩:=Ae (l:=b.blocks) (k:=k) (by rw[<-hV.len];exact(List.getElem?_eq_some_iff.1 hk.1).1);obtain⟨e1,e2,e3⟩:=hV.b k x y hk.1 hy;obtain⟨f1,f2,f3⟩:=hW.b k y z hy hk.2;simp[ML,e1,e2,e3,f1,f2,f3]
theorem GCheck.trans{a b c:BFunc}{e f:Cert}(h1:GCheck a b e)(h2:GCheck b c f):GCheck a c (Yv e f):=by
 have hV:=EB h1.sh;have hW:=EB h2.sh;have hS:=W4 hV.so;have hll:e.same.length=f.same.length:=by rw[h1.len,h2.len,hV.len]
 refine⟨OD h1.sh h2.sh,by simp[Yv,hll,h2.len,hV.len],fun r hr=>?_,fun k x z hx hz=>?_⟩
 . simp only[Yv,List.mem_map]at hr;obtain⟨⟨p,q⟩,hpq,rfl⟩:=hr;have hp:=h1.rows p (List.of_mem_zip hpq).1;have hq:=h2.rows q (List.of_mem_zip hpq).2;rw[<-hV.regs]at hq;simp only[List.length_map,List.length_zip];omega
 . have hk:=(List.getElem?_eq_some_iff.1 hx).1;obtain⟨y,hy⟩:=Ae (l:=b.blocks) (k:=k) (by rw[<-hV.len];exact hk);have hb:=hV.b k x y hx hy;obtain⟨g1,g2,g3,g4⟩:=h1.b k x y hx hy;have hq:=h2.b k y z hy hz;rw[<-hV.regs]at hq;obtain⟨q1,q2,q3,q4⟩:=hq;have hkk:0<=(k:Int)/\(k:Int)<e.same.length:=by rw[h1.len];omega
   have hand: ∀j,(e.at' (k:Int))[j]?=some true->(f.at' (k:Int))[j]?=some true->((Yv e f).at' (k:Int))[j]?=some true:=fun j u v=>(Wq hkk hll).2 ⟨u,v⟩
   refine⟨g1.trans q1,fun s hs=>?_,fun hf=>?_,fun m hm j hj=>?_⟩
   . have u1:=g2 s (by rw[q1];exact hs);have u2:=q2 s hs;exact⟨SG hand u1.1 u2.1,SG hand u1.2 u2.2⟩
   . obtain⟨u1,u2⟩:=g3 hf;obtain⟨w1,w2⟩:=q3 (hb.1.symm.trans hf);exact⟨u1.trans w1,F8 hand (by rw[<-w1];exact u2) w2⟩
   . have hmr:=hS.next x (List.mem_of_getElem? hx) m hm;obtain⟨j1,j2⟩:=(Wq (by rw[h1.len];exact hmr) hll).1 hj;obtain⟨u1,u2⟩:=g4 m hm j j1;obtain⟨w1,w2⟩:=q4 m (by rw[<-Np hb];exact hm) j j2;exact⟨u1.trans w1,F8 hand (by rw[<-w1];exact u2) w2⟩
structure Mach.Le(m m':Mach):Prop where
  words:m'.words=m.words
  out:m'.out=m.out
  read:m'.read=m.read
  fin:m'.fin=m.fin
  steps:m'.steps<=m.steps
def Mach.Sim(x y:Mach):Prop:=x.fin=5\/x.Le y
theorem Mach.Le.trans{x y z:Mach}(h:x.Le y)(h':y.Le z):x.Le z:=⟨h'.words.trans h.words,h'.out.trans h.out,h'.read.trans h.read,h'.fin.trans h.fin,Nat.le_trans h'.steps h.steps⟩
theorem Mach.Sim.trans{x y z:Mach}(h:x.Sim y)(h':y.Sim z):x.Sim z:=by
 rcases h with h | h
 . exact .inl h
 . rcases h' with h' | h'
   . exact .inl (h.fin.symm.trans h')
   . exact .inr (h.trans h')
theorem Mach.Le.refl(m:Mach):m.Le m:=⟨rfl,rfl,rfl,rfl,Nat.le_refl _⟩
theorem Mach.Le.put{m m':Mach}(h:m.Le m')(w:List Int)(o:List UInt8)(r:Nat)(f:Int):Mach.Le ⟨w,o,r,m.steps,f⟩ ⟨w,o,r,m'.steps,f⟩:=⟨rfl,rfl,rfl,rfl,h.steps⟩
section
variable {call call' : Int -> Mach -> Mach} {s : ByteArray} {fuel : Int}
def DK(call call':Int->Mach->Mach)(ok:Int->Prop):Prop:=∀i m m',ok i->m.fin=0->m.Le m'->(call i m).Sim (call' i m')
theorem SO{ok:Int->Prop}(hc:DK call call' ok)(t:Tac)(ht:t.op=10->ok t.base)(regs:List Int){m m':Mach}(h0:m.fin=0)(h:m.Le m'):
 (mone call s t regs m).1=(mone call' s t regs m').1/\(mone call s t regs m).2.Sim (mone call' s t regs m').2:=by
 obtain⟨w,o,r,st,f⟩:=m;obtain⟨w',o',r',st',f'⟩:=m';obtain⟨h1,h2,h3,h4,h5⟩:=h;simp only at h1 h2 h3 h4 h5;subst h1;subst h2;subst h3;subst h4;have hle: ∀(a:List Int) (b:List UInt8) (c:Nat) (d:Int),Mach.Le ⟨a,b,c,st,d⟩ ⟨a,b,c,st',d⟩:=fun a b c d=>⟨rfl,rfl,rfl,rfl,h5⟩
 unfold mone
 cases t.op==1 with
 | true=>exact⟨rfl,.inr (hle _ _ _ _)⟩
 | false=>
 cases t.op==2 with
 | true=>exact⟨rfl,.inr (hle _ _ _ _)⟩
 | false=>
 cases t.op==3 with
 | true=>
  simp only[cond_true,cond_false]
  cases (DP t.k (rget regs t.a) (rget regs t.b)).2==0<;>exact⟨rfl,.inr (hle _ _ _ _)⟩
 | false=>
 cases t.op==4 with
 | true=>exact⟨rfl,.inr (hle _ _ _ _)⟩
 | false=>
 cases t.op==5 with
 | true=>exact⟨rfl,.inr (hle _ _ _ _)⟩
 | false=>
 cases t.op==6 with
 | true=>
  simp only[cond_true,cond_false]
  cases decide (rget regs t.a>=t.size)<;>exact⟨rfl,.inr (hle _ _ _ _)⟩
 | false=>
 cases t.op==7 with
 | true=>
  simp only[cond_true,cond_false]
  cases decide (rget regs t.a>=t.size)<;>exact⟨rfl,.inr (hle _ _ _ _)⟩
 | false=>
 cases t.op==8 with
 | true=>
  simp only[cond_true,cond_false]
  cases decide (r'<s.size)<;>exact⟨rfl,.inr (hle _ _ _ _)⟩
 | false=>
 cases t.op==9 with
 | true=>
  simp only[cond_true,cond_false]
  cases decide (o'.length>=65536)<;>exact⟨rfl,.inr (hle _ _ _ _)⟩
 | false=>
 cases h10:t.op==10 with
 | true=>exact⟨rfl,hc _ _ _ (ht (by simpa using h10)) h0 (hle _ _ _ _)⟩
 | false=>exact⟨rfl,.inr (hle _ _ _ _)⟩
def iF(X Y:Bool×List Int×Mach):Prop:=X.1=false/\X.2.2.fin=5\/X.1=Y.1/\X.2.1=Y.2.1/\X.2.2.Le Y.2.2/\(X.1=true->X.2.2.fin=0)/\(X.1=false->X.2.2.fin≠0)
end
structure n4 where
  words:List Int
  out:List UInt8
  read:Nat
  cnt:Nat
def Mach.core(m:Mach):n4:=⟨m.words,m.out,m.read,m.steps⟩
structure EH where
  mems:List (List Int)
  unks:List Int
  core:n4
def ev(ρ:List Int)(h:EH):Tm->Int
  | .old v=>rget ρ (v:Int)
  | .own _=>0
  | .cst n=>n
  | .op k a b=>(DP k (ev ρ h a) (ev ρ h b)).1
  | .ld b τ=>rget ((h.mems[τ.toNat]?).getD []) b
  | .unk n=>(h.unks[n]?).getD 0
def Tm.sc(n m:Nat):Tm->Prop
  | .op _ a b=>a.sc n m/\b.sc n m
  | .ld _ τ=>τ.toNat<m
  | .unk k=>k<n
  | _=>True
section
variable (call : Int -> Mach -> Mach) (s : ByteArray) (ρ : List Int)
end
section
variable {call call' : Int -> Mach -> Mach} {s : ByteArray} {ρ ρ' : List Int}
end
structure Inv(ρ:List Int)(S:SS)(regs:List Int)(m:Mach)(h:EH):Prop where
  len:regs.length=S.regs.length
  reg: ∀z,rget regs z=ev ρ h (tget S.regs z)
  sc: ∀t∈S.regs,t.sc h.unks.length h.mems.length
  core:h.core=m.core
  un:h.unks.length=S.effs.length
  tm:0<=S.time/\h.mems.length=S.time.toNat+1
  mem:h.mems[S.time.toNat]?=some m.words
  fin:m.fin=0
theorem Wf{α:Type}(l:List α)(a b:Nat)(v d:α):((l.set a v)[b]?).getD d=if a=b/\a<l.length then v else(l[b]?).getD d:=by
 by_cases h:a=b
 . subst h
   by_cases hl:a<l.length
   . rw[List.getElem?_set_self hl,if_pos ⟨rfl,hl⟩];rfl
   . rw[if_neg (by intro h;exact hl h.2),List.set_eq_of_length_le (by omega)]
 . rw[List.getElem?_set_ne h,if_neg (by intro g;exact h g.1)]
section
variable {ρ : List Int} {S : SS} {regs : List Int} {m : Mach} {h : EH}
theorem Inv.put(hI:Inv ρ S regs m h)(d:Int){t:Tm}{v:Int}(ht:t.sc h.unks.length h.mems.length)(hv:v=ev ρ h t):Inv ρ (S.put d t) (AZ regs d v) m h:=by
 refine⟨by simp[AZ,SS.put,tset,hI.len],fun z=>?_,fun x hx=>?_,hI.core,hI.un,hI.tm,hI.mem,hI.fin⟩
 . have h1:=hI.reg z;show((regs.set d.toNat v)[z.toNat]?).getD 0=ev ρ h (((S.regs.set d.toNat t)[z.toNat]?).getD (.cst 0));rw[Wf,Wf,hI.len];split
   . exact hv
   . exact h1
 . have hx':x∈S.regs.set d.toNat t:=hx;rcases List.mem_or_eq_of_mem_set hx' with hx | rfl
   . exact hI.sc x hx
   . exact ht
end
section
variable {call call' : Int -> Mach -> Mach} {s : ByteArray} {ρ : List Int}
end
def Bh(call:Int->Mach->Mach)(s:ByteArray):List Tac->List Int->Mach->Bool×List Int×Mach
  | [],regs,m=>(true,regs,m)
  | t::r,regs,m=>bif (mone call s t regs m).2.fin==0 then Bh call s r (mone call s t regs m).1 (mone call s t regs m).2 else(false,mone call s t regs m)
theorem H7{α:Type}{l:List α}{f:α->List AV}{n:Int}{x:α}(h:l[n.toNat]?=some x):(l.map f)[n.toNat]?=some (f x):=by rw[List.getElem?_map,h];rfl
theorem WM(n:Nat): ∀(i:Nat) (cs cs':List AV),(List.replicate n [AV.nil])[i]?=some cs->(List.replicate n [AV.lst false []])[i]?=some cs'->cs'.length=cs.length/\∀(j:Nat) (x y:AV),cs[j]?=some x->cs'[j]?=some y->y.cell1=true/\∀H v,Rel H AQ x v->Rel H AQ y v:=fun i cs cs' h1 h2=>by
 have e1:=List.eq_of_mem_replicate (List.mem_of_getElem? h1);have e2:=List.eq_of_mem_replicate (List.mem_of_getElem? h2);subst e1;subst e2;refine⟨rfl,fun j x y g1 g2=>?_⟩
 cases j with
 | zero=>simp at g1 g2;subst g1;subst g2;exact⟨rfl,fun H v h=>Xy h⟩
 | succ j=>simp at g1
theorem dinto_eq{b:Int}{s:DS}{c:Bool}(h:notBeen s.been b=c):BD b s=bif c then⟨s.been.set b.toNat true,s.way++[(b,0)]⟩else s:=by rw[BD,h]
theorem aS{b:Int}{s:DS}{es:List (List AV)}{c:Bool}(h:notBeen s.been b=c):Q6 b s es=bif c then CN es s.way.length (Dc (b,0))else es:=by rw[Q6,h]
theorem TE(l:List Bool)(b:Int)(v:Bool):(l.map A1).set (0+b.toNat) [AV.bool v]=(l.set b.toNat v).map A1:=by
 rw[Nat.zero_add,List.map_set];rfl
theorem Qk{w:List (Int×Int)}{p0:Int×Int}(hp:w.getLast?=some p0)(es:List (List AV))(c:List AV){p:Int×Int}{k:Nat}:((es.length,w.length):Nat×Nat)=((es.set k c).length,(w.dropLast++[p]).length):=by
 have hpos:0<w.length:=by rw[FJ hp];simp
 simp;omega
theorem OY{next:List (List Int)}{been:List Bool}(h:been.length=next.length):WayIn next.length (DS.mk been []) ([]:List (List AV)):=by
 refine⟨Nat.le_refl _,rfl,?_⟩;rw[<-h];show 0+T5 been<=been.length;clear h
 induction been with
 | nil=>simp[T5]
 | cons x r ih=>simp only[T5,List.map_cons,List.sum_cons,List.length_cons]at ih |-;cases x<;>simp<;>omega
theorem NB{n:Nat}(h:0<n)(h2:n<=100000000):AX .sub (.int .i64 (n:Int)) (.int .i64 1)=some (.int .i64 ((n-1:Nat):Int)):=by
 simp only[AX,BL,isShift,cond_false,if_true];rw[CB (by omega) (by omega)];congr 2;omega
structure FW where
  s:DS
  es:List (List AV)
  g:Nat
structure FWInv(next:List (List Int))(tgt:DS)(q:FW):Prop where
  ok:q.s.ok next
  way:WayIn next.length q.s q.es
  gas:Ri next q.s<q.g
  tgt:Hp next q.g q.s=tgt
theorem FWInv.first{next:List (List Int)}{been:List Bool}(h:been.length=next.length):FWInv next (Hp next (Ri next (EP been)+1) (EP been)) ⟨EP been,Q6 0 (DS.mk been []) [],Ri next (EP been)+1⟩:=
 ⟨dinto_ok ⟨h,fun p hp=>by cases hp⟩,(OY h).into,Nat.lt_succ_self _,rfl⟩
theorem FWInv.next{next:List (List Int)}{tgt:DS}{q:FW}(h:FWInv next tgt q){s':DS}{es':List (List AV)}{p:Int×Int}(hp:q.s.way.getLast?=some p)(he:Er next q.s=s')(hw:WayIn next.length s' es'):FWInv next tgt ⟨s',es',q.g-1⟩/\q.g-1<q.g:=by
 have hne:q.s.way≠[]:=fun e=>by rw[e]at hp;simp at hp
 have h1:=Ts h.ok hne;have h2:=h.gas;have h3:=N0 h.ok;rw[he]at h1 h3;refine⟨⟨h3,hw,by show Ri next s'<q.g-1;omega,?_⟩,by omega⟩;obtain⟨g,hg⟩: ∃g,q.g=g+1:=⟨q.g-1,by omega⟩
 have h4:=h.tgt;rw[hg,P0 hne,he]at h4;rw[hg];exact h4
theorem bv{next:List (List Int)}{s:DS}{b i:Int}(hp:s.way.getLast?=some (b,i))(h:i<(Bj next b).length):Er next s=BD (((Bj next b)[i.toNat]?).getD 0) ⟨s.been,s.way.dropLast++[(b,i+1)]⟩:=by
 have h':decide (i<((Bj next b).length:Int))=true:=by simpa using h
 simp only[Er,hp,h',cond_true]
theorem X6{next:List (List Int)}{s:DS}{b i:Int}(hp:s.way.getLast?=some (b,i))(h: ¬i<(Bj next b).length):Er next s=⟨s.been,s.way.dropLast⟩:=by
 have h':decide (i<((Bj next b).length:Int))=false:=by simpa using h
 simp only[Er,hp,h',cond_false]
theorem P4(b:Int)(s:DS):(BD b s).been.length=s.been.length:=by
 unfold BD;cases notBeen s.been b<;>simp
theorem X7(next:List (List Int))(s:DS):(Er next s).been.length=s.been.length:=by
 unfold Er;split
 . rfl
 . rename_i b i e
   cases decide (i<(Bj next b).length)with
   | true=>simp only[cond_true];rw[P4]
   | false=>rfl
theorem Tt(next:List (List Int)): ∀(g:Nat) (s:DS),(Hp next g s).been.length=s.been.length
 | 0,s=>rfl
 | g+1,s=>by
  unfold Hp;split
  . rfl
  . rw[Tt next g,X7]
theorem Jb(next:List (List Int))(been:List Bool):(F2 next been).length=been.length:=by
 rw[F2,Tt,EP,P4]
theorem FWInv.done{next:List (List Int)}{tgt:DS}{q:FW}(h:FWInv next tgt q)(hn:q.s.way=[]):q.s=tgt:=by
 have:=h.tgt;rwa[Tv hn]at this
def iget(l:List Int)(z:Int):Int:=(l[z.toNat]?).getD 0
def Q1(l:List Int)(z v:Int):List Int:=l.set z.toNat v
def bget(l:List Bool)(z:Int):Bool:=(l[z.toNat]?).getD false
def BA(l:List Int):List (List AV):=l.map fun n=>[AV.int .i64 n]
theorem Bf(l:List Int):(BA l).length=l.length:=by simp[BA]
theorem NJ{l:List Int}{z:Int}(h:0<=z/\z<l.length):(BA l)[0+z.toNat]?=some [AV.int .i64 (iget l z)]:=by
 grind[Ae,BA,iget]
theorem aT{l:List Int}{z:Int}(h:0<=z/\z<l.length):(l.map fun n=>[AV.int .i64 n])[z.toNat]?=some [AV.int .i64 (iget l z)]:=by
 grind[Ae,iget]
theorem iY{l:List Bool}{z:Int}(h:0<=z/\z<l.length):(l.map fun n=>[AV.bool n])[z.toNat]?=some [AV.bool (bget l z)]:=by
 grind[Ae,bget]
theorem PJ(l:List Int)(z v:Int):(BA l).set (0+z.toNat) [AV.int .i64 v]=BA (Q1 l z v):=by
 rw[Nat.zero_add,BA,BA,Q1,List.map_set]
theorem Kb(n:Nat):List.replicate n [AV.int .i64 0]=BA (List.replicate n 0):=by simp[BA]
theorem LG(l:List Int)(z v:Int):(Q1 l z v).length=l.length:=by simp[Q1]
def Ik(w:List Int)(k:Int):List Int:=Q1 w k (iget w k+1)
theorem LL(w:List Int)(k:Int):(Ik w k).length=w.length:=by simp[Ik,LG]
theorem CJ: ∀(l:List Int) (w:List Int),(l.foldl Ik w).length=w.length
 | [],_=>rfl
 | k::r,w=>by rw[List.foldl_cons,CJ r,LL]
def WU(m:Nat)(w:List Int):Prop:=∀v∈w,0<=v/\v<=m
theorem PH{m:Nat}{w:List Int}(h:WU m w)(k:Int):0<=iget w k/\iget w k<=m:=by
 unfold iget
 cases e:w[k.toNat]? with
 | none=>simp
 | some v=>exact h v (List.mem_of_getElem? e)
theorem Ym{m:Nat}{w:List Int}(h:WU m w)(k:Int):WU (m+1) (Ik w k):=fun v hv=>by
 have hk:=PH h k;rcases List.mem_or_eq_of_mem_set hv with hv | rfl
 . have:=h v hv;omega
 . omega
theorem JD: ∀(l:List Int) {m:Nat} {w:List Int},WU m w->WU (m+l.length) (l.foldl Ik w)
 | [],_,_,h=>h
 | k::r,m,w,h=>by
  have:=JD r (Ym h k)
  grind
def Bm(next:List (List Int))(reach:List Bool):Nat->List Int
  | 0=>List.replicate next.length 0
  | k+1=>bif (reach[k]?).getD false then((next[k]?).getD []).foldl Ik (Bm next reach k)else Bm next reach k
theorem Bo(next:List (List Int))(reach:List Bool): ∀k,(Bm next reach k).length=next.length
 | 0=>by simp[Bm]
 | k+1=>by
  unfold Bm
  cases (reach[k]?).getD false with
  | true=>rw[cond_true,CJ,Bo next reach k]
  | false=>exact Bo next reach k
theorem Lp{next:List (List Int)}(h2: ∀l∈next,l.length<=2)(reach:List Bool): ∀k,WU (2*k) (Bm next reach k)
 | 0=>fun v hv=>by rw[Bm]at hv;rw[List.eq_of_mem_replicate hv];omega
 | k+1=>by
  have ih:=Lp h2 reach k;unfold Bm
  cases (reach[k]?).getD false with
  | false=>exact fun v hv=>by have:=ih v hv;omega
  | true=>
   have hl:((next[k]?).getD []).length<=2:=by
    cases e:next[k]? with
    | none=>simp
    | some l=>exact h2 l (List.mem_of_getElem? e)
   have:=JD ((next[k]?).getD []) ih;exact fun v hv=>by have:=this v hv;omega
def waysF(next:List (List Int))(reach:List Bool):List Int:=Bm next reach next.length
def takeOf(next:List (List Int))(reach:List Bool)(i:Nat)(b:Block):Int:=
  bif (reach[i]?).getD false&&(b.fin==1&&(b.to !=0&&(b.to !=(i:Int)&&iget (waysF next reach) b.to==1)))then b.to else -1
def BFunc.takes(f:BFunc)(reach:List Bool):List Int:=f.blocks.zipIdx.map fun p=>takeOf f.nexts reach p.2 p.1
def BFunc.takenAt(f:BFunc)(reach:List Bool):Nat->List Bool
  | 0=>List.replicate f.blocks.length false
  | k+1=>match f.blocks[k]? with
    | some b=>bif takeOf f.nexts reach k b== -1 then f.takenAt reach k else(f.takenAt reach k).set b.to.toNat true
    | none=>f.takenAt reach k
theorem AI(f:BFunc)(reach:List Bool):(f.takes reach).length=f.blocks.length:=by simp[BFunc.takes]
theorem KD{f:BFunc}{reach:List Bool}{k:Nat}{x:Block}(h:f.blocks[k]?=some x):(f.takes reach)[k]?=some (takeOf f.nexts reach k x):=by
 rw[BFunc.takes,List.getElem?_map,FF h];rfl
theorem B7(f:BFunc)(reach:List Bool): ∀k,(f.takenAt reach k).length=f.blocks.length
 | 0=>by simp[BFunc.takenAt]
 | k+1=>by
  have ih:=B7 f reach k
  grind[BFunc.takenAt,takeOf]
theorem Fp{f:BFunc}{reach:List Bool}{k:Nat}{x:Block}(h:f.blocks[k]?=some x):f.takenAt reach (k+1)=bif takeOf f.nexts reach k x== -1 then f.takenAt reach k else(f.takenAt reach k).set x.to.toNat true:=by
 rw[BFunc.takenAt,h]
def BFunc.leads(f:BFunc):Prop:=∀l∈f.nexts,∀k∈l,0<=k/\k<f.blocks.length
theorem KY(f:BFunc): ∀l∈f.nexts,l.length<=2:=fun l hl=>by
 grind[BFunc.nexts,Block.nexts]
theorem H5{f:BFunc}(h:f.leads){k:Nat}{x:Block}(hx:f.blocks[k]?=some x)(h1:x.fin=1\/x.fin=2):0<=x.to/\x.to<f.blocks.length:=
 h x.nexts (List.mem_of_getElem? (Cz hx)) x.to (by rcases h1 with h1 | h1<;>simp[Block.nexts,h1])
theorem XG{f:BFunc}(h:f.leads){k:Nat}{x:Block}(hx:f.blocks[k]?=some x)(h1:x.fin=2):0<=x.els/\x.els<f.blocks.length:=
 h x.nexts (List.mem_of_getElem? (Cz hx)) x.els (by simp[Block.nexts,h1])
def chain(takes:List Int):Nat->Int->List Int
  | 0,_=>[]
  | g+1,c=>bif iget takes c== -1 then []else iget takes c::chain takes g (iget takes c)
def ends(takes:List Int):Nat->Int->Bool
  | 0,c=>iget takes c== -1
  | g+1,c=>iget takes c== -1||ends takes g (iget takes c)
def A5(takes:List Int)(i:Int):List Int:=i::chain takes takes.length i
structure fM where
  c:Int
  acc:List Int
  g:Nat
structure FInv2(takes:List Int)(tgt:List Int)(q:fM):Prop where
  c:0<=q.c/\q.c<takes.length
  len:q.acc.length+q.g<=takes.length+1
  fin:ends takes q.g q.c=true
  tgt:q.acc++chain takes q.g q.c=tgt
theorem FInv2.first{takes:List Int}{i:Int}(hi:0<=i/\i<takes.length)(he:ends takes takes.length i=true):FInv2 takes (A5 takes i) ⟨i,[i],takes.length⟩:=⟨hi,by show 1+takes.length<=_;omega,he,rfl⟩
theorem FInv2.next{takes:List Int}{tgt:List Int}{q:fM}(hin: ∀v∈takes,v= -1\/(0<=v/\v<takes.length))(h:FInv2 takes tgt q)(hc:(iget takes q.c != -1)=true):
 FInv2 takes tgt ⟨iget takes q.c,q.acc++[iget takes q.c],q.g-1⟩/\q.g-1<q.g:=by
 have hne:(iget takes q.c== -1)=false:=by simpa[bne]using hc
 obtain⟨v,hv⟩:=Ae (l:=takes) (k:=q.c.toNat) (by have:=h.c;omega);have hi:iget takes q.c=v:=by simp[iget,hv]
 have hlen:=h.len;have hfin:=h.fin;have htgt:=h.tgt;obtain⟨g,hg⟩: ∃g,q.g=g+1:=by
  cases e:q.g with
  | zero=>rw[e]at hfin;simp only[ends,hne]at hfin;cases hfin
  | succ g=>exact⟨g,rfl⟩
 rw[hg]at hfin htgt hlen;simp only[ends,chain,hne,Bool.false_or,cond_false]at hfin htgt;rw[hg];refine⟨⟨?_,?_,hfin,?_⟩,by simp⟩
 . rcases hin v (List.mem_of_getElem? hv)with e | e
   . rw[hi,e]at hne;simp at hne
   . rw[hi];exact e
 . grind
 . grind
theorem FInv2.done{takes:List Int}{tgt:List Int}{q:fM}(h:FInv2 takes tgt q)(hc:(iget takes q.c != -1)=false):q.acc=tgt:=by
 have hne:(iget takes q.c== -1)=true:=by simpa[bne]using hc
 have htgt:=h.tgt
 cases e:q.g with
 | zero=>rw[e]at htgt;simpa[chain]using htgt
 | succ g=>rw[e]at htgt;simpa[chain,hne]using htgt
theorem GI{f:BFunc}(h:f.leads)(reach:List Bool): ∀v∈f.takes reach,v= -1\/(0<=v/\v<(f.takes reach).length):=fun v hv=>by
 obtain⟨k,hk⟩:=List.getElem?_of_mem hv;have hlt:k<f.blocks.length:=by rw[<-AI f reach];exact(List.getElem?_eq_some_iff.1 hk).1
 obtain⟨x,hx⟩:=Ae hlt;rw[KD hx]at hk
 cases hk
 rw[AI];unfold takeOf
 cases e:(reach[k]?).getD false&&(x.fin==1&&(x.to !=0&&(x.to !=(k:Int)&&iget (waysF f.nexts reach) x.to==1)))with
 | false=>exact .inl rfl
 | true=>
  simp only[Bool.and_eq_true,beq_iff_eq]at e;exact .inr (H5 h hx (.inl e.2.1))
def BFunc.headOf(f:BFunc)(k:Nat):Bool:=(f.reach[k]?).getD false&& !((f.takenAt f.reach f.blocks.length)[k]?).getD false
def BFunc.tk(f:BFunc):List Int:=f.takes f.reach
def BFunc.pathsTo(f:BFunc):Nat->List (List Int)
  | 0=>[]
  | k+1=>bif f.headOf k then f.pathsTo k++[A5 f.tk k]else f.pathsTo k
def BFunc.numsTo(f:BFunc):Nat->List Int
  | 0=>List.replicate f.blocks.length 0
  | k+1=>bif f.headOf k then Q1 (f.numsTo k) k (f.pathsTo k).length else f.numsTo k
def BFunc.tpaths(f:BFunc):List (List Int):=f.pathsTo f.blocks.length
def BFunc.nums(f:BFunc):List Int:=f.numsTo f.blocks.length
theorem BN(f:BFunc): ∀k,(f.numsTo k).length=f.blocks.length
 | 0=>by simp[BFunc.numsTo]
 | k+1=>by
  unfold BFunc.numsTo
  cases f.headOf k with
  | true=>rw[cond_true,LG,BN f k]
  | false=>exact BN f k
theorem DC(f:BFunc): ∀k,(f.pathsTo k).length<=k
 | 0=>by simp[BFunc.pathsTo]
 | k+1=>by
  have ih:=DC f k
  grind[BFunc.pathsTo]
def BFunc.blockAt(f:BFunc)(i:Int):Block:=(f.blocks[i.toNat]?).getD ⟨[],0,0,0,0⟩
def AH(p:List Int):Int:=p.getLast?.getD 0
def BFunc.joined(f:BFunc)(p:List Int):List Tac:=p.flatMap fun i=>(f.blockAt i).ins
def BFunc.newBlock(f:BFunc)(p:List Int):Block where
  ins:=f.joined p
  fin:=(f.blockAt (AH p)).fin
  v:=(f.blockAt (AH p)).v
  to:=bif (f.blockAt (AH p)).fin==1||(f.blockAt (AH p)).fin==2 then iget f.nums (f.blockAt (AH p)).to else(f.blockAt (AH p)).to
  els:=bif (f.blockAt (AH p)).fin==2 then iget f.nums (f.blockAt (AH p)).els else(f.blockAt (AH p)).els
def BFunc.tidy(f:BFunc):BFunc:=⟨f.regs,f.tpaths.map f.newBlock⟩
def oc(n:Nat)(p:List Int):Prop:=p≠[]/\∀i∈p,0<=i/\i<n
theorem Kn{takes:List Int}(hin: ∀v∈takes,v= -1\/(0<=v/\v<takes.length)): ∀(g:Nat) (c:Int),0<=c/\c<takes.length->∀i∈chain takes g c,0<=i/\i<takes.length
 | 0,_,_=>fun i hi=>by cases hi
 | g+1,c,hc=>fun i hi=>by
  unfold chain at hi
  cases e:iget takes c== -1 with
  | true=>rw[e]at hi;cases hi
  | false=>
   rw[e]at hi;obtain⟨v,hv⟩:=Ae (l:=takes) (k:=c.toNat) (by omega);have hv':iget takes c=v:=by simp[iget,hv]
   have hcv:0<=iget takes c/\iget takes c<takes.length:=by
    rcases hin v (List.mem_of_getElem? hv)with h | h
    . rw[hv',h]at e;simp at e
    . rw[hv'];exact h
   simp only[cond_false,List.mem_cons]at hi;rcases hi with rfl | hi
   . exact hcv
   . exact Kn hin g _ hcv i hi
theorem HX{f:BFunc}(h:f.leads): ∀k,k<=f.blocks.length->∀p∈f.pathsTo k,oc f.blocks.length p
 | 0,_=>fun p hp=>by cases hp
 | k+1,hk=>fun p hp=>by
  unfold BFunc.pathsTo at hp
  cases e:f.headOf k with
  | false=>rw[e]at hp;exact HX h k (by omega) p hp
  | true=>
   rw[e]at hp;simp only[cond_true,List.mem_append,List.mem_singleton]at hp;rcases hp with hp | rfl
   . exact HX h k (by omega) p hp
   . have hl:f.tk.length=f.blocks.length:=AI f _;refine⟨by simp[A5],fun i hi=>?_⟩;simp only[A5,List.mem_cons]at hi;rcases hi with rfl | hi
     . omega
     . have:=Kn (GI h f.reach) f.tk.length k (by show(0:Int)<=k/\(k:Int)<f.tk.length;omega) i hi;have hl':((f.takes f.reach).length:Int)=f.blocks.length:=by rw[AI]
       rw[hl']at this;exact this
structure BFunc.tame(f:BFunc):Prop where
  mild:f.blocks.length<=1000
  ins: ∀x∈f.blocks,x.ins.length<=10000
  leads:f.leads
  ends: ∀k,f.headOf k=true->ends f.tk f.tk.length k=true
theorem OO{α:Type}{l:List α}{i:Nat}{x y:α}(h:l[i]?=some x):(l.set i y)[i]?=some y:=by
 grind
def Q7(n:Int):List AV:=[.int .i64 n]
section
variable {P : Program} {T : Nat -> Option Ar} {o : Oper} {e : As} {h : Ab}
theorem iu(hT:Cn P T){t:TypeId}{x:Operand}{y:Operand}{c:List AV}{es:List (List AV)}{i j:Ar}{u:Nat}(ho:o.op= .slice t x (some y) none none)(hx:Ak e x=some (.lst false (c::es)))(ht:T t=some i)(hk:i.k= .slice u)(hj:T u=some j)
 (hy:Ak e y=some (.int .i64 1)) (hu: ∀cs∈c::es,cs.length=j.size):QLoc P o e h [] (.lst false es):=by
 have:=HT (h:=h) hT 1 (c::es).length ho hx ht hk hj ⟨.i64,hy⟩ rfl (by simp) (Nat.le_refl _) hu;rw[List.take_of_length_le (Nat.le_refl _)]at this;exact this
end
theorem takeOf_no{next:List (List Int)}{reach:List Bool}{i:Nat}{b:Block}{r:Bool}(hr:reach[i]?=some r)(h:(r&&(b.fin==1&&(b.to !=0&&(b.to !=(i:Int)&&iget (waysF next reach) b.to==1))))=false):takeOf next reach i b= -1:=by
 grind[takeOf,iget,waysF]
theorem Ua{next:List (List Int)}{reach:List Bool}{i:Nat}{b:Block}{r:Bool}(hr:reach[i]?=some r)(h:(r&&(b.fin==1&&(b.to !=0&&(b.to !=(i:Int)&&iget (waysF next reach) b.to==1))))=true):takeOf next reach i b=b.to:=by
 grind[takeOf,iget,waysF]
theorem Y7{f:BFunc}{reach:List Bool}{k:Nat}{x:Block}(hx:f.blocks[k]?=some x)(h:takeOf f.nexts reach k x= -1):f.takenAt reach k=f.takenAt reach (k+1):=by
 rw[Fp hx,h];rfl
theorem W1{f:BFunc}{reach:List Bool}{k:Nat}{x:Block}(hx:f.blocks[k]?=some x)(h:takeOf f.nexts reach k x=x.to)(h0:0<=x.to):((f.takenAt reach k).map A1).set (0+x.to.toNat) [AV.bool true]=(f.takenAt reach (k+1)).map A1:=by
 have hne:(x.to== -1)=false:=by simp;omega
 rw[Fp hx,h,hne,cond_false,Nat.zero_add,List.map_set];rfl
theorem U5{l:List Int}{j:Nat}{y:Int}(h:l[j]?=some y)(w:List Int):(l.take (j+1)).foldl Ik w=Ik ((l.take j).foldl Ik w) y:=by
 rw[Bc h,List.foldl_append];rfl
theorem WO{next:List (List Int)}{reach:List Bool}{k:Nat}(h:reach[k]?=some false):Bm next reach k=Bm next reach (k+1):=by
 simp[Bm,h]
theorem cP{next:List (List Int)}{reach:List Bool}{k j:Nat}{l:List Int}(h:reach[k]?=some true)(hl:next[k]?=some l)(hj:l.length<=j):(l.take j).foldl Ik (Bm next reach k)=Bm next reach (k+1):=by
 simp[Bm,h,hl,List.take_of_length_le hj]
def S9(f:BFunc)(rest:List Int)(k:Nat):Bool:=(f.joined (rest.take k)).isEmpty
def Hz(f:BFunc)(i0:Int)(rest:List Int)(k:Nat):List (List AV):=((f.blockAt i0).ins++f.joined (rest.take k)).map Tac.cells
theorem S7{f:BFunc}{rest:List Int}{k:Nat}{i:Int}(h:rest[k]?=some i):f.joined (rest.take (k+1))=f.joined (rest.take k)++(f.blockAt i).ins:=by
 rw[BFunc.joined,Bc h,List.flatMap_append];simp[BFunc.joined]
theorem fG{f:BFunc}{i0:Int}{rest:List Int}{k:Nat}{i:Int}(h:rest[k]?=some i):((S9 f rest k&&((f.blockAt i).ins.map Tac.cells).isEmpty,Hz f i0 rest k++(f.blockAt i).ins.map Tac.cells):Bool×List (List AV))=(S9 f rest (k+1),Hz f i0 rest (k+1)):=by
 simp only[S9,Hz,S7 h,List.map_append,List.append_assoc];congr 1
 cases f.joined (rest.take k)<;>cases (f.blockAt i).ins<;>rfl
theorem Bs{f:BFunc}{i:Int}(h:0<=i/\i<f.blocks.length):f.blocks[i.toNat]?=some (f.blockAt i):=by
 grind[Ae,BFunc.blockAt]
theorem Jy{f:BFunc}(hf: ∀x∈f.blocks,x.ins.length<=10000): ∀(p:List Int),(f.joined p).length<=p.length*10000
 | []=>by simp[BFunc.joined]
 | i::r=>by
  have ih:=Jy hf r
  grind[BFunc.blockAt,List.mem_of_getElem?,BFunc.joined,List.length_append]
theorem LF(f:BFunc)(i0:Int)(rest:List Int)(k:Nat):(∀cs∈Hz f i0 rest k,cs.length=8)/\∀cs∈Hz f i0 rest k,cs.all AV.isPure1=true:=by
 constructor<;>intro cs h<;>simp only[Hz,List.mem_map]at h<;>obtain⟨t,_,rfl⟩:=h<;>rfl
theorem PG(l:List Tac):(∀cs∈l.map Tac.cells,cs.length=8)/\∀cs∈l.map Tac.cells,cs.all AV.isPure1=true:=by
 constructor<;>intro cs h<;>simp only[List.mem_map]at h<;>obtain⟨t,_,rfl⟩:=h<;>rfl
theorem ST{p:List Int}(h:p≠[]):p[p.length-1]?=some (AH p):=by
 rw[<-List.getLast?_eq_getElem?,AH,List.getLast?_eq_some_getLast h];rfl
theorem J8{p:List Int}(h:p≠[]):AH p∈p:=List.mem_of_getElem? (ST h)
theorem Km(takes:List Int): ∀(g:Nat) (c:Int),(chain takes g c).length<=g
 | 0,_=>by simp[chain]
 | g+1,c=>by
  unfold chain
  cases iget takes c== -1 with
  | true=>simp
  | false=>simp only[cond_false,List.length_cons];have:=Km takes g (iget takes c);omega
theorem E4{f:BFunc}: ∀(k:Nat),∀p∈f.pathsTo k,p.length<=f.blocks.length+1
 | 0=>fun p hp=>by cases hp
 | k+1=>fun p hp=>by
  unfold BFunc.pathsTo at hp
  cases e:f.headOf k with
  | false=>rw[e]at hp;exact E4 k p hp
  | true=>
   rw[e]at hp;simp only[cond_true,List.mem_append,List.mem_singleton]at hp;rcases hp with hp | rfl
   . exact E4 k p hp
   . have:=Km f.tk f.tk.length k;have hl:f.tk.length=f.blocks.length:=AI f _;simp only[A5,List.length_cons];omega
theorem DB{f:BFunc}{k:Nat}(h:f.headOf k=true):f.pathsTo (k+1)=f.pathsTo k++[A5 f.tk k]:=by simp[BFunc.pathsTo,h]
theorem EG{f:BFunc}{k:Nat}(h:f.headOf k=false):f.pathsTo (k+1)=f.pathsTo k:=by simp[BFunc.pathsTo,h]
theorem Nn{f:BFunc}{k:Nat}(h:f.headOf k=true):f.numsTo (k+1)=Q1 (f.numsTo k) k (f.pathsTo k).length:=by simp[BFunc.numsTo,h]
theorem Pn{f:BFunc}{k:Nat}(h:f.headOf k=false):f.numsTo (k+1)=f.numsTo k:=by simp[BFunc.numsTo,h]
theorem PO{f:BFunc}{k:Nat}{r t:Bool}(hr:f.reach[k]?=some r)(ht:(f.takenAt f.reach f.blocks.length)[k]?=some t):f.headOf k=(r&& !t):=by simp[BFunc.headOf,hr,ht]
theorem JS(f:BFunc):f.reach.length=f.blocks.length:=by rw[BFunc.reach,Jb];simp[BFunc.nexts]
def qi(f:BFunc)(p:List Int)(j:Nat):Bool:=(f.blockAt (iget p j)).fin==1&&(f.blockAt (iget p j)).to==iget p ((j+1:Nat):Int)
def bk(f:BFunc)(p:List Int):Bool:=(List.range (p.length-1)).all (qi f p)
def fE(f:BFunc):List Tac->List Int->Bool
  | rest,[]=>rest.isEmpty
  | rest,i::r=>decide ((f.blockAt i).ins.length<=rest.length)&&(decide (rest.take (f.blockAt i).ins.length=(f.blockAt i).ins)&&fE f (rest.drop (f.blockAt i).ins.length) r)
def E8(p:List Int):Int:=p.head?.getD 0
def E5(paths:List (List Int))(k:Int):List Int:=(paths[k.toNat]?).getD []
def Et(paths:List (List Int))(k i:Int):Bool:=decide (k>=0)&&(decide (k<paths.length)&&E8 (E5 paths k)==i)
def L8(last b:Block)(paths:List (List Int)):Bool:=bif b.fin==1||b.fin==2 then Et paths b.to last.to else b.to==last.to
def L9(last b:Block)(paths:List (List Int)):Bool:=bif b.fin==2 then Et paths b.els last.els else b.els==last.els
def K1(last b:Block)(paths:List (List Int)):Bool:= !(b.fin !=last.fin)&&(!(b.v !=last.v)&&(L8 last b paths&&L9 last b paths))
def iA(n:Nat)(p:List Int):Bool:= !(p.length==0)&&p.all (fun i=> !(decide (i<0))&& !(decide (i>=n)))
def nk(old new:BFunc)(paths:List (List Int))(q:List Int×Nat):Bool:=bk old q.1&&(fE old (new.blockAt q.2).ins q.1&&K1 (old.blockAt (AH q.1)) (new.blockAt q.2) paths)
def qk(old new:BFunc)(paths:List (List Int)):Bool:=
  !(paths.length==0)&&(!(paths.length !=new.blocks.length)&&(!(old.regs !=new.regs)&&(paths.all (iA old.blocks.length)&&(!(E8 (E5 paths 0) !=0)&&paths.zipIdx.all (nk old new paths)))))
theorem Xo{paths:List (List Int)}{k:Int}(h:0<=k/\k<paths.length):paths[k.toNat]?=some (E5 paths k):=by
 grind[Ae,E5]
section
variable {P : Program} {T : Nat -> Option Ar} {o : Oper} {e : As} {h : Ab}
end
section
variable {P : Program} {T : Nat -> Option Ar} {o : Oper} {e : As} {h : Ab}
end
def pathsOk(l:List (List Int)):Prop:=l.length*24<=reachBytes/\∀p∈l,p.length*8<=reachBytes
theorem pathsOk.len{l:List (List Int)}(h:pathsOk l):l.length<=10000000000000/\∀p∈l,p.length<=qB:=by
 have h1:=h.1;simp only[reachBytes]at h1;refine⟨?_,fun p hp=>?_⟩
 . have:l.length*24<=140737488351232:=h1
   by_cases e:l.length<=10000000000000
   . exact e
   . exfalso;omega
 . have h2:=h.2 p hp;simp only[reachBytes]at h2;simp only[qB];omega
def fol(f:BFunc):List Int->Prop
  | i::j::r=>(f.blockAt i).fin=1/\(f.blockAt i).to=j/\fol f (j::r)
  | _=>True
structure Wu(old new:BFunc)(paths:List (List Int)):Prop where
  ne:paths.length≠0
  len:paths.length=new.blocks.length
  regs:old.regs=new.regs
  all: ∀p∈paths,oc old.blocks.length p
  head:E8 (E5 paths 0)=0
  fol: ∀(k:Nat) (p:List Int),paths[k]?=some p->fol old p
  ins: ∀(k:Nat) (p:List Int),paths[k]?=some p->(new.blockAt k).ins=old.joined p
  leads: ∀(k:Nat) (p:List Int),paths[k]?=some p->K1 (old.blockAt (AH p)) (new.blockAt k) paths=true
section
variable {A B C : BFunc} {P Q : List (List Int)}
theorem LC{last b:Block}{paths:List (List Int)}(h:K1 last b paths=true):b.fin=last.fin/\b.v=last.v/\(b.fin=1\/b.fin=2->Et paths b.to last.to=true)/\(¬(b.fin=1\/b.fin=2)->b.to=last.to)/\(b.fin=2->Et paths b.els last.els=true)/\(b.fin≠2->b.els=last.els):=by
 simp only[K1,Bool.and_eq_true,Bool.not_eq_true',bne_eq_false_iff_eq]at h;obtain⟨h1,h2,h3,h4⟩:=h;refine⟨h1,h2,fun e=>?_,fun e=>?_,fun e=>?_,fun e=>?_⟩
 . have:(b.fin==1||b.fin==2)=true:=by rcases e with e | e<;>simp[e]
   simpa only[L8,this,cond_true]using h3
 . have:(b.fin==1||b.fin==2)=false:=by simp at e |-;exact e
   simpa[L8,this]using h3
 . simpa[L9,e]using h4
 . have:(b.fin==2)=false:=by simpa using e
   simpa[L9,this]using h4
theorem XH{last b:Block}{paths:List (List Int)}(h1:b.fin=last.fin)(h2:b.v=last.v)(h3:b.fin=1\/b.fin=2->Et paths b.to last.to=true)(h4: ¬(b.fin=1\/b.fin=2)->b.to=last.to)(h5:b.fin=2->Et paths b.els last.els=true)(h6:b.fin≠2->b.els=last.els):K1 last b paths=true:=by
 simp only[K1,Bool.and_eq_true,Bool.not_eq_true',bne_eq_false_iff_eq];refine⟨h1,h2,?_,?_⟩
 . unfold L8
   cases e:b.fin==1||b.fin==2 with
   | true=>exact h3 (by simpa using e)
   | false=>simp only[cond_false,beq_iff_eq];exact h4 (by simpa using e)
 . unfold L9
   cases e:b.fin==2 with
   | true=>exact h5 (by simpa using e)
   | false=>simp only[cond_false,beq_iff_eq];exact h6 (by simpa using e)
theorem Es{paths:List (List Int)}{k i:Int}(h:Et paths k i=true):0<=k/\k<paths.length/\E8 (E5 paths k)=i:=by
 simp only[Et,Bool.and_eq_true,decide_eq_true_eq,beq_iff_eq]at h;exact⟨h.1,h.2.1,h.2.2⟩
theorem U8{paths:List (List Int)}{k i:Int}(h1:0<=k)(h2:k<paths.length)(h3:E8 (E5 paths k)=i):Et paths k i=true:=by
 simp only[Et,Bool.and_eq_true,decide_eq_true_eq,beq_iff_eq];exact⟨h1,h2,h3⟩
end
section
variable {call call' : Int -> Mach -> Mach} {s : ByteArray} {fuel : Int}
variable {ok : Int -> Prop} {old new : BFunc}
end
def Blocks.put(b:Blocks)(f:BFunc):Blocks:=⟨b.words,b.funcs.set (b.funcs.length-1) f⟩
theorem Tr{x:Block}{n r:Int}(h:x.ends n r=true):x.fin=1\/x.fin=2\/x.fin=3:=by
 grind[Block.ends]
theorem Nv{f:BFunc}{p:List Int}{t:Tac}(h:t∈f.joined p): ∃i∈p,t∈(f.blockAt i).ins:=by
 grind[BFunc.joined]
theorem dJ{old new:BFunc}{paths:List (List Int)}(hH:Wu old new paths){n w:Int}(h:old.one n w=true):new.one n w=true:=by
 obtain⟨h1,h2,h3,h4⟩:=Dd h;have hb:new.blocks.length≠0:=by rw[<-hH.len];exact hH.ne
 rw[J1 (by rw[<-hH.regs];exact h1) (by rw[<-hH.regs];exact h2) hb,List.all_eq_true];intro x hx;obtain⟨k,hk⟩:=List.getElem?_of_mem hx;have hkl:k<paths.length:=by rw[hH.len];exact(List.getElem?_eq_some_iff.1 hk).1
 obtain⟨p,hp⟩:=Ae hkl;have hxk:new.blockAt k=x:=by
  have:=Bs (f:=new) (i:=k) (by rw[<-hH.len];omega);rw[Int.toNat_natCast,hk]at this;exact(Option.some.inj this).symm
 have hin:=hH.all p (List.mem_of_getElem? hp);have hins:=hH.ins k p hp;have hle:=hH.leads k p hp;rw[hxk]at hins hle;have hlast:=hin.2 _ (J8 hin.1);have hold:=(h4 _ (List.mem_of_getElem? (Bs hlast))).1;obtain⟨l1,l2,l3,l4,l5,l6⟩:=LC hle;have hlen:(new.blocks.length:Int)=paths.length:=by rw[hH.len]
 simp only[Block.ok,Bool.and_eq_true,List.all_eq_true];refine⟨?_,fun t ht=>?_⟩
 . rw[hlen,<-hH.regs];have hfin:=Tr hold;unfold Block.ends at hold |-;rw[<-l1]at hold hfin;rcases hfin with e | e | e
   . have bt:=Es (l3 (.inl e));have e6:=l6 (by rw[e];decide);simp[e,AP]at hold |-;rw[l2,e6];exact⟨⟨bt.1,bt.2.1⟩,hold.2⟩
   . have bt:=Es (l3 (.inr e));have be:=Es (l5 e);simp[e,AP]at hold |-;rw[l2];exact⟨⟨bt.1,bt.2.1⟩,⟨be.1,be.2.1⟩,hold.2.2⟩
   . have e4:=l4 (by rw[e];decide);have e6:=l6 (by rw[e];decide);simp[e]at hold |-;rw[l2,e4,e6];exact hold
 . rw[hins]at ht;obtain⟨i,hi,hti⟩:=Nv ht;rw[<-hH.regs];exact(h4 _ (List.mem_of_getElem? (Bs (hin.2 i hi)))).2 t hti
def Mach.tick(m:Mach):Mach:={m with steps:=m.steps+1}
def kblk(call:Int->Mach->Mach)(s:ByteArray)(f:BFunc):Nat->Int->List Int->Mach->Mach
  | 0,_,_,m=>{m with fin:=5}
  | g+1,i,regs,m=>
    match f.blocks[i.toNat]? with
    | none=>m
    | some k=>bif (Bh call s k.ins regs m.tick).1&& !(k.fin==3)then kblk call s f g (k.next (Bh call s k.ins regs m.tick).2.1) (Bh call s k.ins regs m.tick).2.1 (Bh call s k.ins regs m.tick).2.2 else(Bh call s k.ins regs m.tick).2.2
section
variable {call call' : Int -> Mach -> Mach} {s : ByteArray} {ok : Int -> Prop}
variable {old new : BFunc} {c : Cert}
theorem er{f:BFunc}{k:Block}{i:Int}(hk:f.blocks[i.toNat]?=some k)(g:Nat)(regs:List Int)(m:Mach):kblk call s f (g+1) i regs m=
 bif (Bh call s k.ins regs m.tick).1&& !(k.fin==3)then kblk call s f g (k.next (Bh call s k.ins regs m.tick).2.1) (Bh call s k.ins regs m.tick).2.1 (Bh call s k.ins regs m.tick).2.2 else(Bh call s k.ins regs m.tick).2.2:=by
 rw[kblk,hk]
end
def cz:Int->Prop:=fun _=>True
theorem Mach.Le.tick{x y:Mach}(h:x.Le y):x.tick.Le y.tick:=⟨h.words,h.out,h.read,h.fin,Nat.succ_le_succ h.steps⟩
theorem Mach.Le.late{x y:Mach}(h:x.Le y):x.tick.Le y:=⟨h.words,h.out,h.read,h.fin,Nat.le_succ_of_le h.steps⟩
section
variable {call call' : Int -> Mach -> Mach} {s : ByteArray}
theorem Ka(hc:DK call call' cz): ∀(l:List Tac) (regs:List Int) {m m':Mach},m.fin=0->m.Le m'->iF (Bh call s l regs m) (Bh call' s l regs m')
 | [],regs,m,m',h0,h=>.inr ⟨rfl,rfl,h,fun _=>h0,fun e=>by cases e⟩
 | t::r,regs,m,m',h0,h=>by
  unfold Bh;obtain⟨b1,b2⟩:=SO (s:=s) hc t (fun _=>trivial) regs h0 h;rcases b2 with b2 | b2
  . rw[show((mone call s t regs m).2.fin==0)=false by rw[b2];rfl];exact .inl ⟨rfl,b2⟩
  . rw[b2.fin,<-b1]
    cases hf:(mone call s t regs m).2.fin==0 with
    | false=>
     simp only[cond_false];exact .inr ⟨rfl,b1,b2,(fun e=>by cases e),fun _=>by simpa using hf⟩
    | true=>
     simp only[cond_true];exact Ka hc r _ (by simpa using hf) b2
theorem Gk: ∀(l1 l2:List Tac) (regs:List Int) (m:Mach),Bh call s (l1++l2) regs m=bif (Bh call s l1 regs m).1 then Bh call s l2 (Bh call s l1 regs m).2.1 (Bh call s l1 regs m).2.2 else Bh call s l1 regs m
 | [],l2,regs,m=>rfl
 | t::r,l2,regs,m=>by
  simp only[List.cons_append,Bh]
  cases (mone call s t regs m).2.fin==0 with
  | false=>rfl
  | true=>exact Gk r l2 _ _
def Fk(call:Int->Mach->Mach)(s:ByteArray)(f:BFunc)(k:Block)(g:Nat)(regs:List Int)(m:Mach):Mach:=
  bif k.fin==3 then m else kblk call s f g (k.next regs) regs m
theorem En{f:BFunc}{i:Int}{k:Block}(hk:f.blocks[i.toNat]?=some k)(g:Nat)(regs:List Int)(m:Mach):kblk call s f (g+1) i regs m=
 bif (Bh call s k.ins regs m.tick).1 then Fk call s f k g (Bh call s k.ins regs m.tick).2.1 (Bh call s k.ins regs m.tick).2.2 else(Bh call s k.ins regs m.tick).2.2:=by
 rw[er hk,Fk]
 cases (Bh call s k.ins regs m.tick).1<;>cases k.fin==3<;>rfl
theorem K3{f:BFunc}{i:Int}(hi:0<=i/\i<f.blocks.length)(g:Nat)(regs:List Int)(m:Mach):kblk call s f (g+1) i regs m=
 bif (Bh call s (f.blockAt i).ins regs m.tick).1 then Fk call s f (f.blockAt i) g (Bh call s (f.blockAt i).ins regs m.tick).2.1 (Bh call s (f.blockAt i).ins regs m.tick).2.2 else(Bh call s (f.blockAt i).ins regs m.tick).2.2:=
 En (Bs hi) g regs m
theorem IQ(hc:DK call call' cz){f:BFunc}: ∀(g:Nat) (i:Int) (regs:List Int) {m m':Mach},m.fin=0->m.Le m'->(kblk call s f g i regs m).Sim (kblk call' s f g i regs m')
 | 0,_,_,_,_,_,_=>.inl rfl
 | g+1,i,regs,m,m',h0,h=>by
  cases hk:f.blocks[i.toNat]? with
  | none=>unfold kblk;rw[hk];exact .inr h
  | some k=>
   rw[En hk,En hk];have hs:=Ka (s:=s) hc k.ins regs (m:=m.tick) (m':=m'.tick) h0 h.tick;generalize Bh call s k.ins regs m.tick=X at hs |-;generalize Bh call' s k.ins regs m'.tick=Y at hs |-;obtain⟨X1,X2,X3⟩:=X;obtain⟨Y1,Y2,Y3⟩:=Y;rcases hs with⟨h1,h2⟩ |⟨h1,h2,h3,h4,h5⟩
   . simp only at h1 h2;subst h1;exact .inl h2
   . simp only at h1 h2 h3 h4 h5;subst h1;subst h2
     cases X1 with
     | false=>exact .inr h3
     | true=>
      simp only[cond_true];unfold Fk
      cases hfin:k.fin==3 with
      | true=>exact .inr h3
      | false=>exact IQ hc g _ _ (h4 rfl) h3
variable {old new : BFunc}
theorem Py(hc:DK call call' cz):
 ∀(p:List Int),p≠[]->(∀i∈p,0<=i/\i<old.blocks.length)->fol old p->∀(g:Nat) (regs:List Int) (m m':Mach),m.fin=0->m.tick.Le m'->
  (kblk call s old g (E8 p) regs m).fin=5\/
  ((Bh call' s (old.joined p) regs m').1=false/\(kblk call s old g (E8 p) regs m).Le (Bh call' s (old.joined p) regs m').2.2)\/
  ((Bh call' s (old.joined p) regs m').1=true/\∃m2 g2,m2.Le (Bh call' s (old.joined p) regs m').2.2/\m2.fin=0/\g2<g/\
   kblk call s old g (E8 p) regs m=Fk call s old (old.blockAt (AH p)) g2 (Bh call' s (old.joined p) regs m').2.1 m2)
 | [],h,_,_,_,_,_,_,_,_=>absurd rfl h
 | _,_,_,_,0,_,_,_,_,_=>.inl rfl
 | [i],_,hin,_,g1+1,regs,m,m',h0,h=>by
  have hi:=hin i (by simp);have e:old.joined [i]=(old.blockAt i).ins:=by simp[BFunc.joined]
  have hs:=Ka (s:=s) hc (old.blockAt i).ins regs (m:=m.tick) h0 h;rw[e,show E8 [i]=i from rfl,show AH [i]=i from rfl,K3 hi];generalize Bh call s (old.blockAt i).ins regs m.tick=X at hs |-;generalize Bh call' s (old.blockAt i).ins regs m'=Y at hs |-;obtain⟨X1,X2,X3⟩:=X;obtain⟨Y1,Y2,Y3⟩:=Y;rcases hs with⟨h1,h2⟩ |⟨h1,h2,h3,h4,h5⟩
  . simp only at h1 h2;subst h1;exact .inl h2
  . simp only at h1 h2 h3 h4 h5;subst h1;subst h2
    cases X1 with
    | false=>exact .inr (.inl ⟨rfl,h3⟩)
    | true=>exact .inr (.inr ⟨rfl,X3,g1,h3,h4 rfl,Nat.lt_succ_self _,rfl⟩)
 | i::j::r,_,hin,hfo,g1+1,regs,m,m',h0,h=>by
  have hi:=hin i (by simp);have e:old.joined (i::j::r)=(old.blockAt i).ins++old.joined (j::r):=by simp[BFunc.joined]
  have hs:=Ka (s:=s) hc (old.blockAt i).ins regs (m:=m.tick) h0 h;have hl:AH (i::j::r)=AH (j::r):=by simp[AH]
  rw[e,show E8 (i::j::r)=i from rfl,hl,K3 hi,Gk];generalize Bh call s (old.blockAt i).ins regs m.tick=X at hs |-;generalize Bh call' s (old.blockAt i).ins regs m'=Y at hs |-;obtain⟨X1,X2,X3⟩:=X;obtain⟨Y1,Y2,Y3⟩:=Y;rcases hs with⟨h1,h2⟩ |⟨h1,h2,h3,h4,h5⟩
  . simp only at h1 h2;subst h1;exact .inl h2
  . simp only at h1 h2 h3 h4 h5;subst h1;subst h2
    cases X1 with
    | false=>exact .inr (.inl ⟨rfl,h3⟩)
    | true=>
     simp only[cond_true];have hx0:=h4 rfl;have hn3:((old.blockAt i).fin==3)=false:=by rw[hfo.1];rfl
     have hnx:(old.blockAt i).next X2=j:=by simp[Block.next,hfo.1,hfo.2.1]
     have ec:Fk call s old (old.blockAt i) g1 X2 X3=kblk call s old g1 j X2 X3:=by rw[Fk,hn3,hnx];rfl
     have ih:=Py hc (j::r) (by simp) (fun x hx=>hin x (by simp at hx |-;exact .inr hx)) hfo.2.2 g1 X2 X3 Y3 hx0 h3.late;rw[show E8 (j::r)=j from rfl]at ih;rw[ec];rcases ih with ih | ih |⟨ih1,m2,g2,q1,q2,q4,q5⟩
     . exact .inl ih
     . exact .inr (.inl ih)
     . exact .inr (.inr ⟨ih1,m2,g2,q1,q2,by omega,q5⟩)
theorem Px{paths:List (List Int)}(hH:Wu old new paths)(hend: ∀x∈old.blocks,x.fin=1\/x.fin=2\/x.fin=3)(hc:DK call call' cz):
 ∀(n g:Nat),g<=n->∀(g':Nat) (k:Int) (regs:List Int) (m m':Mach),m.fin=0->m.Le m'->g<=g'->0<=k/\k<paths.length->
  (kblk call s old g (E8 (E5 paths k)) regs m).Sim (kblk call' s new g' k regs m')
 | n,0,_,_,_,_,_,_,_,_,_,_=>.inl rfl
 | 0,g+1,hgn,_,_,_,_,_,_,_,_,_=>absurd hgn (by omega)
 | n+1,g+1,hgn,g',k,regs,m,m',h0,h,hg,hk=>by
  obtain⟨g1',rfl⟩: ∃g1,g'=g1+1:=⟨g'-1,by omega⟩
  have hpk:=Xo hk;have ek:((k.toNat:Nat):Int)=k:=Int.toNat_of_nonneg hk.1;have hin:=hH.all _ (List.mem_of_getElem? hpk);have hins:=hH.ins _ _ hpk;have hle:=hH.leads _ _ hpk;rw[ek]at hins hle;have hkn:0<=k/\k<new.blocks.length:=by rw[<-hH.len];exact hk
  have ps:=Py (call:=call) (call':=call') (s:=s) hc (E5 paths k) hin.1 hin.2 (hH.fol _ _ hpk) (g+1) regs m m'.tick h0 h.tick;rw[K3 hkn,hins];generalize Bh call' s (old.joined (E5 paths k)) regs m'.tick=Y at ps |-;generalize hX:kblk call s old (g+1) (E8 (E5 paths k)) regs m=X at ps |-;obtain⟨Y1,Y2,Y3⟩:=Y;rcases ps with ps |⟨p1,p2⟩ |⟨p1,m2,g2,q1,q2,q4,q5⟩
  . exact .inl ps
  . simp only at p1;subst p1;exact .inr p2
  . simp only at p1 q1 q5;subst p1;simp only[cond_true];rw[q5];unfold Fk;obtain⟨l1,l2,l3,l4,l5,l6⟩:=LC hle;have hlast:=hin.2 _ (J8 hin.1);have hfin:=hend _ (List.mem_of_getElem? (Bs hlast));rw[l1]
    cases h3:(old.blockAt (AH (E5 paths k))).fin==3 with
    | true=>exact .inr q1
    | false=>
     simp only[cond_false];have h12:(new.blockAt k).fin=1\/(new.blockAt k).fin=2:=by
      rw[l1];rcases hfin with e | e | e
      . exact .inl e
      . exact .inr e
      . rw[e]at h3;cases h3
     have bt:=Es (l3 h12);have key:0<=(new.blockAt k).next Y2/\(new.blockAt k).next Y2<paths.length/\(old.blockAt (AH (E5 paths k))).next Y2=E8 (E5 paths ((new.blockAt k).next Y2)):=by
      unfold Block.next;rw[<-l1,<-l2]
      cases hc2:(new.blockAt k).fin==2&&rget Y2 (new.blockAt k).v==0 with
      | false=>exact⟨bt.1,bt.2.1,bt.2.2.symm⟩
      | true=>
       simp only[Bool.and_eq_true,beq_iff_eq]at hc2;have be:=Es (l5 hc2.1);exact⟨be.1,be.2.1,be.2.2.symm⟩
     rw[key.2.2];exact Px hH hend hc n g2 (by omega) g1' _ _ _ _ q2 q1 (by omega) ⟨key.1,key.2.1⟩
end
def FSm(f g:BFunc):Prop:=∀(call:Int->Mach->Mach) (s:ByteArray) (G:Nat),DK call call cz->∀m m',m.fin=0->m.Le m'->
  (kblk call s f G 0 (List.replicate f.regs.toNat 0) m).Sim (kblk call s g G 0 (List.replicate g.regs.toNat 0) m')
theorem TH(f:BFunc):FSm f f:=fun call s G hc m m' h0 h=>IQ hc G _ _ h0 h
theorem FSm.trans{f g h:BFunc}(h1:FSm f g)(h2:FSm g h):FSm f h:=fun call s G hc m m' h0 hl=>(h1 call s G hc m m' h0 hl).trans (h2 call s G hc m' m' (hl.fin.trans h0) (Mach.Le.refl _))
theorem FSm.tidy{f g:BFunc}{paths:List (List Int)}(hH:Wu f g paths)(hend: ∀x∈f.blocks,x.fin=1\/x.fin=2\/x.fin=3):FSm f g:=fun call s G hc m m' h0 hl=>by
 have:=Px (s:=s) hH hend hc G G (Nat.le_refl _) G 0 (List.replicate f.regs.toNat 0) m m' h0 hl (Nat.le_refl _) ⟨Int.le_refl _,by have:=hH.ne;omega⟩;rw[hH.head]at this;rw[<-hH.regs];exact this
section
variable {call call' : Int -> Mach -> Mach} {s : ByteArray} {fuel : Int}
end
section
variable {call call' : Int -> Mach -> Mach} {s : ByteArray} {fuel : Int} {K : Nat}
end
structure OPass where
  kind:Int
  cert:Cert
  paths:List (List Int)
  f:BFunc
def nA(l:List (List OPass)):Prop:=∀ps∈l,∀p∈ps,p.f.words
def Uk(op:Int):Int:=bif use1 op then 1 else bif use2 op then 2 else 0
def C8(l:List Block):Nat:=(l.map fun x=>x.ins.length).sum
theorem Q5{l:List Block}{k:Nat}{x:Block}(h:l[k]?=some x):C8 (l.take (k+1))=C8 (l.take k)+x.ins.length:=by
 rw[C8,Bc h];simp[C8]
theorem Lr{α:Type}{l:List α}{p:α->Nat}{k:Nat}:((l.take k).map p).sum<=(l.map p).sum:=by
 conv=>rhs;rw[<-List.take_append_drop k l]
 rw[List.map_append,List.sum_append];omega
theorem Q4{l:List Block}{k:Nat}:C8 (l.take k)<=C8 l:=Lr
theorem Yj(l:List Block):(l.map Block.count).sum=l.length+C8 l:=by
 induction l with
 | nil=>rfl
 | cons x l ih=>simp only[List.map_cons,List.sum_cons,ih,List.length_cons,C8,Block.count];omega
theorem DJ(f:BFunc):f.count=f.blocks.length+C8 f.blocks:=Yj f.blocks
theorem Vf{x y:Block}(h1:x.fin=y.fin)(h2:x.v=y.v)(h3:x.to=y.to)(h4:x.els=y.els)(h5:x.ins=y.ins):x=y:=by
 cases x;cases y;simp_all
theorem Blocks.ext'{x y:Blocks}(h1:x.words=y.words)(h2:x.funcs=y.funcs):x=y:=by
 cases x;cases y;simp_all
def OPass.cells(p:OPass):List AV:=[.int .i64 p.kind,MU p.cert.same,AU p.paths,.int .i64 p.f.regs,BZ p.f.blocks]
def BG(l:List OPass):AV:=.lst false (l.map OPass.cells)
def NA(ls:List (List OPass)):AV:=.lst false (ls.map fun l=>[BG l])
structure Blocks.Lim(b:Blocks):Prop where
  n:b.funcs.length<=1048576
  c:b.count<=1048576
structure BFunc.Lim(f:BFunc):Prop where
  n:f.blocks.length<=1048576
  c: ∀x∈f.blocks,x.ins.length<=1048576
theorem RA{f:BFunc}(h:f.count<=1048576):f.Lim:=by
 refine⟨by have:=DJ f;omega,fun x hx=>?_⟩;have:x.count<=f.count:=H6 hx;simp only[Block.count]at this;omega
theorem Blocks.Lim.f{b:Blocks}(h:b.Lim){f:BFunc}(hf:f∈b.funcs):f.Lim:=RA (Nat.le_trans (H6 hf) h.c)
theorem BFunc.Lim.big{f:BFunc}(h:f.Lim):f.blocks.length<=1000000000000000/\∀x∈f.blocks,x.ins.length<=1000000000000000:=
 ⟨Nat.le_trans h.n (by decide),fun x hx=>Nat.le_trans (h.c x hx) (by decide)⟩
theorem Blocks.Lim.big0{b:Blocks}(h:b.Lim):b.funcs.length<=1000000000000000:=Nat.le_trans h.n (by decide)
theorem Blocks.Lim.big1{b:Blocks}(h:b.Lim): ∀f∈b.funcs,f.blocks.length<=1000000000000000/\∀x∈f.blocks,x.ins.length<=1000000000000000:=fun f hf=>(h.f hf).big
def Ny(f:BFunc):Bool:=decide (f.regs<=30)
def Gg(b:Blocks):Bool:=decide (b.funcs.length<=6)&&(decide (b.words<=400)&&(b.right&&(decide (b.count<=200)&&b.funcs.all Ny)))
structure Small35(b:Blocks):Prop where
  n:b.funcs.length<=6
  w:b.words<=400
  r:b.right=true
  c:b.count<=200
  g: ∀f∈b.funcs,f.regs<=30
theorem Ue{b:Blocks}(h:Gg b=true):Small35 b:=by
 simp only[Gg,Bool.and_eq_true,decide_eq_true_eq]at h;exact⟨h.1,h.2.1,h.2.2.1,h.2.2.2.1,fun f hf=>of_decide_eq_true (List.all_eq_true.1 h.2.2.2.2 f hf)⟩
theorem aF{l:List BFunc}{k:Nat}{f:BFunc}(h:l[k]?=some f)(h1:(l.take k).all Ny=true)(h2:f.regs<=30):(l.take (k+1)).all Ny=true:=by
 rw[List.take_add_one,h,List.all_append,h1];simp[Ny,h2]
theorem iE{l:List BFunc}{f:BFunc}(h:f∈l)(h2: ¬f.regs<=30):l.all Ny=false:=by
 rw[Bool.eq_false_iff];intro e;exact h2 (of_decide_eq_true (List.all_eq_true.1 e f h))
def CF(G:BFunc->Int->OPass):List Int->BFunc->List OPass
  | [],_=>[]
  | k::r,f=>G f k::CF G r (G f k).f
def HE(G:BFunc->Int->OPass):List Int->BFunc->BFunc
  | [],f=>f
  | k::r,f=>HE G r (G f k).f
theorem DA(G:BFunc->Int->OPass): ∀(ks:List Int) (f:BFunc),(CF G ks f).length=ks.length
 | [],_=>rfl
 | k::r,f=>congrArg (· +1) (DA G r _)
theorem Sx{G:BFunc->Int->OPass}: ∀{ks:List Int} {f:BFunc} {j:Nat} {k:Int},ks[j]?=some k->(CF G ks f)[j]?=some (G (HE G (ks.take j) f) k)
 | a::r,f,0,k,h=>by simp at h;subst h;rfl
 | a::r,f,j+1,k,h=>by
  show(CF G r (G f a).f)[j]?=_;exact Sx (ks:=r) (by simpa using h)
theorem NW{G:BFunc->Int->OPass}: ∀{ks:List Int} {f:BFunc} {j:Nat} {k:Int},ks[j]?=some k->HE G (ks.take (j+1)) f=(G (HE G (ks.take j) f) k).f
 | a::r,f,0,k,h=>by simp at h;subst h;simp[HE]
 | a::r,f,j+1,k,h=>by
  show HE G (r.take (j+1)) (G f a).f=_;exact NW (ks:=r) (by simpa using h)
def kind35(k:Int):Bool:=decide (1<=k/\k<=4)
end Go.Proofs.YtbbfelelocccmaaGreat.Sv
namespace Go.Proofs.YtbbfelelocccmaaGreat
open Go Go.ChangeShapes Go.WideShapes Go.ChangeAt Go.RowKit Sv
section
variable {H : Type} {enc : TypeId × Value -> H} {P : Program} {W : World} {t e : TypeId}
theorem bulk_one(d:DataW H):1<=Rows.uptoBulk d:=by
 cases d with
 | lit l=>cases l<;>simp[Rows.uptoBulk]
 | _=>simp[Rows.uptoBulk]
theorem bulk_part: ∀{l:List (DataW H)} {i:Nat} {d:DataW H},l[i]?=some d->Rows.uptoBulk d<=Rows.uptoBulkAll l
 | x::l,0,d,h=>by simp at h;subst h;simp only[Rows.uptoBulkAll];omega
 | x::l,i+1,d,h=>by
  have:=bulk_part (l:=l) (i:=i) (by simpa using h);simp only[Rows.uptoBulkAll];omega
theorem bulk_sum: ∀(l:List (DataW H)),(l.map Rows.uptoBulk).sum=Rows.uptoBulkAll l
 | []=>by simp[Rows.uptoBulkAll]
 | x::l=>by simp only[List.map_cons,List.sum_cons,Rows.uptoBulkAll,bulk_sum l]
def DecR(enc:TypeId×Value->H)(P:Program)(W:World)(t:TypeId){α:Type}(f:α->List AV)(Q:α->Nat->Prop):Prop:=
  ∀(fuel:Nat) (cs:List Value) (x:DataW H×List MemPlace),DataW.trod enc P W 0 (fun _=>true) true fuel t cs=some x->(x.1.weights P t).all (· <=reachBytes)=true->∃a,Reads W cs (f a)/\Q a (Rows.uptoBulk x.1)
theorem DecR.of{α:Type}{f:α->List AV}{Q:α->Prop}(h:Dec enc P W t f Q):DecR enc P W t f (fun a n=>Q a/\1<=n):=fun fuel cs x hx hw=>by
 obtain⟨a,h1,h2⟩:=h fuel cs x hx hw;exact⟨a,h1,h2,bulk_one _⟩
theorem DecR.mono{α:Type}{f:α->List AV}{Q Q':α->Nat->Prop}(h:DecR enc P W t f Q)(hq: ∀a n,Q a n->Q' a n):DecR enc P W t f Q':=fun fuel cs x hx hw=>by
 obtain⟨a,h1,h2⟩:=h fuel cs x hx hw;exact⟨a,h1,hq _ _ h2⟩
def PartsQ{α:Type}(Q:α->Nat->Prop)(l:List α)(n:Nat):Prop:=∃ns:List Nat,ns.length=l.length/\ns.sum+1<=n/\∀(i:Nat) (a:α) (m:Nat),l[i]?=some a->ns[i]?=some m->Q a m
theorem PartsQ.all{α:Type}{Q:α->Nat->Prop}{l:List α}{n:Nat}(h:PartsQ Q l n): ∀a∈l,∃m,Q a m/\m+1<=n:=fun a ha=>by
 obtain⟨ns,h1,h2,h3⟩:=h;obtain⟨i,hi⟩:=List.getElem?_of_mem ha;obtain⟨m,hm⟩:=Ae (l:=ns) (k:=i) (by have:=(List.getElem?_eq_some_iff.1 hi).1;omega);have:m<=ns.sum:=by
  have:=H6 (p:=id) (List.mem_of_getElem? hm);simpa using this
 exact⟨m,h3 i a m hi hm,by omega⟩
theorem sum_le_of{α:Type}{μ:α->Nat}: ∀{l:List α} {ns:List Nat},ns.length=l.length->(∀(i:Nat) (a:α) (m:Nat),l[i]?=some a->ns[i]?=some m->μ a<=m)->(l.map μ).sum<=ns.sum
 | [],_,_,_=>by simp
 | a::l,[],h,_=>by simp at h
 | a::l,m::ns,h,hq=>by
  have h1:=hq 0 a m rfl rfl;have h2:=sum_le_of (l:=l) (ns:=ns) (by simpa using h) fun i b k hb hk=>hq (i+1) b k (by simpa using hb) (by simpa using hk)
  simp only[List.map_cons,List.sum_cons];omega
theorem PartsQ.sum{α:Type}{Q:α->Nat->Prop}{l:List α}{n:Nat}(h:PartsQ Q l n)(μ:α->Nat)(hμ: ∀a m,Q a m->μ a<=m):(l.map μ).sum+1<=n:=by
 obtain⟨ns,h1,h2,h3⟩:=h;have:=sum_le_of (μ:=μ) h1 fun i a m ha hm=>hμ a m (h3 i a m ha hm)
 omega
theorem sum_ones{α:Type}: ∀(l:List α),(l.map fun _=>1).sum=l.length
 | []=>rfl
 | a::l=>by simp only[List.map_cons,List.sum_cons,List.length_cons,sum_ones l];omega
theorem PartsQ.len{α:Type}{Q:α->Nat->Prop}{l:List α}{n:Nat}(h:PartsQ Q l n)(h1: ∀a m,Q a m->1<=m):l.length+1<=n:=by
 have:=h.sum (fun _=>1) h1;rwa[sum_ones]at this
theorem DecR.slice{α:Type}{f:α->List AV}{Q:α->Nat->Prop}(ht:P.underlying t=some (.slice e))(hc:0<P.cellsOf e)(he:DecR enc P W e f Q):
 DecR enc P W t (fun l:List α=>[.lst false (l.map f)]) (fun l n=>l.length*P.bytesOf e<=reachBytes/\PartsQ Q l n):=fun fuel cs x h hw=>by
 rcases DataW.trod_slice ht h with⟨rfl,rfl⟩ |⟨a,len,cap,elems,rest,n,rfl,rfl,rfl,hb,hl,hm,hlen,hel,hsp,hns⟩
 . exact⟨[],.one (.lst0 _ _ _ _ (fun h=>by cases h) (Nat.zero_le _) (fun _=>rfl) trivial) rfl,by simp,[],rfl,by simpa using bulk_one _,fun i a m h=>by simp at h⟩
 simp only[DataW.weights,ht,List.all_cons,List.all_append,Bool.and_eq_true,decide_eq_true_eq,List.length_map]at hw;obtain⟨w1,w2,w3⟩:=hw;have key: ∀i,i<len->∃y,∃cs',W.cells? 0 (a.add (i*P.cellsOf e)) (P.cellsOf e)=some cs'/\Reads W cs' (f y)/\∃d,(elems.map (·.1))[i]?=some d/\Q y (Rows.uptoBulk d):=fun i hi=>by
  have h1:=hel i hi;have hlt:i<elems.length:=by omega
  rw[List.getElem?_eq_getElem hlt]at h1;rw[Option.bind_eq_some_iff]at h1;obtain⟨cs',c1,c2⟩:=h1;have hd:(elems.map (·.1))[i]?=some elems[i].1:=by rw[List.getElem?_map,List.getElem?_eq_getElem hlt];rfl
  obtain⟨y,y1,y2⟩:=he _ _ _ c2 (weightsAll_get w2 (i:=i) hd);exact⟨y,cs',c1,y1,_,hd,y2⟩
 obtain⟨l,l1,l2⟩:=Ib len key;have hQ:PartsQ Q l (Rows.uptoBulk (.slice (elems.map (·.1)) (rest.map (·.1)))):=by
  refine⟨(elems.map (·.1)).map Rows.uptoBulk,by simp[l1,hlen],?_,fun i y m hy hm=>?_⟩
  . rw[bulk_sum];simp only[Rows.uptoBulk];omega
  . obtain⟨cs',_,_,d,hd,q⟩:=l2 i y hy;rw[List.getElem?_map,hd]at hm
    cases hm
    exact q
 exact zt9
variable {T : Nat -> Option Ar}
theorem DecR.slice'{α:Type}{f:α->List AV}{Q:α->Nat->Prop}{i j:Ar}{u:Nat}(hT:Cn P T)(hi:T t=some i)(hk:i.k= .slice u)(hj:T u=some j)(hp:0<j.size)(he:DecR enc P W u f Q):
 DecR enc P W t (fun l:List α=>[.lst false (l.map f)]) (fun l n=>l.length*j.bytes<=reachBytes/\PartsQ Q l n):=by
 obtain⟨info,d,e1,e2,e3,e4,e5,e6⟩:=Aj (hT _ _ hi);have hd:=Bn (P:=P) (d:=d) (e3▸hk);subst hd;have:=DecR.slice (enc:=enc) (W:=W) e2 (by rw[F5 hT hj];exact hp) he;rwa[Oc hT hj]at this
theorem struct_partsR{i:Ar}{fs:List (Nat×Nat)}(hT:Cn P T)(hi:T t=some i)(hk:i.k= .struct fs){fuel:Nat}{cs:List Value}{x:DataW H×List MemPlace}(h:DataW.trod enc P W 0 (fun _=>true) true fuel t cs=some x)(hw:(x.1.weights P t).all (· <=reachBytes)=true):
 cs.length=i.size/\∀(i off u:Nat),fs[i]?=some (off,u)->∀{α:Type} {f:α->List AV} {Q:α->Nat->Prop},DecR enc P W u f Q->∃a,Reads W ((cs.drop off).take (P.cellsOf u)) (f a)/\∃m,m+1<=Rows.uptoBulk x.1/\Q a m:=by
 obtain⟨info,d,e1,e2,e3,e4,e5,e6⟩:=Aj (hT _ _ hi);obtain⟨A,rfl,rfl,_⟩:=EC (P:=P) (d:=d) (e3▸hk);obtain⟨xs,n,rfl,rfl,hl,hxl,hx⟩:=DataW.trod_struct e2 h;refine⟨by rw[hl,F5 hT hi],fun j off u hj α f Q hd=>?_⟩;rw[List.getElem?_map,Option.map_eq_some_iff]at hj;obtain⟨F,hF,hF2⟩:=hj;simp only[Prod.mk.injEq]at hF2;obtain⟨rfl,rfl⟩:=hF2;have hFa:A[j]?=some F:=by simpa using hF
 have hjlt:j<xs.length:=by rw[hxl];exact(Array.getElem?_eq_some_iff.1 hFa).1
 have h1:=hx j F hFa;rw[List.getElem?_eq_getElem hjlt]at h1;simp only[DataW.weights,e2]at hw;have hd2:(xs.map (·.1))[j]?=some xs[j].1:=by rw[List.getElem?_map,List.getElem?_eq_getElem hjlt];rfl
 obtain⟨a,a1,a2⟩:=hd _ _ _ h1 (weightsEach_get hw (i:=j) (by rw[List.getElem?_map,hF];rfl) hd2);refine⟨a,a1,_,?_,a2⟩;have:=bulk_part hd2;simp only[Rows.uptoBulk];omega
theorem arg_oneR{α:Type}{f:α->List AV}{Q:α->Nat->Prop}{v:Value}{d:DataW H}{ps:List MemPlace}(h:DataW.Trod enc P W 0 (fun _=>true) true t v d ps)(hw:(d.weights P t).all (· <=reachBytes)=true)(hd:DecR enc P W t f Q): ∃a,Reads W v.cells.toList (f a)/\Q a (Rows.uptoBulk d):=by
 obtain⟨fuel,hf⟩:=h;exact hd _ _ _ hf hw
theorem upto_get{ds gs:List (DataW H)}{i:Nat}{d:DataW H}(h:Rows.uptoSmall H (ds++gs)=true)(hd:ds[i]?=some d):Rows.uptoBulk d<=1048576:=by
 have h1:Rows.uptoBulkAll (ds++gs)<=1048576:=of_decide_eq_true h;have h2:=bulk_part (l:=ds++gs) (i:=i) (d:=d) (by rw[List.getElem?_append_left (List.getElem?_eq_some_iff.1 hd).1];exact hd);omega
end
section
variable {H : Type} {enc : TypeId × Value -> H} {W : World}
theorem decBlockR:DecR enc Tryz.prog W 80 Block.cells (fun x n=>x.Ok/\x.count<=n):=fun fuel cs x h hw=>by
 obtain⟨a,a1,a2⟩:=decBlock fuel cs x h hw;obtain⟨hl,hp⟩:=struct_partsR Ah rfl rfl h hw;obtain⟨x0,a0,m0,b0,c0,d0⟩:=hp 0 _ _ rfl (DecR.slice' Ah rfl rfl rfl (Nat.zero_lt_succ _) (DecR.of decTac));obtain⟨x1,a1',_,_,b1,_⟩:=hp 1 _ _ rfl (DecR.of (BT Ah rfl rfl));obtain⟨x2,a2',_,_,b2,_⟩:=hp 2 _ _ rfl (DecR.of (BT Ah rfl rfl));obtain⟨x3,a3,_,_,b3,_⟩:=hp 3 _ _ rfl (DecR.of (BT Ah rfl rfl));obtain⟨x4,a4,_,_,b4,_⟩:=hp 4 _ _ rfl (DecR.of (BT Ah rfl rfl));have k0:=Gd Ah rfl rfl (Reads.nil W cs) a0 (Nat.zero_le _);have k1:=Gd Ah rfl rfl k0 a1' (by rw[hl];decide);have k2:=Gd Ah rfl rfl k1 a2' (by rw[hl];decide);have k3:=Gd Ah rfl rfl k2 a3 (by rw[hl];decide);have k4:=Gd Ah rfl rfl k3 a4 (by rw[hl];decide);refine⟨⟨x0,x1,x2,x3,x4⟩,k4.all hl,⟨c0,fun t ht=>?_,Dn b1,Dn b2,Dn b3,Dn b4⟩,?_⟩
 . obtain⟨m,hm,_⟩:=d0.all t ht;exact hm.1
 . have:=d0.len (fun a m h=>h.2);simp only[Block.count];omega
theorem decBFuncR:DecR enc Tryz.prog W 41 BFunc.cells (fun f n=>f.Ok/\f.count+1<=n):=fun fuel cs x h hw=>by
 obtain⟨hl,hp⟩:=struct_partsR Ah rfl rfl h hw;obtain⟨x0,a0,_,_,b0,_⟩:=hp 0 _ _ rfl (DecR.of (BT Ah rfl rfl));obtain⟨x1,a1,m1,b1,c1,d1⟩:=hp 1 _ _ rfl (DecR.slice' Ah rfl rfl rfl (Nat.zero_lt_succ _) decBlockR);have k0:=Gd Ah rfl rfl (Reads.nil W cs) a0 (Nat.zero_le _);have k1:=Gd Ah rfl rfl k0 a1 (by rw[hl];decide);refine⟨⟨x0,x1⟩,k1.all hl,⟨Dn b0,c1,fun y hy=>?_⟩,?_⟩
 . obtain⟨m,hm,_⟩:=d1.all y hy;exact hm.1
 . have:=d1.sum Block.count (fun a m h=>h.2);show(x1.map Block.count).sum+1<=_;omega
theorem sum_add1{α:Type}{p:α->Nat}: ∀(l:List α),(l.map fun a=>p a+1).sum=(l.map p).sum+l.length
 | []=>rfl
 | a::l=>by simp only[List.map_cons,List.sum_cons,List.length_cons,sum_add1 l];omega
theorem decBlocksR:DecR enc Tryz.prog W 24 Blocks.cells (fun b n=>b.Ok/\b.count+b.funcs.length<=n):=fun fuel cs x h hw=>by
 obtain⟨hl,hp⟩:=struct_partsR Ah rfl rfl h hw;obtain⟨x0,a0,_,_,b0,_⟩:=hp 0 _ _ rfl (DecR.of (BT Ah rfl rfl));obtain⟨x1,a1,m1,b1,c1,d1⟩:=hp 1 _ _ rfl (DecR.slice' Ah rfl rfl rfl (Nat.zero_lt_succ _) decBFuncR);have k0:=Gd Ah rfl rfl (Reads.nil W cs) a0 (Nat.zero_le _);have k1:=Gd Ah rfl rfl k0 a1 (by rw[hl];decide);refine⟨⟨x0,x1⟩,k1.all hl,⟨Dn b0,c1,fun y hy=>?_⟩,?_⟩
 . obtain⟨m,hm,_⟩:=d1.all y hy;exact hm.1
 . have:=d1.sum (fun f=>f.count+1) (fun a m h=>h.2);rw[sum_add1]at this;show(x1.map BFunc.count).sum+x1.length<=_;omega
theorem lim_row{b:Blocks}{n:Nat}(h:b.Ok/\b.count+b.funcs.length<=n)(hn:n<=1048576):b.Lim:=⟨by omega,by omega⟩
end
end Go.Proofs.YtbbfelelocccmaaGreat
namespace Go.Proofs.YtbbfelelocccmaaGreat
open Go.ChangeShapes Go.WideShapes Go.ChangeAt Go.RowKit Sv
section
variable {H : Type} {enc : TypeId × Value -> H} {W : World}
end
end Go.Proofs.YtbbfelelocccmaaGreat
namespace Go.Proofs.YtbbfelelocccmaaGreat.Sv
open Go
def AV.sure:AV->Option Value
  | .bool b=>some (.bool b)
  | .int k n=>some (.int k n)
  | .str s=>some (.string s)
  | .fn f [] []=>some (.func f #[] #[])
  | .val v=>some v
  | _=>none
def R2:List AV->Option (List Value)
  | []=>some []
  | x::xs=>match x.sure,R2 xs with
    | some v,some vs=>some (v::vs)
    | _,_=>none
def AV.whole:AV->Option Value
  | .agg cs=>(R2 cs).map fun l=>.agg l.toArray
  | x=>x.sure
theorem R1{H:Ax}{ι:Ba}{x:AV}{v u:Value}(h:Rel H ι x v)(e:x.sure=some u):v=u:=by
 cases h with
 | bool=>simpa[AV.sure]using e
 | int=>simpa[AV.sure]using e
 | str=>simpa[AV.sure]using e
 | val=>simpa[AV.sure]using e
 | fn _ f xs cs us vs hx hl h1 h2=>
  cases xs with
  | cons=>simp[AV.sure]at e
  | nil=>
   cases cs with
   | cons=>simp[AV.sure]at e
   | nil=>
    have e1:us= #[]:=Array.eq_empty_of_size_eq_zero (by simpa using hx.symm);have e2:vs= #[]:=Array.eq_empty_of_size_eq_zero (by simpa using hl.symm);subst e1;subst e2;simpa[AV.sure]using e
 | _=>simp[AV.sure]at e
theorem sureL_get: ∀{xs:List AV} {l:List Value},R2 xs=some l->xs.length=l.length/\∀(j:Nat) (x:AV),xs[j]?=some x->∃u,l[j]?=some u/\x.sure=some u
 | [],l,h=>by simp[R2]at h;subst h;exact⟨rfl,fun j x h=>by simp at h⟩
 | x::xs,l,h=>by
  unfold R2 at h;split at h
  . rename_i v vs h1 h2;simp at h;subst h;obtain⟨a1,a2⟩:=sureL_get h2;refine⟨by simp[a1],fun j y hj=>?_⟩
    cases j with
    | zero=>simp at hj;subst hj;exact⟨v,rfl,h1⟩
    | succ j=>obtain⟨u,u1,u2⟩:=a2 j y (by simpa using hj);exact⟨u,by simpa using u1,u2⟩
  . cases h
theorem WK{H:Ax}{ι:Ba}{x:AV}{v u:Value}(h:Rel H ι x v)(e:x.whole=some u):v=u:=by
 cases x with
 | agg cs=>
  obtain⟨us,rfl,hl,hr⟩:=h.agg_inv;simp only[AV.whole,Option.map_eq_some_iff]at e;obtain⟨l,h1,rfl⟩:=e;obtain⟨a1,a2⟩:=sureL_get h1;congr 1;apply Array.ext (by simp;omega);intro i h1 h2;obtain⟨x,hx⟩: ∃x,cs[i]?=some x:=⟨cs[i]'(by omega),by simp[hl,h1]⟩
  obtain⟨w,w1,w2⟩:=a2 i x hx;have:=R1 (hr i x us[i] hx (by simp[h1])) w2;rw[this];rw[List.getElem?_eq_some_iff]at w1;obtain⟨_,w1⟩:=w1;simp[w1]
 | _=>exact R1 h e
section
variable {P : Program} {T : Nat -> Option Ar} {o : Oper} {e : As} {h : Ab}
theorem Y4{d:TypeDesc}(h:Gw P d≠ .other): ∀m,d≠ .interface m:=fun m e=>by subst e;exact h rfl
theorem JT(hT:Cn P T){t:TypeId}{x:Operand}{y:AV}{u:Value}{i:Ar}(ho:o.op= .makeInterface t x)(hx:Ak e x=some y)(hy:y.whole=some u)(ht:T t=some i)(hk:i.k≠ .other):QLoc P o e h [] (.val (.iface t u)):=by
 intro H ι a w s hs g1 g2;have hx':Ak s.env x=some y:=by rw[g1 x (by rw[ho];simp[Op.operands]),hx]
 have hv:=WK (Am hs hx') hy;obtain⟨info,d,e1,e2,e3,e4,e5,e6⟩:=Aj (hT _ _ ht);have hd:=Y4 (P:=P) (d:=d) (e3▸hk);refine⟨.iface t u,.val _ _ rfl,?_⟩;simp only[execOp,ho,hv,Instr.makeInterface,Sem.run_bind,Al e2,Result.andThen_ok]
 cases d with
 | interface m=>exact absurd rfl (hd m)
 | _=>rfl
theorem J2{f:FuncId}{fn:Func}{recv:Operand}{name:String}{args:Array Operand}{tys:Array TypeId}{t:TypeId}{v:Value}{x0:AV}{xs:List AV}{r:AV}(ho:o.op= .call {callee:=.invoke recv name,args:=args,argTypes:=tys})
 (hr:Ak e recv=some (.val (.iface t v))) (hm: ∀w,(method (P.types.size+Made.depth) t v name).run P w= .ok (f,v) w) (hv: ∀H,Rel H AQ x0 v)
 (hf:P.funcs[f]?=some fn) (hn:(fn.name== "runtime.NumGoroutine")=false) (hb:fn.body.isSome=true)
 (hx:AR e args.toList=some xs) (hp:xs.all AV.isPure=true) (hc:APure P f (x0::xs) (fun r'=>r'=r)):OLoc P o e h [] [] (some r):=by
 intro H ι a w s Q hs g1 g2;have hx':AR s.env args.toList=some xs:=by
  exact YI
 have hr':Ak s.env recv=some (.val (.iface t v)):=by rw[g1 recv HC,hr]
 have hre:=((Am hs hr').val_inv).1;have hra:=B3 hs hx';have hra':RelAll H AQ (x0::xs) (#[v]++args.map a.eval):=by
  have h1:RelAll H AQ [x0] #[v]:=⟨rfl,fun j x u h1 h2=>by
   cases j with
   | zero=>simp at h1 h2;subst h1;subst h2;exact hv H
   | succ j=>simp at h1⟩
  exact Ci h1 ⟨hra.1,fun j x u h1 h2=>FR (List.all_eq_true.1 hp x (List.mem_of_getElem? h1)) (hra.2 j x u h1 h2)⟩
 have hcall:=hc H w _ hra' (K2 hs.heap);have hexec:(execOp a.eval o).run P w= .ok (.enter f (#[v]++args.map a.eval)) w:=by
  have h0:(#[Value.iface t v]++args.map a.eval)[0]?=some (.iface t v):=by
   rw[Array.getElem?_append_left (by simp)];rfl
  have hex:(#[Value.iface t v]++args.map a.eval).extract 1 (#[Value.iface t v]++args.map a.eval).size=args.map a.eval:=by
   apply Array.ext';simp only[Array.toList_extract,Array.toList_append,Array.toList_map,Array.size_append,Array.size_map,List.extract_eq_take_drop];exact List.take_of_length_le (by simp)
  simp only[execOp,ho,resolve,hre,invoke,Sem.run_bind,Sem.run_pure,Result.andThen_ok,h0,hex,callMethod,run_program,hm w,BO hf hn hb]
 exact ju
theorem Xu{f:FuncId}{fn:Func}{y:Operand}{args:Array Operand}{tys:Array TypeId}{xs:List AV}{r:AV}(ho:o.op= .call {callee:=.value y,args:=args,argTypes:=tys})
 (hy:Ak e y=some (.val (.func (.func f) #[] #[]))) (hf:P.funcs[f]?=some fn) (hn:(fn.name== "runtime.NumGoroutine")=false) (hb:fn.body.isSome=true)
 (hx:AR e args.toList=some xs) (hp:xs.all AV.isPure=true) (hc:APure P f xs (fun r'=>r'=r)):OLoc P o e h [] [] (some r):=by
 intro H ι a w s Q hs g1 g2;have hx':AR s.env args.toList=some xs:=by
  exact YI
 have hy':Ak s.env y=some (.val (.func (.func f) #[] #[])):=by rw[g1 y HC,hy]
 have hye:=((Am hs hy').val_inv).1;have hra:=B3 hs hx';have hra':RelAll H AQ xs (args.map a.eval):=⟨hra.1,fun j x v h1 h2=>FR (List.all_eq_true.1 hp x (List.mem_of_getElem? h1)) (hra.2 j x v h1 h2)⟩;have hcall:=hc H w _ hra' (K2 hs.heap);have hexec:(execOp a.eval o).run P w= .ok (.enter f (args.map a.eval)) w:=by
  simp only[execOp,ho,resolve,hye,Deferred.ofValue,invoke,Sem.run_bind,Sem.run_pure,Result.andThen_ok,Array.append_empty,Array.empty_append,BO hf hn hb]
 exact ju
end
def bQ(k:Int)(f:Nat):Value:=.agg #[.int .i64 k,.func (.func f) #[] #[]]
def VX(k:Int):Value:=bif k==1 then .iface 97 (bQ 1 41)else bif k==2 then .iface 97 (bQ 2 42)else bif k==3 then .iface 97 (bQ 3 43)else bif k==4 then .iface 99 (.agg #[.int .i64 4])else .nilIface
theorem d9{k:Int}(h1:k≠1)(h2:k≠2)(h3:k≠3)(h4:k≠4):kind35 k=false:=by
 rw[kind35,decide_eq_false_iff_not];omega
theorem ZW{k:Int}(h1:k≠1)(h2:k≠2)(h3:k≠3)(h4:k≠4):VX k= .nilIface:=by
 have a1:(k==1)=false:=beq_eq_false_iff_ne.2 h1;have a2:(k==2)=false:=beq_eq_false_iff_ne.2 h2;have a3:(k==3)=false:=beq_eq_false_iff_ne.2 h3;have a4:(k==4)=false:=beq_eq_false_iff_ne.2 h4;simp[VX,a1,a2,a3,a4]
theorem UL{k:Int}(h:kind35 k=true):k=1\/k=2\/k=3\/k=4:=by
 have:=of_decide_eq_true h;omega
theorem Sh{H:Ax}{ι:Ba}{v:Value}(h:Rel H ι .nil v):Rel H ι (.lst false []) v:=by
 rw[h.nil_inv];exact .lst0 _ _ none 0 (fun h=>by cases h) (Nat.zero_le _) (fun _=>rfl) trivial
section
variable {P : Program} {T : Nat -> Option Ar} {o : Oper} {e : As} {h : Ab}
theorem Xv(hT:Cn P T){t t':TypeId}{x y:Operand}{i i' j:Ar}{u u':Nat}{es2:List (List AV)}{q:AV}{R:List Nat}(b:Nat)
 (ho:o.op= .call {callee:=.builtin .append,args:= #[x,y],argTypes:= #[t,t']}) (hx:Ak e x=some .nil) (hy:Ak e y=some q) (hi:T t=some i) (hk:i.k= .slice u) (hj:T u=some j) (hi':T t'=some i') (hk':i'.k= .slice u')
 (hb:h b=some .free) (hz:j.zero.length=j.size) (hp:0<j.size) (hsrc:SrcOf h q R es2) (hu2: ∀cs∈es2,cs.length=j.size) (hne:0<es2.length)
 (hby:es2.length*j.bytes<=140737488355328) (hml:es2.length<=maxLen):
 OLoc P o e h (b::R) [(b,.row false j.size es2)] (some (.ref b es2.length 0 es2.length)):=by
 refine DL hb (by simp) hp fun H ι a w s hs g1 g2=>?_
 have hx':Ak s.env x=some .nil:=by rw[g1 x HC,hx]
 have hy':Ak s.env y=some q:=by rw[g1 y HC,hy]
 have hsrc':=hsrc.agree (h':=s.h) (fun c hc=>g2 c (by simp[hc]));obtain⟨info,d,e1,e2,e3,e4,e5,e6⟩:=Aj (hT _ _ hi);obtain⟨infou,du,f1,f2,f3,f4,f5,f6⟩:=Aj (hT _ _ hj);obtain⟨info',d',e1',e2',e3',e4',e5',e6'⟩:=Aj (hT _ _ hi');have hd:=Bn (P:=P) (d:=d) (e3▸hk);subst hd;have hd':=Bn (P:=P) (d:=d') (e3'▸hk');subst hd';obtain⟨z,hz1,hz2⟩:=DM f6 hz hp;have hzl:z.cells.size=j.size:=by rw[<-hz];simpa using(Dl (H:=H) (ι:=AQ) hz2).1.symm
 have hvx:=Am hs hx';have hvy:=Am hs hy';generalize hva:a.eval x=va at hvx;generalize hvb:a.eval y=vb at hvy;have hexec: ∀(v:Value) (w':World),(Builtin.append_ #[t,t'] o.type #[va,vb]).run P w= .ok v w'->(execOp a.eval o).run P w= .ok (.value v) w':=fun v w' hrun=>by
  exact Wy
 obtain⟨news,hsrcw,hnews⟩:=KF hs.heap hsrc' hvy e2' hp hu2 w rfl;rw[<-f4]at hsrcw;have hnl:news.length=es2.length*j.size:=by rw[hsrcw.newsLen,f4]
 have h63:((0+es2.length:Nat):Int)<=9223372036854775807:=by
  have:=hml;simp only[maxLen]at this;omega
 obtain⟨base,hv,hold⟩: ∃(base:Option Addr),va= .slice base 0 0/\(Builtin.firstCells infou.size 0 (.slice base 0 0)).run P w.drew= .ok ([]:List Value).toArray w.drew:=by
  have:=hvx.nil_inv;subst this;exact⟨none,rfl,by simp[Builtin.firstCells,loadCells,loadCellsFrom]⟩
 exact j5
end
def EO(T:Nat->Option Ar)(t:Nat):Option Ar:=match T t with
  | some i=>match i.k with
    | .slice u=>T u
    | _=>none
  | none=>none
theorem BU{T:Nat->Option Ar}{t:Nat}{j:Ar}(h:EO T t=some j): ∃i u,T t=some i/\i.k= .slice u/\T u=some j:=by
 unfold EO at h;split at h
 . rename_i i hi;split at h
   . rename_i u hk;exact⟨i,u,hi,hk,h⟩
   . cases h
 . cases h
def FU(h:Ab)(b:Nat):Bool:=match h b with
  | some .free=>true
  | _=>false
theorem CH{h:Ab}{b:Nat}(e:FU h b=true):h b=some .free:=by
 unfold FU at e;split at e
 . assumption
 . cases e
def HH(i:Ar):Bool:=Nat.beq i.zero.length i.size&&(Nat.blt 0 i.size&&i.zero.all AV.cell1)
theorem D8{i:Ar}(h:HH i=true):i.zero.length=i.size/\0<i.size/\i.zero.all AV.cell1=true:=by
 unfold HH at h;rw[Bool.and_eq_true,Bool.and_eq_true]at h;exact⟨Nat.eq_of_beq_eq_true h.1,by have:=h.2.1;simpa[Nat.blt_eq]using this,h.2.2⟩
def ix(P:Program)(T:Nat->Option Ar)(o:Op)(e:As)(h:Ab):Option (List Nat×AV):=
  match o with
  | .indexAddr t x y=>match Ak e x,Ak e y with
    | some (.lst ex es),some (.int k n)=>match EO T t,decide (0<=n),es[n.toNat]? with
      | some j,true,some cs=>match Nat.beq cs.length j.size with
        | true=>some ([],.loc cs)
        | false=>none
      | _,_,_=>none
    | some (.ref b m off len),some (.int k n)=>match EO T t,h b,decide (0<=n),decide (n<len)with
      | some j,some (.row p sz es),true,true=>match Nat.beq m es.length,Nat.beq sz j.size with
        | true,true=>some ([b],.ptr b m (off+n.toNat) 0)
        | _,_=>none
      | _,_,_,_=>none
    | some p,some (.int k n)=>match T t with
      | some i=>match i.k with
        | .array len u=>match T u,decide (0<=n),decide (n<len)with
          | some j,true,true=>match H3 p (n.toNat*j.size)with
            | some r=>some ([],r)
            | none=>none
          | _,_,_=>none
        | _=>none
      | none=>none
    | _,_=>none
  | .build t parts=>match Bv e parts.toList,T t with
    | some ps,some i=>match i.k with
      | .struct fs=>match HH i,FSq T fs ps,In T fs,partCells fs ps i.zero with
        | true,true,true,some r=>some ([],.agg r)
        | _,_,_,_=>none
      | _=>none
    | _,_=>none
  | .makeFunc f first captured=>match AR e first.toList,AR e captured.toList with
    | some xs,some cs=>some ([],.fn f xs cs)
    | _,_=>none
  | .makeInterface t x=>match Ak e x,T t with
    | some y,some i=>match y.whole,i.k with
      | some u,.struct _=>some ([],.val (.iface t u))
      | _,_=>none
    | _,_=>none
  | .unOp .neg t x=>match Ak e x with
    | some (.int k n)=>some ([],.int k (k.wrap (0-n)))
    | _=>none
  | .slice t x none (some y) none=>match Ak e x,Ak e y with
    | some (.ref b n 0 len),some (.int k z)=>match EO T t,h b,decide (0<=z),decide (z.toNat<=len)with
      | some j,some (.row p sz es),true,true=>match Nat.beq n es.length with
        | true=>some ([b],.ref b n 0 z.toNat)
        | false=>none
      | _,_,_,_=>none
    | some (.lst ex es),some (.int k z)=>match EO T t,decide (0<=z),decide (z.toNat<=es.length)with
      | some j,true,true=>match es.all (fun cs=>Nat.beq cs.length j.size)with
        | true=>some ([],.lst (ex&&Nat.beq z.toNat es.length) ((es.take z.toNat).drop 0))
        | false=>none
      | _,_,_=>none
    | _,_=>none
  | _=>none
section
variable {P : Program} {T : Nat -> Option Ar} {o : Oper} {e : As} {h : Ab} {R : List Nat} {r : AV}
theorem qEv2_spec(hT:Cn P T)(hq:ix P T o.op e h=some (R,r)):QLoc P o e h R r:=by
 unfold ix at hq;split at hq
 . rename_i t x y ho;split at hq
   . rename_i ex es k n hx hy;split at hq
     . rename_i j cs hj h0 hn;split at hq
       . rename_i hs;simp only[Option.some.injEq,Prod.mk.injEq]at hq;obtain⟨rfl,rfl⟩:=hq;obtain⟨i,u,a1,a2,a3⟩:=BU hj;exact At hT ho hx hy a1 a2 a3 (of_decide_eq_true h0) hn (Nat.eq_of_beq_eq_true hs)
       . cases hq
     . cases hq
   . rename_i b m off len k n hx hy;split at hq
     . rename_i j p sz es hj hb h0 hn;split at hq
       . rename_i h1 h2;simp only[Option.some.injEq,Prod.mk.injEq]at hq;obtain⟨rfl,rfl⟩:=hq;obtain⟨i,u,a1,a2,a3⟩:=BU hj;exact Ac hT ho hx hy a1 a2 a3 hb (Nat.eq_of_beq_eq_true h1) (Nat.eq_of_beq_eq_true h2) (of_decide_eq_true h0) (of_decide_eq_true hn)
       . cases hq
     . cases hq
   . rename_i p k n _ _ hx hy;split at hq
     . rename_i i hi;split at hq
       . rename_i len u hk;split at hq
         . rename_i j hj h0 hn;split at hq
           . rename_i r' hr;simp only[Option.some.injEq,Prod.mk.injEq]at hq;obtain⟨rfl,rfl⟩:=hq;exact Sn hT ho hx hy hi hk hj (of_decide_eq_true h0) (of_decide_eq_true hn) hr
           . cases hq
         . cases hq
       . cases hq
     . cases hq
   . cases hq
 . rename_i t parts ho;split at hq
   . rename_i ps i hp hi;split at hq
     . rename_i fs hk;split at hq
       . rename_i r' hz hf ha hr;simp only[Option.some.injEq,Prod.mk.injEq]at hq;obtain⟨rfl,rfl⟩:=hq;obtain⟨z1,z2,z3⟩:=D8 hz;exact QL hT ho hp hi hk z1 z2 hf ha hr
       . cases hq
     . cases hq
   . cases hq
 . rename_i f first captured ho
   split at hq
   . rename_i xs cs hx hc;simp only[Option.some.injEq,Prod.mk.injEq]at hq;obtain⟨rfl,rfl⟩:=hq;exact FO ho hx hc
   . cases hq
 . rename_i t x ho;split at hq
   . rename_i y i hx hi;split at hq
     . rename_i u fs hy hk;simp only[Option.some.injEq,Prod.mk.injEq]at hq;obtain⟨rfl,rfl⟩:=hq;exact JT hT ho hx hy hi (by rw[hk];intro h;cases h)
     . cases hq
   . cases hq
 . rename_i t x ho;split at hq
   . rename_i k n hx;simp only[Option.some.injEq,Prod.mk.injEq]at hq;obtain⟨rfl,rfl⟩:=hq;exact ny ho hx
   . cases hq
 . rename_i t x y ho;split at hq
   . rename_i b n len k z hx hy;split at hq
     . rename_i j p sz es hj hb h0 hz;split at hq
       . rename_i h1;simp only[Option.some.injEq,Prod.mk.injEq]at hq;obtain⟨rfl,rfl⟩:=hq;obtain⟨i,u,a1,a2,a3⟩:=BU hj;exact E2 hT ho hx hy a1 a2 a3 hb (Nat.eq_of_beq_eq_true h1) (by have:=of_decide_eq_true h0;omega) (of_decide_eq_true hz)
       . cases hq
     . cases hq
   . rename_i ex es k z hx hy;split at hq
     . rename_i j hj h0 hz;split at hq
       . rename_i h1;simp only[Option.some.injEq,Prod.mk.injEq]at hq;obtain⟨rfl,rfl⟩:=hq;obtain⟨i,u,a1,a2,a3⟩:=BU hj;exact HT hT 0 z.toNat ho hx a1 a2 a3 rfl ⟨k,by rw[hy,Int.toNat_of_nonneg (of_decide_eq_true h0)]⟩ (Nat.zero_le _) (of_decide_eq_true hz) (fun cs hc=>Nat.eq_of_beq_eq_true (List.all_eq_true.1 h1 cs hc))
       . cases hq
     . cases hq
   . cases hq
 . cases hq
end
def OCallR(P:Program)(o:Oper)(e:As)(h:Ab)(R:AV->Ab->Prop):Prop:=
  ∀(H:Ax) (ι:Ba) (a:Act) (w:World) (n:Nat) (Q:Exit->Act->World->Prop),Sim H ι ⟨n,e,h⟩ a w->
    o.wp P a w (fun a' w'=>∃v r h' H' ι',R r h'/\a'=a.put o.dst v/\Rel H' ι' r v/\HeapRel H' ι' h' w'/\Step H ι h w H' ι' h' w') Q
section
variable {P : Program} {o : Oper} {e : As} {h : Ab} {R : AV -> Ab -> Prop}
theorem Nk{f:FuncId}{xs:List AV}{us:Act->Array Value}(hus: ∀H ι a w n,Sim H ι ⟨n,e,h⟩ a w->RelAll H ι xs (us a))(hex: ∀H ι a w n,Sim H ι ⟨n,e,h⟩ a w->(execOp a.eval o).run P w= .ok (.enter f (us a)) w)
 (hcall:ACall P f xs h R):OCallR P o e h R:=by
 intro H ι a w n Q hs;have hcalls:=hcall H ι w _ (hus H ι a w n hs) hs.heap;unfold Oper.wp;rw[hex H ι a w n hs];refine hcalls.mono fun en w' hh=>?_
 obtain⟨v,r',h',H',ι',rfl,hR,k1,k2,k3⟩:=hh;exact⟨v,r',h',H',ι',hR,rfl,k1,k2,k3⟩
theorem nG{f:FuncId}{fn:Func}{args:Array Operand}{tys:Array TypeId}{xs:List AV}(ho:o.op= .call {callee:=.value (.func f),args:=args,argTypes:=tys})(hf:P.funcs[f]?=some fn)(hnm:(fn.name== "runtime.NumGoroutine")=false)(hb:fn.body.isSome=true)
 (hx:AR e args.toList=some xs) (hcall:ACall P f xs h R):OCallR P o e h R:=
 Nk (us:=fun a=>args.map a.eval) (fun H ι a w n hs=>B3 hs hx) (fun H ι a w n hs=>by simp[execOp,ho,resolve,Act.eval,Deferred.ofValue,invoke,BO hf hnm hb]) hcall
theorem nF{f:FuncId}{fn:Func}{x:Operand}{args:Array Operand}{tys:Array TypeId}{fs xs cs:List AV}(ho:o.op= .call {callee:=.value x,args:=args,argTypes:=tys})(hfn:Ak e x=some (.fn (.func f) fs cs))(hf:P.funcs[f]?=some fn)(hnm:(fn.name== "runtime.NumGoroutine")=false)(hb:fn.body.isSome=true)
 (hx:AR e args.toList=some xs) (hcall:ACall P f (fs++xs++cs) h R):OCallR P o e h R:=by
 intro H ι a w n Q hs;have hvf:=Am hs hfn;obtain⟨us,vs,hve,k1,k2,k3,k4⟩:=hvf.fn_inv;have hraa:=Ci (Ci ⟨k1,k3⟩ (B3 hs hx)) ⟨k2,k4⟩;have hcalls:=hcall H ι w _ hraa hs.heap;have hexec:(execOp a.eval o).run P w= .ok (.enter f (us++args.map a.eval++vs)) w:=by
  simp only[execOp,ho,resolve,hve,Deferred.ofValue,invoke,Sem.run_bind,Sem.run_pure,Result.andThen_ok,BO hf hnm hb]
 unfold Oper.wp;rw[hexec];refine hcalls.mono fun en w' hh=>?_
 obtain⟨v,r',h',H',ι',rfl,hR,k1,k2,k3⟩:=hh;exact⟨v,r',h',H',ι',hR,rfl,k1,k2,k3⟩
theorem nD{f:FuncId}{fn:Func}{x:Operand}{args:Array Operand}{tys:Array TypeId}{xs:List AV}(ho:o.op= .call {callee:=.value x,args:=args,argTypes:=tys})(hfn:Ak e x=some (.val (.func (.func f) #[] #[])))(hf:P.funcs[f]?=some fn)(hnm:(fn.name== "runtime.NumGoroutine")=false)(hb:fn.body.isSome=true)
 (hx:AR e args.toList=some xs) (hcall:ACall P f xs h R):OCallR P o e h R:=
 Nk (us:=fun a=>args.map a.eval) (fun H ι a w n hs=>B3 hs hx) (fun H ι a w n hs=>by
  have hye:=((Am hs hfn).val_inv).1;simp only[execOp,ho,resolve,hye,Deferred.ofValue,invoke,Sem.run_bind,Sem.run_pure,Result.andThen_ok,Array.append_empty,Array.empty_append,BO hf hnm hb]) hcall
theorem nE{f:FuncId}{fn:Func}{recv:Operand}{name:String}{args:Array Operand}{tys:Array TypeId}{t:TypeId}{v:Value}{x0:AV}{xs:List AV}(ho:o.op= .call {callee:=.invoke recv name,args:=args,argTypes:=tys})
 (hr:Ak e recv=some (.val (.iface t v))) (hm: ∀w,(method (P.types.size+Made.depth) t v name).run P w= .ok (f,v) w) (hv: ∀H,Rel H AQ x0 v)
 (hf:P.funcs[f]?=some fn) (hnm:(fn.name== "runtime.NumGoroutine")=false) (hb:fn.body.isSome=true)
 (hx:AR e args.toList=some xs) (hcall:ACall P f (x0::xs) h R):OCallR P o e h R:=
 Nk (us:=fun a=> #[v]++args.map a.eval) (fun H ι a w n hs=>by
  have h1:RelAll H ι [x0] #[v]:=⟨rfl,fun j x u h1 h2=>by
   cases j with
   | zero=>simp at h1 h2;subst h1;subst h2;exact(hv H).mono (KLe.refl _) (LLe.none _)
   | succ j=>simp at h1⟩
  exact Ci h1 (B3 hs hx)) (fun H ι a w n hs=>by
  have hre:=((Am hs hr).val_inv).1;have h0:(#[Value.iface t v]++args.map a.eval)[0]?=some (.iface t v):=by
   rw[Array.getElem?_append_left (by simp)];rfl
  have hex:(#[Value.iface t v]++args.map a.eval).extract 1 (#[Value.iface t v]++args.map a.eval).size=args.map a.eval:=by
   apply Array.ext';simp only[Array.toList_extract,Array.toList_append,Array.toList_map,Array.size_append,Array.size_map,List.extract_eq_take_drop];exact List.take_of_length_le (by simp)
  simp only[execOp,ho,resolve,hre,invoke,Sem.run_bind,Sem.run_pure,Result.andThen_ok,h0,hex,callMethod,run_program,hm w,BO hf hnm hb]) hcall
theorem Lo{ops:Array Oper}{K:Ai->Prop}{H H':Ax}{ι ι':Ba}{h hn:Ab}{w w':World}(hpost: ∀e a2 w2,Post H' ι' hn w' (B4 K fun _ _=>False) e a2 w2->Post H ι h w (B4 K fun _ _=>False) e a2 w2):
 ∀(l:List Oper) (a1:Act) (w1:World),wpList P ops (Post H' ι' hn w' (B4 K fun _ _=>False)) l a1 w1->wpList P ops (Post H ι h w (B4 K fun _ _=>False)) l a1 w1:=by
 exact n5
theorem AOps.inn{ops:Array Oper}{rest:List Oper}{n:Nat}{K:Ai->Prop}(d:Nat)(hd:o.dst=some d)(hb:Nat.blt d n=true)(hg:AJ ops o e=some true)
 (ho:OCallR P o e h (fun r hn=>AOps P ops rest ⟨n,Aa e d r,hn⟩ K)):AOps P ops (o::rest) ⟨n,e,h⟩ K:=by
 intro H ι a w hs;unfold wpList;rw[C9 hs hg];simp only[if_true];refine .inl (Oper.wp_mono (fun a' w' hx=>?_) (ho H ι a w n _ hs));obtain⟨v,r,hn,H',ι',hr,rfl,h1,h2,h3⟩:=hx;have hs':=hs.put (d:=o.dst) (r:=some r) h2 h3 (fun x ex=>by cases ex;exact h1) (J6 hd hb);rw[hd]at hs' |-;exact Lo (fun e a2 w2 hp=>Post.step hs.heap h2 h3 hp) _ _ _ (hr H' ι' _ w' hs')
end
def Y9(h:Ab):AV->Option (List Nat×List (List AV))
  | .lst ex es=>some ([],es)
  | .nil=>some ([],[])
  | .ref b n off len=>match h b with
    | some (.row p sz es)=>match Nat.beq n es.length with
      | true=>some ([b],(es.drop off).take len)
      | false=>none
    | _=>none
  | _=>none
theorem Ub{h:Ab}{q:AV}{R:List Nat}{es:List (List AV)}(e:Y9 h q=some (R,es)):SrcOf h q R es:=by
 unfold Y9 at e;split at e
 . simp only[Option.some.injEq,Prod.mk.injEq]at e;obtain⟨rfl,rfl⟩:=e;exact .lst _ _
 . simp only[Option.some.injEq,Prod.mk.injEq]at e;obtain⟨rfl,rfl⟩:=e;exact .nil
 . split at e
   . rename_i hb;split at e
     . rename_i h1;simp only[Option.some.injEq,Prod.mk.injEq]at e;obtain⟨rfl,rfl⟩:=e;exact .ref _ _ _ _ _ _ _ hb (Nat.eq_of_beq_eq_true h1)
     . cases e
   . cases e
 . cases e
def cd(n:Nat)(es:List (List AV)):Bool:=es.all fun cs=>Nat.beq cs.length n
theorem Im{n:Nat}{es:List (List AV)}(h:cd n es=true): ∀cs∈es,cs.length=n:=fun cs hc=>Nat.eq_of_beq_eq_true (List.all_eq_true.1 h cs hc)
def Rs(p:Bool)(es:List (List AV)):Bool:= !p||es.all fun cs=>cs.all AV.isPure1
theorem Ku{p:Bool}{es:List (List AV)}(h:Rs p es=true):p=true->∀cs∈es,cs.all AV.isPure1=true:=fun hp cs hc=>by
 unfold Rs at h;rw[hp,Bool.not_true,Bool.false_or]at h;exact List.all_eq_true.1 h cs hc
abbrev ce:=List Nat×List (Nat×AObj)×Option AV×Nat
def appEv(T:Nat->Option Ar)(h:Ab)(k:Nat)(t t':TypeId)(p q:AV):Option ce:=
  match EO T t,EO T t',Y9 h q with
  | some j,some _,some (R,es2)=>match HH j,cd j.size es2 with
    | true,true=>match p with
      | .nil=>match FU h k,Nat.blt 0 es2.length,Nat.ble (es2.length*j.bytes) 140737488355328,Nat.ble es2.length maxLen with
        | true,true,true,true=>some (k::R,[(k,.row false j.size es2)],some (.ref k es2.length 0 es2.length),k+1)
        | _,_,_,_=>none
      | .ref b n 0 len=>match h b with
        | some (.row pu sz es)=>match Nat.beq n es.length,Nat.beq sz j.size,Rs pu es2 with
          | true,true,true=>match Nat.beq len n with
            | true=>match Nat.ble ((es.length+es2.length)*j.bytes) 140737488355328,Nat.ble (es.length+es2.length) maxLen with
              | true,true=>some (b::R,[(b,.row pu sz (es++es2))],some (.ref b (n+es2.length) 0 (n+es2.length)),k)
              | _,_=>none
            | false=>match es2,Nat.ble len n,Nat.ble ((es.length+1)*j.bytes) 140737488355328,Nat.ble (es.length+1) maxLen with
              | [cs2],true,true,true=>some (b::R,[(b,.row pu sz (CN es len cs2))],some (.ref b (CN es len cs2).length 0 (len+1)),k)
              | _,_,_,_=>none
          | _,_,_=>none
        | _=>none
      | _=>none
    | _,_=>none
  | _,_,_=>none
section
variable {P : Program} {T : Nat -> Option Ar} {o : Oper} {e : As} {h : Ab}
theorem appEv_spec(hT:Cn P T){t t':TypeId}{x y:Operand}{p q:AV}{k k':Nat}{R:List Nat}{W:List (Nat×AObj)}{r:Option AV}(ho:o.op= .call {callee:=.builtin .append,args:= #[x,y],argTypes:= #[t,t']})(hx:Ak e x=some p)(hy:Ak e y=some q)
 (hv:appEv T h k t t' p q=some (R,W,r,k')):OLoc P o e h R W r:=by
 unfold appEv at hv;split at hv
 . rename_i j j' R0 es2 hj hj' hs;obtain⟨i,u,a1,a2,a3⟩:=BU hj;obtain⟨i',u',b1,b2,b3⟩:=BU hj';have hsrc:=Ub hs;split at hv
   . rename_i hz hl;obtain⟨z1,z2,z3⟩:=D8 hz;split at hv
     . split at hv
       . rename_i c1 c2 c3 c4;simp only[Option.some.injEq,Prod.mk.injEq]at hv;obtain⟨rfl,rfl,rfl,rfl⟩:=hv;exact Xv hT k ho hx hy a1 a2 a3 b1 b2 (CH c1) z1 z2 hsrc (Im hl) (by simpa[Nat.blt_eq]using c2) (Nat.le_of_ble_eq_true c3) (Nat.le_of_ble_eq_true c4)
       . cases hv
     . rename_i b n len;split at hv
       . rename_i pu sz es hb;split at hv
         . rename_i c1 c2 c3;split at hv
           . rename_i c4;have c4:=Nat.eq_of_beq_eq_true c4;subst c4;split at hv
             . rename_i c5 c6;simp only[Option.some.injEq,Prod.mk.injEq]at hv;obtain⟨rfl,rfl,rfl,rfl⟩:=hv;have c2':=Nat.eq_of_beq_eq_true c2;exact o_append hT ho hx hy a1 a2 a3 b1 b2 hb (Nat.eq_of_beq_eq_true c1) c2' z1 z2 hsrc (by rw[c2'];exact Im hl) (Ku c3) rfl (Nat.le_of_ble_eq_true c5) (Nat.le_of_ble_eq_true c6)
             . cases hv
           . split at hv
             . rename_i cs2 c5 c6 c7;simp only[Option.some.injEq,Prod.mk.injEq]at hv;obtain⟨rfl,rfl,rfl,rfl⟩:=hv;have c2':=Nat.eq_of_beq_eq_true c2;exact KU hT ho hx hy a1 a2 a3 b1 b2 hb (Nat.eq_of_beq_eq_true c1) (Nat.le_of_ble_eq_true c5) c2' z1 z2 hsrc (by rw[c2'];exact Im hl _ (by simp)) (fun hp=>Ku c3 hp _ (by simp)) (Nat.le_of_ble_eq_true c6) (Nat.le_of_ble_eq_true c7)
             . cases hv
         . cases hv
       . cases hv
     . cases hv
   . cases hv
 . cases hv
end
def og(T:Nat->Option Ar)(dst:Option Nat)(o:Op)(e:As)(h:Ab)(k:Nat):Option ce:=
  match o with
  | .alloc t=>match T t,FU h k with
    | some i,true=>match HH i with
      | true=>some ([k],[(k,.row false i.size [i.zero])],some (.ptr k 1 0 0),k+1)
      | false=>none
    | _,_=>none
  | .box t x=>match Ak e x,FU h k with
    | some p,true=>match Nat.blt 0 p.cells.length,p.cells.all AV.cell1 with
      | true,true=>some ([k],[(k,.row false p.cells.length [p.cells])],some (.ptr k 1 0 0),k+1)
      | _,_=>none
    | _,_=>none
  | .store t x y=>match dst,Ak e x,Ak e y,T t with
    | none,some (.ptr b m k0 off),some q,some i=>match h b with
      | some (.row p sz es)=>match es[k0]?,Nat.beq m es.length,Nat.beq q.cells.length i.size,Nat.ble (off+i.size) sz,q.cells.all AV.cell1,(!p||q.cells.all AV.isPure1)with
        | some cs,true,true,true,true,true=>some ([b],[(b,.row p sz (es.set k0 (DZ cs off q.cells)))],none,k)
        | _,_,_,_,_,_=>none
      | _=>none
    | _,_,_,_=>none
  | .buildSlice t len parts=>match Bv e parts.toList,EO T t,FU h k with
    | some ps,some j,true=>match HH j,decide (parts.toList.map (·.1)=List.range parts.toList.length),Nat.beq parts.toList.length len,E0 j.size ps,(partVals ps).all (·.all AV.cell1),Nat.ble (len*j.size) 16777216 with
      | true,true,true,true,true,true=>some ([k],[(k,.row false j.size (partVals ps))],some (.ref k len 0 len),k+1)
      | _,_,_,_,_,_=>none
    | _,_,_=>none
  | .makeSlice t x y=>match Ak e x,Ak e y,EO T t,FU h k with
    | some (.int _ zi),some (.int _ zj),some j,true=>match HH j,decide (0<=zi),decide (0<=zj),Nat.ble zi.toNat zj.toNat,Nat.ble (j.bytes*zj.toNat) 281474976710656,Nat.ble zj.toNat maxLen with
      | true,true,true,true,true,true=>some ([k],[(k,.row false j.size (List.replicate zi.toNat j.zero))],some (.ref k zi.toNat 0 zi.toNat),k+1)
      | _,_,_,_,_,_=>none
    | _,_,_,_=>none
  | .call ⟨.builtin .append,args,tys⟩=>match args.toList,tys.toList with
    | [x,y],[t,t']=>match Ak e x,Ak e y with
      | some p,some q=>appEv T h k t t' p q
      | _,_=>none
    | _,_=>none
  | _=>none
section
variable {P : Program} {T : Nat -> Option Ar} {o : Oper} {e : As} {h : Ab}
theorem Mm{α:Type}{a:Array α}{x y:α}(h:a.toList=[x,y]):a= #[x,y]:=Array.ext' h
theorem xEv_spec(hT:Cn P T){k k':Nat}{R:List Nat}{W:List (Nat×AObj)}{r:Option AV}(hv:og T o.dst o.op e h k=some (R,W,r,k')):OLoc P o e h R W r:=by
 unfold og at hv;split at hv
 . rename_i t ho;split at hv
   . rename_i i hi hf;split at hv
     . rename_i hz;simp only[Option.some.injEq,Prod.mk.injEq]at hv;obtain⟨rfl,rfl,rfl,rfl⟩:=hv;obtain⟨z1,z2,z3⟩:=D8 hz;exact Hg hT k ho hi (CH hf) z1 z2 z3
     . cases hv
   . cases hv
 . rename_i t x ho;split at hv
   . rename_i p hx hf;split at hv
     . rename_i c1 c2;simp only[Option.some.injEq,Prod.mk.injEq]at hv;obtain⟨rfl,rfl,rfl,rfl⟩:=hv;exact fy k ho hx (CH hf) rfl (by simpa[Nat.blt_eq]using c1) c2
     . cases hv
   . cases hv
 . rename_i t x y ho;split at hv
   . rename_i b m k0 off q i hd hx hy hi;split at hv
     . rename_i p sz es hb;split at hv
       . rename_i cs c1 c2 c3 c4 c5 c6;simp only[Option.some.injEq,Prod.mk.injEq]at hv;obtain⟨rfl,rfl,rfl,rfl⟩:=hv;exact o_store hT ho hd hx hy hi hb (Nat.eq_of_beq_eq_true c2) c1 (Nat.eq_of_beq_eq_true c3) (Nat.le_of_ble_eq_true c4) c5 (fun hp=>by rw[hp]at c6;simpa using c6)
       . cases hv
     . cases hv
   . cases hv
 . rename_i t len parts ho;split at hv
   . rename_i ps j hp hj hf;obtain⟨i,u,a1,a2,a3⟩:=BU hj;split at hv
     . rename_i c1 c2 c3 c4 c5 c6;simp only[Option.some.injEq,Prod.mk.injEq]at hv;obtain⟨rfl,rfl,rfl,rfl⟩:=hv;obtain⟨z1,z2,z3⟩:=D8 c1;exact o_litRow hT k false ho hp a1 a2 a3 z1 z2 (of_decide_eq_true c2) (Nat.eq_of_beq_eq_true c3) c4 c5 (fun h=>by cases h) c6 (CH hf)
     . cases hv
   . cases hv
 . rename_i t x y ho;split at hv
   . rename_i k1 zi k2 zj j hx hy hj hf;obtain⟨i,u,a1,a2,a3⟩:=BU hj;split at hv
     . rename_i c1 c2 c3 c4 c5 c6;simp only[Option.some.injEq,Prod.mk.injEq]at hv;obtain⟨rfl,rfl,rfl,rfl⟩:=hv;obtain⟨z1,z2,z3⟩:=D8 c1;exact Az hT k false ho hx hy (Int.toNat_of_nonneg (of_decide_eq_true c2)).symm (Int.toNat_of_nonneg (of_decide_eq_true c3)).symm a1 a2 a3 (CH hf) z1 z2 z3 (Nat.le_of_ble_eq_true c4) (Nat.le_of_ble_eq_true c5) (Nat.le_of_ble_eq_true c6)
     . cases hv
   . cases hv
 . rename_i args tys ho;split at hv
   . rename_i x y t t' ha ht;split at hv
     . rename_i p q hx hy;exact appEv_spec hT (ho.trans (by rw[Mm ha,Mm ht])) hx hy hv
     . cases hv
   . cases hv
 . cases hv
end
section
variable {P : Program} {T : Nat -> Option Ar} {o : Oper} {e : As} {h : Ab}
theorem ac(hT:Cn P T){t:TypeId}{x:Operand}{i:Ar}{u u':Nat}(b:Nat)(ho:o.op= .range t x)(hx:Ak e x=some (.val (.map none)))(hi:T t=some i)(hk:i.k= .map u u')(hb:h b=some .free):OLoc P o e h [b] [(b,.iter0)] (some (.ptr b 0 0 0)):=by
 intro H ι a w s Q hs h1 h2;have hb':s.h b=some .free:=by rw[h2 b (by simp),hb]
 have hx':Ak s.env x=some (.val (.map none)):=by rw[h1 x (by rw[ho];simp[Op.operands]),hx]
 have hv:=((Am hs hx').val_inv).1;obtain⟨info,d,e1,e2,e3,e4,e5,e6⟩:=Aj (hT _ _ hi);have hd:=G5 (P:=P) (d:=d) (e3▸hk);subst hd;obtain⟨u1,u2⟩:=hs.heap.upd (o':=.iter0) (r':=⟨w.heap.size,0,0,1⟩) (w':=w.alloc (.mapIter none 0 #[] 0)) hb' rfl (.inl rfl) (fun _=>.inl (Nat.le_refl _)) (fun rb hlt _=>heap_alloc_old w _ hlt) (by simp) rfl rfl
  ⟨rfl,rfl,by simp[Ent.solid],heap_alloc_new w _⟩
 have hrun:(execOp a.eval o).run P w= .ok (.value (.pointer (some ⟨w.heap.size,0,none⟩))) (w.alloc (.mapIter none 0 #[] 0)):=by
  simp[execOp,ho,Instr.range,hv,Al e2]
 unfold Oper.wp;rw[hrun];refine⟨_,H,_,rfl,fun x ex=>?_,u1,u2⟩
 cases ex
 have:=Rel.ptrL (H:=H) (Dp ι b ⟨w.heap.size,0,0,1⟩) b 0 0 0 _ (Bb _ _ _) rfl;simpa using this
theorem dD{x:Operand}{b:Nat}(ho:o.op= .next x false)(hx:Ak e x=some (.ptr b 0 0 0))(hb:h b=some .iter0):QLoc P o e h [b] (.tup [.bool false]):=by
 intro H ι a w s hs h1 h2;have hb':s.h b=some .iter0:=by rw[h2 b (by simp),hb]
 have hx':Ak s.env x=some (.ptr b 0 0 0):=by rw[h1 x (by rw[ho];simp[Op.operands]),hx]
 obtain⟨r,r1,⟨r2,r2n,r3,r4⟩,r5⟩:=hs.heap.obj b _ hb' rfl;have hv:a.eval x= .pointer (some ⟨r.rb,0,none⟩):=by
  have hv:=Am hs hx';generalize a.eval x=v at hv
  cases hv with
  | ptrL _ _ _ _ _ r' e1 e2=>rw[r1]at e1;cases e1;simp
  | ptrS _ _ _ _ _ r' ad e1 e2=>
   rw[r1]at e1;cases e1;omega
 refine⟨.tuple #[.bool false],.tup _ _ _ rfl (fun j x v h1 h2=>?_),?_⟩
 . cases j with
   | zero=>simp at h1 h2;subst h1;subst h2;exact .bool _ _
   | succ j=>simp at h1
 . have hg:(getObj r.rb).run P w= .ok (.mapIter none 0 #[] 0) w:=by simp[getObj,Sem.run,r4]
   simp[execOp,ho,hv,Instr.next,hg]
end
def RR(K:IntKind):List (AV×AV)->Option Ez
  | []=>some []
  |(.int K' z,v)::r=>match decide (K'=K),RR K r with
    | true,some m=>some ((z,v)::m)
    | _,_=>none
  | _::_=>none
theorem It{K:IntKind}: ∀{l:List (AV×AV)} {m:Ez},RR K l=some m->l=kvs K m
 | [],m,h=>by simp[RR]at h;subst h;rfl
 |(k,v)::r,m,h=>by
  cases k with
  | int K' z=>
   unfold RR at h;split at h
   . rename_i m' h1 h2;simp only[Option.some.injEq]at h;subst h;have:=of_decide_eq_true h1;subst this;rw[It h2];rfl
   . cases h
  | _=>simp[RR]at h
def intOf:TK->Option IntKind
  | .int K=>some K
  | _=>none
theorem Jz{k:TK}{K:IntKind}(h:intOf k=some K):k= .int K:=by
 cases k<;>simp[intOf]at h
 subst h;rfl
def Pt(T:Nat->Option Ar)(t:Nat):Option (IntKind×Nat):=match T t with
  | some i=>match i.k with
    | .map kt et=>match T kt with
      | some j=>match intOf j.k with
        | some K=>some (K,et)
        | none=>none
      | none=>none
    | _=>none
  | none=>none
theorem Jv{T:Nat->Option Ar}{t:Nat}{K:IntKind}{et:Nat}(h:Pt T t=some (K,et)): ∃i j kt,T t=some i/\i.k= .map kt et/\T kt=some j/\j.k= .int K:=by
 unfold Pt at h;split at h
 . rename_i i hi;split at h
   . rename_i kt et' hk;split at h
     . rename_i j hj;split at h
       . rename_i K' hK;simp only[Option.some.injEq,Prod.mk.injEq]at h;obtain⟨rfl,rfl⟩:=h;exact⟨i,j,kt,hi,hk,hj,Jz hK⟩
       . cases h
     . cases h
   . cases h
 . cases h
def Q3(T:Nat->Option Ar)(t:Nat):Bool:=match T t with
  | some i=>match i.k with
    | .map _ _=>true
    | _=>false
  | none=>false
theorem Q2{T:Nat->Option Ar}{t:Nat}(h:Q3 T t=true): ∃i k u,T t=some i/\i.k= .map k u:=by
 unfold Q3 at h;split at h
 . rename_i i hi;split at h
   . rename_i k u hk;exact⟨i,k,u,hi,hk⟩
   . cases h
 . cases h
def Qc(P:Program)(et:Nat):Option AV:=match(P.info? et).bind (·.zero)with
  | some zv=>Ii zv
  | none=>none
theorem Ln{P:Program}{et:Nat}{z0:AV}(h:Qc P et=some z0): ∃zv,(P.info? et).bind (·.zero)=some zv/\Ii zv=some z0:=by
 unfold Qc at h;split at h
 . rename_i zv hz;exact⟨zv,hz,h⟩
 . cases h
def iw(P:Program)(T:Nat->Option Ar)(o:Op)(e:As)(h:Ab):Option (List Nat×AV):=
  match o with
  | .next x false=>match Ak e x with
    | some (.ptr b 0 0 0)=>match h b with
      | some .iter0=>some ([b],.tup [.bool false])
      | _=>none
    | _=>none
  | .lookup t x y true=>match Ak e x,Ak e y,Pt T t with
    | some (.map b),some (.int K z),some (K',et)=>match h b,Qc P et,decide (K'=K)with
      | some (.map l),some z0,true=>match RR K l with
        | some m=>some ([b],.tup [(SY z m).getD z0,.bool (SY z m).isSome])
        | none=>none
      | _,_,_=>none
    | _,_,_=>none
  | .binOp .eql t x y _=>match Ak e x,Ak e y,T t with
    | some (.bool a),some (.bool b),some i=>match i.k with
      | .bool=>some ([],.bool (a==b))
      | _=>none
    | some (.agg xs),some (.agg ys),some i=>match i.k,Mg P t,eqCells xs ys with
      | .struct fs,true,some r=>match C0 T fs xs,C0 T fs ys with
        | true,true=>some ([],.bool r)
        | _,_=>none
      | _,_,_=>none
    | _,_,_=>none
  | .binOp .neq t x y _=>match Ak e x,Ak e y,T t with
    | some (.bool a),some (.bool b),some i=>match i.k with
      | .bool=>some ([],.bool (a !=b))
      | _=>none
    | some (.agg xs),some (.agg ys),some i=>match i.k,Mg P t,eqCells xs ys with
      | .struct fs,true,some r=>match C0 T fs xs,C0 T fs ys with
        | true,true=>some ([],.bool (!r))
        | _,_=>none
      | _,_,_=>none
    | _,_,_=>none
  | _=>none
section
variable {P : Program} {T : Nat -> Option Ar} {o : Oper} {e : As} {h : Ab} {R : List Nat} {r : AV}
theorem qEv3_spec(hT:Cn P T)(hq:iw P T o.op e h=some (R,r)):QLoc P o e h R r:=by
 unfold iw at hq;split at hq
 . rename_i x ho;split at hq
   . rename_i b hx;split at hq
     . rename_i hb;simp only[Option.some.injEq,Prod.mk.injEq]at hq;obtain⟨rfl,rfl⟩:=hq;exact dD ho hx hb
     . cases hq
   . cases hq
 . rename_i t x y ho;split at hq
   . rename_i b K z K' et hx hy ht;split at hq
     . rename_i l z0 hb hz hK;split at hq
       . rename_i m hm;simp only[Option.some.injEq,Prod.mk.injEq]at hq;obtain⟨rfl,rfl⟩:=hq;have hK:=of_decide_eq_true hK;subst hK;obtain⟨i,j,kt,a1,a2,a3,a4⟩:=Jv ht;obtain⟨zv,z1,z2⟩:=Ln hz;exact M6 hT ho hx hy (by rw[hb,It hm]) a1 a2 a3 a4 z1 z2
       . cases hq
     . cases hq
   . cases hq
 . rename_i t x y t' ho;split at hq
   . rename_i a b i hx hy hi;split at hq
     . rename_i hk;simp only[Option.some.injEq,Prod.mk.injEq]at hq;obtain⟨rfl,rfl⟩:=hq;exact Sq hT false ho hx hy hi hk
     . cases hq
   . rename_i xs ys i hx hy hi;split at hq
     . rename_i fs r' hk hp hr;split at hq
       . rename_i h1 h2;simp only[Option.some.injEq,Prod.mk.injEq]at hq;obtain⟨rfl,rfl⟩:=hq;exact Hb hT false ho hx hy hp hi hk h1 h2 hr
       . cases hq
     . cases hq
   . cases hq
 . rename_i t x y t' ho;split at hq
   . rename_i a b i hx hy hi;split at hq
     . rename_i hk;simp only[Option.some.injEq,Prod.mk.injEq]at hq;obtain⟨rfl,rfl⟩:=hq;exact Sq hT true ho hx hy hi hk
     . cases hq
   . rename_i xs ys i hx hy hi;split at hq
     . rename_i fs r' hk hp hr;split at hq
       . rename_i h1 h2;simp only[Option.some.injEq,Prod.mk.injEq]at hq;obtain⟨rfl,rfl⟩:=hq;exact Hb hT true ho hx hy hp hi hk h1 h2 hr
       . cases hq
     . cases hq
   . cases hq
 . cases hq
end
def gz(T:Nat->Option Ar)(dst:Option Nat)(o:Op)(e:As)(h:Ab)(k:Nat):Option ce:=
  match o with
  | .range t x=>match Ak e x,FU h k,Q3 T t with
    | some (.val (.map none)),true,true=>some ([k],[(k,.iter0)],some (.ptr k 0 0 0),k+1)
    | _,_,_=>none
  | .makeMap t none=>match Pt T t,FU h k with
    | some (K,_),true=>some ([k],[(k,.map (kvs K []))],some (.map k),k+1)
    | _,_=>none
  | .mapUpdate t x y u=>match dst,Ak e x,Ak e y,Ak e u,Pt T t with
    | none,some (.map b),some (.int K z),some q,some (K',_)=>match h b,q.isPure,decide (K'=K)with
      | some (.map l),true,true=>match RR K l with
        | some m=>some ([b],[(b,.map (kvs K (I1 z q m)))],none,k)
        | none=>none
      | _,_,_=>none
    | _,_,_,_,_=>none
  | .call ⟨.builtin .delete,args,tys⟩=>match dst,args.toList,tys.toList with
    | none,[x,y],[t,_]=>match Ak e x,Ak e y,Pt T t with
      | some (.map b),some (.int K z),some (K',_)=>match h b,decide (K'=K)with
        | some (.map l),true=>match RR K l with
          | some m=>some ([b],[(b,.map (kvs K (kdel z m)))],none,k)
          | none=>none
        | _,_=>none
      | _,_,_=>none
    | _,_,_=>none
  | _=>none
section
variable {P : Program} {T : Nat -> Option Ar} {o : Oper} {e : As} {h : Ab}
theorem xEv3_spec(hT:Cn P T){k k':Nat}{R:List Nat}{W:List (Nat×AObj)}{r:Option AV}(hv:gz T o.dst o.op e h k=some (R,W,r,k')):OLoc P o e h R W r:=by
 unfold gz at hv;split at hv
 . rename_i t x ho;split at hv
   . rename_i hx hf hm;simp only[Option.some.injEq,Prod.mk.injEq]at hv;obtain⟨rfl,rfl,rfl,rfl⟩:=hv;obtain⟨i,kk,u,a1,a2⟩:=Q2 hm;exact ac hT k ho hx a1 a2 (CH hf)
   . cases hv
 . rename_i t ho;split at hv
   . rename_i K et hm hf;simp only[Option.some.injEq,Prod.mk.injEq]at hv;obtain⟨rfl,rfl,rfl,rfl⟩:=hv;exact II K k ho (CH hf)
   . cases hv
 . rename_i t x y u ho;split at hv
   . rename_i b K z q K' et hd hx hy hu hm;split at hv
     . rename_i l hb hp hK;split at hv
       . rename_i m hl;simp only[Option.some.injEq,Prod.mk.injEq]at hv;obtain⟨rfl,rfl,rfl,rfl⟩:=hv;have hK:=of_decide_eq_true hK;subst hK;obtain⟨i,j,kt,a1,a2,a3,a4⟩:=Jv hm;exact o_mapUpdate hT ho hd hx hy hu hp (by rw[hb,It hl]) a1 a2 a3 a4
       . cases hv
     . cases hv
   . cases hv
 . rename_i args tys ho;split at hv
   . rename_i x y t tk hd ha ht;split at hv
     . rename_i b K z K' et hx hy hm;split at hv
       . rename_i l hb hK;split at hv
         . rename_i m hl;simp only[Option.some.injEq,Prod.mk.injEq]at hv;obtain⟨rfl,rfl,rfl,rfl⟩:=hv;have hK:=of_decide_eq_true hK;subst hK;obtain⟨i,j,kt,a1,a2,a3,a4⟩:=Jv hm;exact Nl hT (ho.trans (by rw[Mm ha,Mm ht])) hd hx hy (by rw[hb,It hl]) a1 a2 a3 a4
         . cases hv
       . cases hv
     . cases hv
   . cases hv
 . cases hv
end
def Hv(K:IntKind):List AV->Option (List Int)
  | []=>some []
  | .int K' z::r=>match decide (K'=K),Hv K r with
    | true,some l=>some (z::l)
    | _,_=>none
  | _::_=>none
theorem Dy{K:IntKind}: ∀{l:List AV} {z:List Int},Hv K l=some z->l=arrAV K z
 | [],z,h=>by simp[Hv]at h;subst h;rfl
 | x::r,z,h=>by
  cases x with
  | int K' n=>
   unfold Hv at h;split at h
   . rename_i l h1 h2;simp only[Option.some.injEq]at h;subst h;have:=of_decide_eq_true h1;subst this;rw[Dy h2];rfl
   . cases h
  | _=>simp[Hv]at h
def unkvA(K:IntKind)(n:Nat):List (AV×AV)->Option HF
  | []=>some []
  |(.agg ks,v)::r=>match Hv K ks,unkvA K n r with
    | some z,some m=>match Nat.beq z.length n with
      | true=>some ((z,v)::m)
      | false=>none
    | _,_=>none
  | _::_=>none
theorem Jh{K:IntKind}{n:Nat}: ∀{l:List (AV×AV)} {m:HF},unkvA K n l=some m->l=Fu K m/\∀p∈m,p.1.length=n
 | [],m,h=>by simp[unkvA]at h;subst h;exact⟨rfl,fun p hp=>by cases hp⟩
 |(k,v)::r,m,h=>by
  cases k with
  | agg ks=>
   unfold unkvA at h;split at h
   . rename_i z m' h1 h2;split at h
     . rename_i h3;simp only[Option.some.injEq]at h;subst h;obtain⟨a1,a2⟩:=Jh h2;refine⟨by rw[a1,Dy h1];rfl,fun p hp=>?_⟩;rcases List.mem_cons.1 hp with rfl | hp
       . exact Nat.eq_of_beq_eq_true h3
       . exact a2 p hp
     . cases h
   . cases h
  | _=>simp[unkvA]at h
def arrTy(P:Program)(T:Nat->Option Ar)(t:Nat):Option (Nat×IntKind):=match T t with
  | some i=>match i.k with
    | .array n e0=>match T e0,Nat.beq (P.cellsOf e0) 1 with
      | some j,true=>match intOf j.k with
        | some K=>some (n,K)
        | none=>none
      | _,_=>none
    | _=>none
  | none=>none
theorem Hs{P:Program}{T:Nat->Option Ar}{t n:Nat}{K:IntKind}(h:arrTy P T t=some (n,K)): ∃i e0 j,T t=some i/\i.k= .array n e0/\T e0=some j/\j.k= .int K/\P.cellsOf e0=1:=by
 unfold arrTy at h;split at h
 . rename_i i hi;split at h
   . rename_i n' e0 hk;split at h
     . rename_i j hj hc;split at h
       . rename_i K' hK;simp only[Option.some.injEq,Prod.mk.injEq]at h;obtain⟨rfl,rfl⟩:=h;exact⟨i,e0,j,hi,hk,hj,Jz hK,Nat.eq_of_beq_eq_true hc⟩
       . cases h
     . cases h
   . cases h
 . cases h
def QV(P:Program)(T:Nat->Option Ar)(t:Nat):Option (Nat×IntKind×Nat):=match T t with
  | some i=>match i.k with
    | .map kt et=>match arrTy P T kt with
      | some (n,K)=>some (n,K,et)
      | none=>none
    | _=>none
  | none=>none
theorem LA{P:Program}{T:Nat->Option Ar}{t n et:Nat}{K:IntKind}(h:QV P T t=some (n,K,et)): ∃i kt,T t=some i/\i.k= .map kt et/\arrTy P T kt=some (n,K):=by
 unfold QV at h;split at h
 . rename_i i hi;split at h
   . rename_i kt et' hk;split at h
     . rename_i n' K' ha;simp only[Option.some.injEq,Prod.mk.injEq]at h;obtain⟨rfl,rfl,rfl⟩:=h;exact⟨i,kt,hi,hk,ha⟩
     . cases h
   . cases h
 . cases h
section
variable {P : Program} {T : Nat -> Option Ar} {o : Oper} {e : As} {h : Ab}
theorem Up(hT:Cn P T){t:TypeId}{x y:Operand}{b n off len:Nat}{i j:Ar}{u:Nat}{k:IntKind}(ho:o.op= .slice t x (some y) none none)(hx:Ak e x=some (.ref b n off len))(hy:Ak e y=some (.int k (len:Int)))(ht:T t=some i)(hk:i.k= .slice u)(hj:T u=some j)
 {p:Bool} {sz:Nat} {es:List (List AV)} (hb:h b=some (.row p sz es)) (hn:n=es.length) (h0:0<es.length):QLoc P o e h [b] (.lst false []):=by
 intro H ι a w s hs g1 g2;have hx':Ak s.env x=some (.ref b n off len):=by rw[g1 x (by rw[ho];simp[Op.operands]),hx]
 have hy':Ak s.env y=some (.int k (len:Int)):=by rw[g1 y (by rw[ho];simp[Op.operands]),hy]
 have hb':s.h b=some (.row p sz es):=by rw[g2 b (by simp),hb]
 obtain⟨info,d,e1,e2,e3,e4,e5,e6⟩:=Aj (hT _ _ ht);obtain⟨info',d',e1',e2',e3',e4',e5',e6'⟩:=Aj (hT _ _ hj);have hd:=Bn (P:=P) (d:=d) (e3▸hk);subst hd;have hvx:=Am hs hx';have hvy:=(Am hs hy').int_inv;generalize hva:a.eval x=va at hvx;obtain⟨r,r1,⟨o1,o2,o3,o4,o5,o6⟩,_⟩:=hs.heap.obj b _ hb' rfl;have hcs:r.csz≠0:=by
  have:0<es.length*sz:=Nat.mul_pos h0 o2;omega
 obtain⟨hle,cap,rfl,c1,c2,c3⟩:=Rel.ref_live hvx r1 (by rw[hn,o3]) hcs;refine⟨.slice (if cap-len=0 then(some ⟨r.rb,off*r.sz,none⟩)else(some ⟨r.rb,off*r.sz,none⟩:Option Addr).map (·.add (len*j.size))) (len-len) (cap-len),?_,?_⟩
 . rw[Nat.sub_self];exact .lst0 _ _ _ _ (fun h=>by cases h) (by omega) (fun hh=>by split at hh<;>cases hh) trivial
 . simp only[execOp,ho,hva,hvy,Instr.sliceAt,Instr.slice,Option.map_none,Option.map_some,Sem.run_bind,Al e2,Result.andThen_ok,Fq e1',e4',Sem.run_pure];have hce:(cap=len)=(cap-len=0):=propext (by omega);simp[Instr.sliceBounds,Instr.sliceBound,asIntOf,c1,hce]
theorem Ur(hT:Cn P T){t u:TypeId}{x:Operand}{l:List UInt8}{i j k:Ar}{v:Nat}{b n:Nat}{p:Bool}(ho:o.op= .convert t u x)(hx:Ak e x=some (.ref b n 0 n))(hb:h b=some (.row p 1 (Ed l)))(hn:n=l.length)(h0:0<l.length)
 (hi:T t=some i) (hik:i.k= .slice v) (hv:T v=some k) (hk:k.k= .int .u8) (hj:T u=some j) (hjk:j.k= .string):QLoc P o e h [b] (.str ⟨l.toArray⟩):=by
 intro H ι a w s hs g1 g2;have hx':Ak s.env x=some (.ref b n 0 n):=by rw[g1 x (by rw[ho];simp[Op.operands]),hx]
 have hb':s.h b=some (.row p 1 (Ed l)):=by rw[g2 b (by simp),hb]
 obtain⟨info,d,e1,e2,e3,e4,e5,e6⟩:=Aj (hT _ _ hi);obtain⟨info',d',e1',e2',e3',e4',e5',e6'⟩:=Aj (hT _ _ hj);obtain⟨info'',d'',e1'',e2'',e3'',e4'',e5'',e6''⟩:=Aj (hT _ _ hv);have hd:=Bn (P:=P) (d:=d) (e3▸hik);subst hd;have hd:=KC (P:=P) (d:=d') (e3'▸hjk);subst hd;have hd:=Gv (P:=P) (d:=d'') (e3''▸hk);subst hd;have hvx:=Am hs hx';generalize hva:a.eval x=va at hvx;obtain⟨r,r1,⟨o1,o2,o3,o4,o5,o6⟩,_⟩:=hs.heap.obj b _ hb' rfl;have hlen:(Ed l).length=l.length:=by simp[Ed]
 have hcs:r.csz≠0:=by omega
 obtain⟨hle,cap,rfl,c1,c2,c3⟩:=Rel.ref_live hvx r1 (by omega) hcs;obtain⟨c,TT,d1,d2,d3,d4⟩:=o6 hcs;refine⟨_,.str _ _,?_⟩;simp only[execOp,ho,hva,Sem.run_bind];have key:(Go.convert t u (.slice (some ⟨r.rb,0*r.sz,none⟩) n cap)).run P w= .ok (.string ⟨l.toArray⟩) w:=by
  rw[run_convert_bytes_string w t u v (some ⟨r.rb,0*r.sz,none⟩) n cap e2 e2'' e2'];rw[run_bytesToString w _ _ cap (l.map (fun b:UInt8=>((b.toNat:Nat):Int))) ?_,ZQ];have hld:=run_loadCells_list (P:=P) (w:=w) ⟨r.rb,0*r.sz,none⟩ (l.map (fun b:UInt8=>Value.int .u8 b.toNat)) (fun j y hj=>by
   rw[List.getElem?_map]at hj
   cases hlj:l[j]? with
   | none=>rw[hlj]at hj;cases hj
   | some m=>
    rw[hlj]at hj
    cases hj
    have hbc:(Ed l)[j]?=some [AV.int .u8 m.toNat]:=by simp[Ed,hlj]
    obtain⟨v',q1,q2,q3⟩:=d4 j _ 0 _ hbc rfl;rw[ER,d1.cell,Nat.zero_mul,Nat.zero_add];rw[q2.int_inv,Nat.mul_one,Nat.add_zero]at q1;exact q1)
  rw[hn];simpa[List.map_map,Function.comp_def]using hld
 simp only[key,Result.andThen_ok,Sem.run_pure]
end
def JM:List (List AV)->Option (List UInt8)
  | []=>some []
  | [.int .u8 z]::r=>match decide (((UInt8.ofNat z.toNat).toNat:Int)=z),JM r with
    | true,some l=>some (UInt8.ofNat z.toNat::l)
    | _,_=>none
  | _::_=>none
theorem JL: ∀{es:List (List AV)} {l:List UInt8},JM es=some l->es=Ed l
 | [],l,h=>by simp[JM]at h;subst h;rfl
 | cs::r,l,h=>by
  unfold JM at h;split at h
  . rename_i he;cases he
  . rename_i z r' he
    cases he
    split at h
    . rename_i l' h1 h2;simp only[Option.some.injEq]at h;subst h;have h1:=of_decide_eq_true h1;have:=JL h2;rw[this];simp only[Ed,List.map_cons,h1]
    . cases h
  . cases h
def iv(P:Program)(T:Nat->Option Ar)(o:Op)(e:As)(h:Ab):Option (List Nat×AV):=
  match o with
  | .lookup t x y true=>match Ak e x,Ak e y,QV P T t with
    | some (.map b),some (.agg ks),some (n,K,et)=>match h b,Qc P et,Hv K ks with
      | some (.map l),some z0,some z=>match unkvA K n l,Nat.beq z.length n with
        | some m,true=>some ([b],.tup [(Yx z m).getD z0,.bool (Yx z m).isSome])
        | _,_=>none
      | _,_,_=>none
    | _,_,_=>none
  | .build t parts=>match Bv e parts.toList,T t with
    | some ps,some i=>match i.k with
      | .array len u=>match T u with
        | some j=>match HH i,FSq T (P9 len j.size u) ps,partCells (P9 len j.size u) ps i.zero with
          | true,true,some r=>some ([],.agg r)
          | _,_,_=>none
        | none=>none
      | _=>none
    | _,_=>none
  | .binOp .eql t x y _=>match Ak e x,Ak e y,arrTy P T t with
    | some (.agg xs),some (.agg ys),some (n,K)=>match Hv K xs,Hv K ys,P.eqGuardType P.depth t with
      | some l1,some l2,false=>match Nat.beq l1.length n,Nat.beq l2.length n with
        | true,true=>some ([],.bool (decide (l1=l2)))
        | _,_=>none
      | _,_,_=>none
    | _,_,_=>none
  | .binOp .neq t x y _=>match Ak e x,Ak e y,arrTy P T t with
    | some (.agg xs),some (.agg ys),some (n,K)=>match Hv K xs,Hv K ys,P.eqGuardType P.depth t with
      | some l1,some l2,false=>match Nat.beq l1.length n,Nat.beq l2.length n with
        | true,true=>some ([],.bool (!decide (l1=l2)))
        | _,_=>none
      | _,_,_=>none
    | _,_,_=>none
  | .slice t x (some y) none none=>match Ak e x,Ak e y,EO T t with
    | some (.ref b n off len),some (.int k z),some j=>match h b,decide (z=(len:Int))with
      | some (.row p sz es),true=>match Nat.beq n es.length,Nat.blt 0 es.length with
        | true,true=>some ([b],.lst false [])
        | _,_=>none
      | _,_=>none
    | some (.lst ex es),some (.int k z),some j=>match decide (0<=z),decide (z.toNat<=es.length),es.all (fun cs=>Nat.beq cs.length j.size)with
      | true,true,true=>some ([],.lst (ex&&Nat.beq es.length es.length) ((es.take es.length).drop z.toNat))
      | _,_,_=>none
    | _,_,_=>none
  | .slice t x none (some y) (some y')=>match Ak e x,Ak e y,Ak e y',EO T t with
    | some (.lst ex es),some (.int k z),some (.int k' z'),some j=>match decide (z=(es.length:Int)),decide (z'=(es.length:Int))with
      | true,true=>some ([],.lst true es)
      | _,_=>none
    | _,_,_,_=>none
  | .convert t u x=>match Ak e x,EO T t,T u with
    | some (.ref b n 0 m),some k,some j=>match h b,intOf k.k,j.k with
      | some (.row p 1 es),some .u8,.string=>match JM es with
        | some l=>match Nat.beq n m,Nat.beq n l.length,Nat.blt 0 l.length with
          | true,true,true=>some ([b],.str ⟨l.toArray⟩)
          | _,_,_=>none
        | none=>none
      | _,_,_=>none
    | _,_,_=>none
  | _=>none
section
variable {P : Program} {T : Nat -> Option Ar} {o : Oper} {e : As} {h : Ab} {R : List Nat} {r : AV}
theorem Xl(hT:Cn P T)(hq:iv P T o.op e h=some (R,r)):QLoc P o e h R r:=by
 unfold iv at hq;split at hq
 . rename_i t x y ho;split at hq
   . rename_i b ks n K et hx hy ht;split at hq
     . rename_i l z0 z hb hz hks;split at hq
       . rename_i m hm hzn;simp only[Option.some.injEq,Prod.mk.injEq]at hq;obtain⟨rfl,rfl⟩:=hq;obtain⟨i,kt,a1,a2,a3⟩:=LA ht;obtain⟨j,e0,j0,b1,b2,b3,b4,b5⟩:=Hs a3;obtain⟨m1,m2⟩:=Jh hm;obtain⟨zv,z1,z2⟩:=Ln hz;exact Sm hT ho hx (by rw[hy,Dy hks]) (by rw[hb,m1]) a1 a2 b1 b2 b3 b4 b5 (Nat.eq_of_beq_eq_true hzn) m2 z1 z2
       . cases hq
     . cases hq
   . cases hq
 . rename_i t parts ho;split at hq
   . rename_i ps i hp hi;split at hq
     . rename_i len u hk;split at hq
       . rename_i j hj;split at hq
         . rename_i r' hz hf hr;simp only[Option.some.injEq,Prod.mk.injEq]at hq;obtain⟨rfl,rfl⟩:=hq;obtain⟨z1,z2,z3⟩:=D8 hz;exact Sp hT ho hp hi hk hj z1 z2 hf hr
         . cases hq
       . cases hq
     . cases hq
   . cases hq
 . rename_i t x y t' ho;split at hq
   . rename_i xs ys n K hx hy ha;split at hq
     . rename_i l1 l2 h1 h2 hg;split at hq
       . rename_i h3 h4;simp only[Option.some.injEq,Prod.mk.injEq]at hq;obtain⟨rfl,rfl⟩:=hq;obtain⟨j,e0,j0,b1,b2,b3,b4,b5⟩:=Hs ha;exact So hT false ho (by rw[hx,Dy h1]) (by rw[hy,Dy h2]) hg b1 b2 b3 b4 (Nat.eq_of_beq_eq_true h3) (Nat.eq_of_beq_eq_true h4) b5
       . cases hq
     . cases hq
   . cases hq
 . rename_i t x y t' ho;split at hq
   . rename_i xs ys n K hx hy ha;split at hq
     . rename_i l1 l2 h1 h2 hg;split at hq
       . rename_i h3 h4;simp only[Option.some.injEq,Prod.mk.injEq]at hq;obtain⟨rfl,rfl⟩:=hq;obtain⟨j,e0,j0,b1,b2,b3,b4,b5⟩:=Hs ha;exact So hT true ho (by rw[hx,Dy h1]) (by rw[hy,Dy h2]) hg b1 b2 b3 b4 (Nat.eq_of_beq_eq_true h3) (Nat.eq_of_beq_eq_true h4) b5
       . cases hq
     . cases hq
   . cases hq
 . rename_i t x y ho;split at hq
   . rename_i b n off len k z j hx hy hj;split at hq
     . rename_i p sz es hb hz;split at hq
       . rename_i h1 h2;simp only[Option.some.injEq,Prod.mk.injEq]at hq;obtain⟨rfl,rfl⟩:=hq;obtain⟨i,u,a1,a2,a3⟩:=BU hj;exact Up hT ho hx (by rw[hy,of_decide_eq_true hz]) a1 a2 a3 hb (Nat.eq_of_beq_eq_true h1) (by simpa[Nat.blt_eq]using h2)
       . cases hq
     . cases hq
   . rename_i ex es k z j hx hy hj;split at hq
     . rename_i h0 hz h1;simp only[Option.some.injEq,Prod.mk.injEq]at hq;obtain⟨rfl,rfl⟩:=hq;obtain⟨i,u,a1,a2,a3⟩:=BU hj;exact HT hT z.toNat es.length ho hx a1 a2 a3 ⟨k,by rw[hy,Int.toNat_of_nonneg (of_decide_eq_true h0)]⟩ rfl (of_decide_eq_true hz) (Nat.le_refl _) (fun cs hc=>Nat.eq_of_beq_eq_true (List.all_eq_true.1 h1 cs hc))
     . cases hq
   . cases hq
 . rename_i t x y y' ho;split at hq
   . rename_i ex es k z k' z' j hx hy hy' hj;split at hq
     . rename_i h1 h2;simp only[Option.some.injEq,Prod.mk.injEq]at hq;obtain⟨rfl,rfl⟩:=hq;obtain⟨i,u,a1,a2,a3⟩:=BU hj;exact Sk hT ho hx (by rw[hy,of_decide_eq_true h1]) (by rw[hy',of_decide_eq_true h2]) a1 a2 a3
     . cases hq
   . cases hq
 . rename_i t u x ho;split at hq
   . rename_i b n m k j hx hk hj;split at hq
     . rename_i p es hb hku hjk;split at hq
       . rename_i l hl;split at hq
         . rename_i h1 h2 h3;simp only[Option.some.injEq,Prod.mk.injEq]at hq;obtain⟨rfl,rfl⟩:=hq;obtain⟨i,v,a1,a2,a3⟩:=BU hk;have h1:=Nat.eq_of_beq_eq_true h1;subst h1;exact Ur hT ho hx (by rw[hb,JL hl]) (Nat.eq_of_beq_eq_true h2) (by simpa[Nat.blt_eq]using h3) a1 a2 a3 (Jz hku) hj hjk
         . cases hq
       . cases hq
     . cases hq
   . cases hq
 . cases hq
end
def gy(P:Program)(T:Nat->Option Ar)(dst:Option Nat)(o:Op)(e:As)(h:Ab)(k:Nat):Option ce:=
  match o with
  | .makeMap t none=>match FU h k with
    | true=>some ([k],[(k,.map (kvs .i64 []))],some (.map k),k+1)
    | false=>none
  | .mapUpdate t x y u=>match dst,Ak e x,Ak e y,Ak e u,QV P T t with
    | none,some (.map b),some (.agg ks),some q,some (n,K,_)=>match h b,q.isPure,Hv K ks with
      | some (.map l),true,some z=>match unkvA K n l,Nat.beq z.length n with
        | some m,true=>some ([b],[(b,.map (Fu K (OQ z q m)))],none,k)
        | _,_=>none
      | _,_,_=>none
    | _,_,_,_,_=>none
  | _=>none
theorem WE{P:Program}{T:Nat->Option Ar}{o:Oper}{e:As}{h:Ab}(hT:Cn P T){k k':Nat}{R:List Nat}{W:List (Nat×AObj)}{r:Option AV}(hv:gy P T o.dst o.op e h k=some (R,W,r,k')):OLoc P o e h R W r:=by
 unfold gy at hv;split at hv
 . rename_i t ho;split at hv
   . rename_i hf;simp only[Option.some.injEq,Prod.mk.injEq]at hv;obtain⟨rfl,rfl,rfl,rfl⟩:=hv;exact II .i64 k ho (CH hf)
   . cases hv
 . rename_i t x y u ho;split at hv
   . rename_i b ks q n K et hd hx hy hu ht;split at hv
     . rename_i l z hb hp hks;split at hv
       . rename_i m hm hzn;simp only[Option.some.injEq,Prod.mk.injEq]at hv;obtain⟨rfl,rfl,rfl,rfl⟩:=hv;obtain⟨i,kt,a1,a2,a3⟩:=LA ht;obtain⟨j,e0,j0,b1,b2,b3,b4,b5⟩:=Hs a3;obtain⟨m1,m2⟩:=Jh hm;exact o_mapUpdateA hT ho hd hx (by rw[hy,Dy hks]) hu hp (by rw[hb,m1]) a1 a2 b1 b2 b3 b4 b5 (Nat.eq_of_beq_eq_true hzn) m2
       . cases hv
     . cases hv
   . cases hv
 . cases hv
def dF(P:Program)(T:Nat->Option Ar)(o:Op)(e:As)(h:Ab):Option (List Nat×AV):=match nz T o e h with
  | some r=>some r
  | none=>match ix P T o e h with
    | some r=>some r
    | none=>match iw P T o e h with
      | some r=>some r
      | none=>iv P T o e h
def WF(P:Program)(T:Nat->Option Ar)(dst:Option Nat)(o:Op)(e:As)(h:Ab)(k:Nat):Option ce:=match og T dst o e h k with
  | some r=>some r
  | none=>match gz T dst o e h k with
    | some r=>some r
    | none=>gy P T dst o e h k
section
variable {P : Program} {T : Nat -> Option Ar} {o : Oper} {e : As} {h : Ab} {R : List Nat} {r : AV}
theorem Pc(hT:Cn P T)(hq:dF P T o.op e h=some (R,r)):QLoc P o e h R r:=by
 unfold dF at hq;split at hq
 . rename_i r' h1;rw[Option.some.injEq]at hq;subst hq;exact qEv_spec hT h1
 . split at hq
   . rename_i r' h1;rw[Option.some.injEq]at hq;subst hq;exact qEv2_spec hT h1
   . split at hq
     . rename_i r' h1;rw[Option.some.injEq]at hq;subst hq;exact qEv3_spec hT h1
     . exact Xl hT hq
theorem Iq(hT:Cn P T){k k':Nat}{W:List (Nat×AObj)}{r:Option AV}(hv:WF P T o.dst o.op e h k=some (R,W,r,k')):OLoc P o e h R W r:=by
 unfold WF at hv;split at hv
 . rename_i r' h1;rw[Option.some.injEq]at hv;subst hv;exact xEv_spec hT h1
 . split at hv
   . rename_i r' h1;rw[Option.some.injEq]at hv;subst hv;exact xEv3_spec hT h1
   . exact WE hT hv
end
def Nj:Value->Option AV
  | .int k n=>some (.int k n)
  | .bool b=>some (.bool b)
  | .string s=>some (.str s)
  | .func f a b=>some (.val (.func f a b))
  | _=>none
def Nh:List Value->Option (List AV)
  | []=>some []
  | v::vs=>match Nj v,Nh vs with
    | some x,some xs=>some (x::xs)
    | _,_=>none
def Z9:Value->Option AV
  | .agg cs=>match Nh cs.toList with
    | some xs=>some (.agg xs)
    | none=>none
  | v=>Nj v
theorem Ni{v:Value}{x:AV}(h:Nj v=some x)(H:Ax):Rel H AQ x v:=by
 cases v<;>simp[Nj]at h<;>subst h
 . exact .bool _ _
 . exact .int _ _ _
 . exact .str _ _
 . exact .val _ _ rfl
theorem Ng: ∀{l:List Value} {xs:List AV},Nh l=some xs->xs.length=l.length/\∀(j:Nat) (x:AV) (v:Value),xs[j]?=some x->l[j]?=some v->Nj v=some x
 | [],xs,h=>by simp[Nh]at h;subst h;exact⟨rfl,fun j x v h=>by simp at h⟩
 | v::vs,xs,h=>by
  unfold Nh at h;split at h
  . rename_i x ys h1 h2;simp at h;subst h;obtain⟨a1,a2⟩:=Ng h2;refine⟨by simp[a1],fun j y u e1 e2=>?_⟩
    cases j with
    | zero=>simp at e1 e2;subst e1;subst e2;exact h1
    | succ j=>exact a2 j y u (by simpa using e1) (by simpa using e2)
  . cases h
theorem GN{v:Value}{x:AV}(h:Z9 v=some x)(H:Ax):Rel H AQ x v:=by
 unfold Z9 at h;split at h
 . rename_i cs;split at h
   . rename_i xs e;simp at h;subst h;obtain⟨a1,a2⟩:=Ng e;exact .agg _ _ _ (by simpa using a1) (fun j x v e1 e2=>Ni (a2 j x v e1 (by simpa using e2)) H)
   . cases h
 . exact Ni h H
def Kq(mt:Nat->String->Option Nat)(o:Op)(e:As):Option (Nat×List AV):=
  match o with
  | .call ⟨.value x,args,_⟩=>match Ak e x,AR e args.toList with
    | some (.fn (.func f) fs cs),some xs=>some (f,fs++xs++cs)
    | some (.val (.func (.func f) a b)),some xs=>match a.toList,b.toList with
      | [],[]=>some (f,xs)
      | _,_=>none
    | _,_=>none
  | .call ⟨.invoke recv name,args,_⟩=>match Ak e recv,AR e args.toList with
    | some (.val (.iface t v)),some xs=>match mt t name,Z9 v with
      | some f,some x0=>some (f,x0::xs)
      | _,_=>none
    | _,_=>none
  | _=>none
def aB(P:Program)(mt:Nat->String->Option Nat):Prop:=∀t name f v w,mt t name=some f->(method (P.types.size+Made.depth) t v name).run P w= .ok (f,v) w
def NL(P:Program)(f:Nat):Option (Func×Code):=match P.funcs[f]? with
  | some fn=>match fn.body,fn.name== "runtime.NumGoroutine" with
    | some c,false=>some (fn,c)
    | _,_=>none
  | none=>none
theorem EN{P:Program}{f:Nat}{fn:Func}{c:Code}(h:NL P f=some (fn,c)):P.funcs[f]?=some fn/\fn.body=some c/\(fn.name== "runtime.NumGoroutine")=false:=by
 unfold NL at h;split at h
 . rename_i fn' hf;split at h
   . rename_i c' hb hn;simp only[Option.some.injEq,Prod.mk.injEq]at h;obtain⟨rfl,rfl⟩:=h;exact⟨hf,hb,hn⟩
   . cases h
 . cases h
section
variable {P : Program} {T : Nat -> Option Ar} {o : Oper} {e : As} {h : Ab} {R : AV -> Ab -> Prop}
theorem Wo{α:Type}{a:Array α}(h:a.toList=[]):a= #[]:=Array.ext' h
theorem Jd{mt:Nat->String->Option Nat}(hmt:aB P mt){f:Nat}{xs:List AV}{fn:Func}(hc:Kq mt o.op e=some (f,xs))(hf:P.funcs[f]?=some fn)(hnm:(fn.name== "runtime.NumGoroutine")=false)(hb:fn.body.isSome=true)(hcall:ACall P f xs h R):OCallR P o e h R:=by
 unfold Kq at hc;split at hc
 . rename_i x args tys ho;split at hc
   . rename_i f' fs cs ys hx hl;simp only[Option.some.injEq,Prod.mk.injEq]at hc;obtain⟨rfl,rfl⟩:=hc;exact nF ho hx hf hnm hb hl hcall
   . rename_i f' a b ys hx hl;split at hc
     . rename_i ha hb';simp only[Option.some.injEq,Prod.mk.injEq]at hc;obtain⟨rfl,rfl⟩:=hc;exact nD ho (by rw[hx,Wo ha,Wo hb']) hf hnm hb hl hcall
     . cases hc
   . cases hc
 . rename_i recv name args tys ho;split at hc
   . rename_i t v ys hx hl;split at hc
     . rename_i f' x0 hm hv;simp only[Option.some.injEq,Prod.mk.injEq]at hc;obtain⟨rfl,rfl⟩:=hc;exact nE ho hx (fun w=>hmt t name f' v w hm) (GN hv) hf hnm hb hl hcall
     . cases hc
   . cases hc
 . cases hc
theorem YC{ops:Array Oper}{rest:List Oper}{n:Nat}{K:Ai->Prop}(hd:o.dst=none)(hg:AJ ops o e=some true)
 (ho:OCallR P o e h (fun r hn=>AOps P ops rest ⟨n,e,hn⟩ K)):AOps P ops (o::rest) ⟨n,e,h⟩ K:=by
 intro H ι a w hs;unfold wpList;rw[C9 hs hg];simp only[if_true];refine .inl (Oper.wp_mono (fun a' w' hx=>?_) (ho H ι a w n _ hs));obtain⟨v,r,hn,H',ι',hr,rfl,h1,h2,h3⟩:=hx;have hs':=hs.put (v:=v) (d:=o.dst) (r:=none) h2 h3 (fun x ex=>by cases ex) (fun t e=>by rw[hd]at e;cases e);rw[hd]at hs' |-;exact Lo (fun e a2 w2 hp=>Post.step hs.heap h2 h3 hp) _ _ _ (hr H' ι' _ w' hs')
theorem fi{ops:Array Oper}{rest:List Oper}{n:Nat}{K:Ai->Prop}(hd:o.dst=none)(hg:AJ ops o e=some false)(hr:AOps P ops rest ⟨n,e,h⟩ K):AOps P ops (o::rest) ⟨n,e,h⟩ K:=by
 have:=AOps.skip (P:=P) (ops:=ops) (s:=⟨n,e,h⟩) (K:=K) (o:=o) (rest:=rest) hg (fun t e=>by rw[hd]at e;cases e);rw[hd]at this;exact this hr
end
def frz1(b m:Nat)(es:List (List AV)):AV->AV
  | .ref b' n off len=>bif Nat.beq b' b&&Nat.beq n m then .lst false ((es.drop off).take len)else .ref b' n off len
  | x=>x
def nN(b m:Nat)(es:List (List AV)):AV->AV
  | .agg cs=>.agg (cs.map (frz1 b m es))
  | x=>frz1 b m es x
def nM(b m:Nat)(es:List (List AV)):AV->AV
  | .agg cs=>.agg (cs.map (frz1 b m es))
  | .tup cs=>.tup (cs.map (nN b m es))
  | x=>frz1 b m es x
def iO(b m:Nat)(es:List (List AV)):AObj->AObj
  | .row false sz rs=>.row false sz (rs.map fun cs=>cs.map (frz1 b m es))
  | o=>o
def iP(b m:Nat)(es:List (List AV))(e:As):As:=fun t=>match e t with
  | some x=>some (nM b m es x)
  | none=>none
def UQ(b m:Nat)(es:List (List AV))(h:Ab):Ab:=fun c=>bif Nat.beq c b then none else match h c with
  | some o=>some (iO b m es o)
  | none=>none
theorem XS(b m:Nat)(es:List (List AV))(x:AV)(h:x.cell1=true):(frz1 b m es x).cell1=true:=by
 cases x with
 | ref b' n off len=>
  show(bif Nat.beq b' b&&Nat.beq n m then AV.lst false ((es.drop off).take len)else .ref b' n off len).cell1=true
  cases Nat.beq b' b&&Nat.beq n m<;>rfl
 | _=>exact h
section
variable {H H' : Ax} {b m : Nat} {es : List (List AV)}
theorem Kh(u3:KLe H H'){ι:Ba}(u4: ∀(v:Value) (off len:Nat),Rel H ι (.ref b m off len) v->Rel H' ι (.lst false ((es.drop off).take len)) v){x:AV}{v:Value}(h:Rel H ι x v):Rel H' ι (frz1 b m es x) v:=by
 cases x with
 | ref b' n off len=>
  show Rel H' ι (bif Nat.beq b' b&&Nat.beq n m then AV.lst false ((es.drop off).take len)else .ref b' n off len) v
  cases e:Nat.beq b' b&&Nat.beq n m with
  | false=>exact h.mono u3 (LLe.refl _)
  | true=>
   rw[Bool.and_eq_true]at e;have e1:=Nat.eq_of_beq_eq_true e.1;have e2:=Nat.eq_of_beq_eq_true e.2;subst e1;subst e2;exact u4 v off len h
 | _=>exact h.mono u3 (LLe.refl _)
theorem Tl(u3:KLe H H'){ι:Ba}(u4: ∀(v:Value) (off len:Nat),Rel H ι (.ref b m off len) v->Rel H' ι (.lst false ((es.drop off).take len)) v){x:AV}{v:Value}(h:Rel H ι x v):Rel H' ι (nN b m es x) v:=by
 cases x with
 | agg cs=>
  obtain⟨us,rfl,hl,hr⟩:=h.agg_inv;refine .agg _ _ us (by simpa using hl) fun j x v h1 h2=>?_
  rw[List.getElem?_map]at h1
  cases e:cs[j]? with
  | none=>rw[e]at h1;cases h1
  | some y=>rw[e]at h1;cases h1;exact Kh u3 u4 (hr j y v e h2)
 | _=>exact Kh u3 u4 h
theorem bj(u3:KLe H H'){ι:Ba}(u4: ∀(v:Value) (off len:Nat),Rel H ι (.ref b m off len) v->Rel H' ι (.lst false ((es.drop off).take len)) v){x:AV}{v:Value}(h:Rel H ι x v):Rel H' ι (nM b m es x) v:=by
 cases x with
 | agg cs=>exact Tl (x:=.agg cs) u3 u4 h
 | tup cs=>
  obtain⟨us,rfl,hl,hr⟩:=h.tup_inv;refine .tup _ _ us (by simpa using hl) fun j x v h1 h2=>?_
  rw[List.getElem?_map]at h1
  cases e:cs[j]? with
  | none=>rw[e]at h1;cases h1
  | some y=>rw[e]at h1;cases h1;exact Tl u3 u4 (hr j y v e h2)
 | _=>exact Kh u3 u4 h
end
theorem HeapRel.tight{H:Ax}{ι:Ba}{h:Ab}{w:World}{b sz:Nat}{es:List (List AV)}(hr:HeapRel H ι h w)(hb:h b=some (.row false sz es))(hp: ∀cs∈es,cs.all AV.isPure1=true):HeapRel H ι (hput h b (.row true sz es)) w:=by
 have old: ∀c o,hput h b (.row true sz es) c=some o->o.alive=true->∃o',h c=some o'/\o'.alive=true:=fun c o h1 h2=>by
  by_cases hc:c=b
  . subst hc;exact⟨_,hb,rfl⟩
  . rw[AF _ _ hc]at h1;exact⟨o,h1,h2⟩
 refine⟨hr.know,fun c hc=>?_,fun c o h1 h2=>?_,fun c c' o o' r r' h1 h2 h3 h4 h5 h6 h7 h8 h9=>?_,hr.glob⟩
 . by_cases e:c=b
   . subst e;rw[Ap]at hc;cases hc
   . rw[AF _ _ e]at hc;exact hr.free c hc
 . by_cases e:c=b
   . subst e;rw[Ap]at h1
     cases h1
     obtain⟨r,r1,⟨o1,o2,o3,o4,o5,o6⟩,r3⟩:=hr.obj c _ hb rfl;refine⟨r,r1,⟨o1,o2,o3,o4,o5,fun hs=>?_⟩,r3⟩;obtain⟨cc,T,c1,c2,c3,c4⟩:=o6 hs;refine⟨cc,T,c1,c2,c3,fun i cs j x e1 e2=>?_⟩;obtain⟨v,v1,v2,v3⟩:=c4 i cs j x e1 e2;exact⟨v,v1,CU (List.all_eq_true.1 (hp cs (List.mem_of_getElem? e1)) x (List.mem_of_getElem? e2)) v2,v3⟩
   . rw[AF _ _ e]at h1;exact hr.obj c o h1 h2
 . obtain⟨p1,q1,q2⟩:=old c o h1 h2;obtain⟨p2,q3,q4⟩:=old c' o' h3 h4;exact hr.inj c c' p1 p2 r r' q1 q2 q3 q4 h5 h6 h7 h8 h9
theorem YA{n:Nat}{e:As}{h:Ab}{b sz:Nat}{es:List (List AV)}(hb:h b=some (.row false sz es))(hp: ∀cs∈es,cs.all AV.isPure1=true):Ghost ⟨n,e,h⟩ ⟨n,iP b es.length es e,UQ b es.length es h⟩:=fun H ι a w hs=>by
 have hr:=hs.heap;have ht:=hr.tight hb hp;obtain⟨H',u1,u2,u3,u40⟩:=ht.freeze (Ap h b _);have u4:=u40 ι;have hst:Step H ι h w H ι (hput h b (.row true sz es)) w:=⟨Nat.le_refl _,rfl,rfl,fun _ _ _=>rfl,KLe.refl _,fun _ h=>.inl h,LLe.refl _,fun _ _=>rfl,fun _ _ h _=>.inl h,fun c hc=>by
  by_cases hcb:c=b
  . subst hcb;rw[hb]at hc;cases hc
  . rw[AF _ _ hcb];exact hc⟩
 have back: ∀c o,UQ b es.length es h c=some o->∃o',h c=some o'/\o=iO b es.length es o'/\c≠b:=fun c o hc=>by
  unfold UQ at hc
  cases ec:Nat.beq c b with
  | true=>rw[ec]at hc;cases hc
  | false=>
   rw[ec]at hc;simp only[cond_false]at hc;split at hc
   . rename_i o' ho
     cases hc
     exact⟨o',ho,rfl,fun hh=>by subst hh;rw[Nat.beq_refl]at ec;cases ec⟩
   . cases hc
 have al: ∀o,(iO b es.length es o).alive=o.alive:=fun o=>by
  cases o with
  | row p sz rs=>cases p<;>rfl
  | _=>rfl
 have hrm_eq: ∀c,c≠b->hrm (hput h b (.row true sz es)) b c=h c:=fun c hc=>by rw[EL _ hc,AF _ _ hc]
 have hheap:HeapRel H' ι (UQ b es.length es h) w:=by
  refine⟨u1.know,fun c hc=>?_,fun c o h1 h2=>?_,fun c c' o o' r r' h1 h2 h3 h4 h5 h6 h7 h8 h9=>?_,u1.glob⟩
  . obtain⟨o',g1,g2,g3⟩:=back c _ hc
    cases o' with
    | free=>exact hr.free c g1
    | row p sz rs=>cases p<;>cases g2
    | _=>cases g2
  . obtain⟨o',g1,rfl,g3⟩:=back c o h1;rw[al]at h2;obtain⟨r,r1,r2,r3⟩:=u1.obj c o' (by rw[hrm_eq c g3];exact g1) h2;refine⟨r,r1,?_,r3⟩
    cases o' with
    | free=>cases h2
    | map kvs=>exact r2
    | iter0=>exact r2
    | row p sz' rs=>
     cases p with
     | true=>exact r2
     | false=>
      obtain⟨o1,o2,o3,o4,o5,o6⟩:=r2;refine⟨o1,o2,by simpa using o3,by simpa using o4,fun i cs hi=>?_,fun hsol=>?_⟩
      . rw[List.getElem?_map]at hi
        cases ei:rs[i]? with
        | none=>rw[ei]at hi;cases hi
        | some ds=>rw[ei]at hi;cases hi;simpa using o5 i ds ei
      . obtain⟨cc,T,c1,c2,c3,c4⟩:=o6 hsol;refine⟨cc,T,c1,c2,?_,fun i cs j x e1 e2=>?_⟩
        . intro i cs hi;rw[List.getElem?_map]at hi
          cases ei:rs[i]? with
          | none=>rw[ei]at hi;cases hi
          | some ds=>rw[ei]at hi;cases hi;simpa using o5 i ds ei
        . rw[List.getElem?_map]at e1
          cases ei:rs[i]? with
          | none=>rw[ei]at e1;cases e1
          | some ds=>
           rw[ei]at e1;cases e1;rw[List.getElem?_map]at e2
           cases ej:ds[j]? with
           | none=>rw[ej]at e2;cases e2
           | some y=>
            rw[ej]at e2;cases e2;obtain⟨r0,s1,⟨t1,t2,t3,t4,t5,t6⟩,s3⟩:=hr.obj c _ g1 rfl;rw[r1]at s1;cases s1;obtain⟨cc',T',d1,d2,d3,d4⟩:=t6 hsol;obtain⟨fr,f1,_⟩:=c1;obtain⟨fr',f1',_⟩:=d1;rw[f1]at f1'
            cases f1'
            obtain⟨v,v1,v2,v3⟩:=d4 i ds j y ei ej;exact⟨v,v1,Kh u3 u4 v2,XS _ _ _ _ v3⟩
  . obtain⟨p1,g1,rfl,g3⟩:=back c o h1;obtain⟨p2,g4,rfl,g6⟩:=back c' o' h3;rw[al]at h2 h4;exact hr.inj c c' p1 p2 r r' g1 h2 g4 h4 h5 h6 h7 h8 h9
 refine⟨H',ι,⟨hs.n,hs.d,fun u y hy=>?_,hheap⟩,?_⟩
 . simp only[iP]at hy;split at hy
   . rename_i x hx
     cases hy
     obtain⟨v,h1,h2⟩:=hs.env u x hx;exact⟨v,h1,bj u3 u4 h2⟩
   . cases hy
 . have h2:=hst.trans hr ht u2;exact⟨h2.size,h2.os,h2.out,h2.keep,h2.kle,h2.knew,h2.lle,h2.lframe,h2.newrb,fun c hc=>by
    show UQ b es.length es h c=none;unfold UQ
    cases Nat.beq c b with
    | true=>rfl
    | false=>simp only[cond_false];rw[show h c=none from hc]⟩
def Zs(b:Nat):AV->Bool
  | .ref b' _ _ _=>Nat.beq b' b
  | _=>false
def nt(b:Nat):AV->Bool
  | .agg cs=>cs.any (Zs b)
  | x=>Zs b x
def Tj(n k:Nat):List Nat->As->Ab->As×Ab
  | [],e,h=>(e,h)
  | b::l,e,h=>match h b with
    | some (.row false sz es)=>match es.all (fun cs=>cs.all AV.isPure1),(List.range n).any (fun t=>match e t with
        | some x=>nt b x
        | none=>false)||(List.range k).any (fun c=>match h c with
        | some (.row _ _ rs)=>rs.any fun cs=>cs.any (Zs b)
        | _=>false)with
      | true,true=>Tj n k l (iP b es.length es e) (UQ b es.length es h)
      | _,_=>Tj n k l e h
    | _=>Tj n k l e h
theorem EM{n k:Nat}: ∀(l:List Nat) {e e':As} {h h':Ab},Tj n k l e h=(e',h')->Ghost ⟨n,e,h⟩ ⟨n,e',h'⟩
 | [],e,e',h,h',hx=>by
  cases hx
  exact Ghost.of_sub (Sub.mk' (ESub.refl _) (HSub.refl _))
 | b::l,e,e',h,h',hx=>by
  unfold Tj at hx;split at hx
  . rename_i sz es hb;split at hx
    . rename_i hp _;exact Ghost.trans (YA hb fun cs hc=>List.all_eq_true.1 hp cs hc) (EM l hx)
    . exact EM l hx
  . exact EM l hx
def Zr:AV->List Nat
  | .ref b _ _ _=>[b]
  | .ptr b _ _ _=>[b]
  | _=>[]
def QF:AV->List Nat
  | .agg cs=>cs.flatMap Zr
  | x=>Zr x
def QH(h:Ab):Nat->List Nat->List Nat
  | 0,l=>l
  | d+1,l=>QH h d (l.flatMap fun b=>match h b with
    | some (.row _ _ rs)=>rs.flatMap fun cs=>cs.flatMap Zr
    | _=>[])++l
def Tk(fz:Nat->Nat->Option Nat)(n id k:Nat)(e:As)(h:Ab):As×Ab:=match fz n id with
  | some t=>match e t with
    | some x=>Tj n k (QH h 3 (QF x)) e h
    | none=>(e,h)
  | none=>(e,h)
theorem LJ{fz:Nat->Nat->Option Nat}{n id k:Nat}{e e':As}{h h':Ab}(hx:Tk fz n id k e h=(e',h')):Ghost ⟨n,e,h⟩ ⟨n,e',h'⟩:=by
 have h0:Ghost ⟨n,e,h⟩ ⟨n,e,h⟩:=Ghost.of_sub (Sub.mk' (ESub.refl _) (HSub.refl _));unfold Tk at hx;split at hx
 . split at hx
   . exact EM _ hx
   . cases hx
     exact h0
 . cases hx
   exact h0
end Go.Proofs.YtbbfelelocccmaaGreat.Sv
