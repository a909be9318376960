/-
  AN EVALUATOR FOR INPUTS THAT ARE KNOWN (8): maps whose keys are arrays of numbers, arrays, slices, strings of bytes. Own work, over no program.
-/
import Derived.Test.YtbbfelelocccmaaGreatPOptimizeLess4
import Derived.Test.YtbbfelelocccmaaGreatPOptimizeLess3
import Derived.Maps.RangeRun
set_option linter.unusedVariables false
set_option linter.unusedSimpArgs false
set_option maxRecDepth 100000
set_option maxHeartbeats 2000000
namespace Go.Proofs.YtbbfelelocccmaaGreat.Sv
open Go
def Ic(K:IntKind):List AV->Option (List Int)
  | []=>some []
  | .int K' z::r=>match decide (K'=K),Ic K r with
    | true,some l=>some (z::l)
    | _,_=>none
  | _::_=>none
theorem DR{K:IntKind}: ∀{l:List AV} {z:List Int},Ic K l=some z->l=arrAV K z
 | [],z,h=>by simp[Ic]at h;subst h;rfl
 | x::r,z,h=>by
  cases x with
  | int K' n=>
   unfold Ic at h;split at h
   . rename_i l h1 h2;simp only[Option.some.injEq]at h;subst h;have:=of_decide_eq_true h1;subst this;rw[DR h2];rfl
   . cases h
  | _=>simp[Ic]at h
def unkvA(K:IntKind)(n:Nat):List (AV×AV)->Option Io
  | []=>some []
  |(.agg ks,v)::r=>match Ic K ks,unkvA K n r with
    | some z,some m=>match Nat.beq z.length n with
      | true=>some ((z,v)::m)
      | false=>none
    | _,_=>none
  | _::_=>none
theorem J5{K:IntKind}{n:Nat}: ∀{l:List (AV×AV)} {m:Io},unkvA K n l=some m->l=F6 K m/\∀p∈m,p.1.length=n
 | [],m,h=>by simp[unkvA]at h;subst h;exact⟨rfl,fun p hp=>by cases hp⟩
 |(k,v)::r,m,h=>by
  cases k with
  | agg ks=>
   unfold unkvA at h;split at h
   . rename_i z m' h1 h2;split at h
     . rename_i h3;simp only[Option.some.injEq]at h;subst h;obtain⟨a1,a2⟩:=J5 h2;refine⟨by rw[a1,DR h1];rfl,fun p hp=>?_⟩;rcases List.mem_cons.1 hp with rfl | hp
       . exact Nat.eq_of_beq_eq_true h3
       . exact a2 p hp
     . cases h
   . cases h
  | _=>simp[unkvA]at h
def arrTy(P:Program)(T:Nat->Option As)(t:Nat):Option (Nat×IntKind):=match T t with
  | some i=>match i.k with
    | .array n e0=>match T e0,Nat.beq (P.cellsOf e0) 1 with
      | some j,true=>match intOf j.k with
        | some K=>some (n,K)
        | none=>none
      | _,_=>none
    | _=>none
  | none=>none
theorem H9{P:Program}{T:Nat->Option As}{t n:Nat}{K:IntKind}(h:arrTy P T t=some (n,K)): ∃i e0 j,T t=some i/\i.k= .array n e0/\T e0=some j/\j.k= .int K/\P.cellsOf e0=1:=by
 unfold arrTy at h;split at h
 . rename_i i hi;split at h
   . rename_i n' e0 hk;split at h
     . rename_i j hj hc;split at h
       . rename_i K' hK;simp only[Option.some.injEq,Prod.mk.injEq]at h;obtain⟨rfl,rfl⟩:=h;exact⟨i,e0,j,hi,hk,hj,Kl hK,Nat.eq_of_beq_eq_true hc⟩
       . cases h
     . cases h
   . cases h
 . cases h
def Sk(P:Program)(T:Nat->Option As)(t:Nat):Option (Nat×IntKind×Nat):=match T t with
  | some i=>match i.k with
    | .map kt et=>match arrTy P T kt with
      | some (n,K)=>some (n,K,et)
      | none=>none
    | _=>none
  | none=>none
theorem MA{P:Program}{T:Nat->Option As}{t n et:Nat}{K:IntKind}(h:Sk P T t=some (n,K,et)): ∃i kt,T t=some i/\i.k= .map kt et/\arrTy P T kt=some (n,K):=by
 unfold Sk at h;split at h
 . rename_i i hi;split at h
   . rename_i kt et' hk;split at h
     . rename_i n' K' ha;simp only[Option.some.injEq,Prod.mk.injEq]at h;obtain⟨rfl,rfl,rfl⟩:=h;exact⟨i,kt,hi,hk,ha⟩
     . cases h
   . cases h
 . cases h
section
variable {P : Program} {T : Nat -> Option As} {o : Oper} {e : Av} {h : Ac}
theorem V5(hT:Cq P T){t:TypeId}{x y:Operand}{b n off len:Nat}{i j:As}{u:Nat}{k:IntKind}(ho:o.op= .slice t x (some y) none none)(hx:Al e x=some (.ref b n off len))(hy:Al e y=some (.int k (len:Int)))(ht:T t=some i)(hk:i.k= .slice u)(hj:T u=some j)
 {p:Bool} {sz:Nat} {es:List (List AV)} (hb:h b=some (.row p sz es)) (hn:n=es.length) (h0:0<es.length):QLoc P o e h [b] (.lst false []):=by
 intro H ι a w s hs g1 g2;have hx':Al s.env x=some (.ref b n off len):=by rw[g1 x (by rw[ho];simp[Op.operands]),hx]
 have hy':Al s.env y=some (.int k (len:Int)):=by rw[g1 y (by rw[ho];simp[Op.operands]),hy]
 have hb':s.h b=some (.row p sz es):=by rw[g2 b (by simp),hb]
 obtain⟨info,d,e1,e2,e3,e4,e5,e6⟩:=Ai (hT _ _ ht);obtain⟨info',d',e1',e2',e3',e4',e5',e6'⟩:=Ai (hT _ _ hj);have hd:=Bp (P:=P) (d:=d) (e3▸hk);subst hd;have hvx:=Am hs hx';have hvy:=(Am hs hy').int_inv;generalize hva:a.eval x=va at hvx;obtain⟨r,r1,⟨o1,o2,o3,o4,o5,o6⟩,_⟩:=hs.heap.obj b _ hb' rfl;have hcs:r.csz≠0:=by
  have:0<es.length*sz:=Nat.mul_pos h0 o2;omega
 obtain⟨hle,cap,rfl,c1,c2,c3⟩:=Rel.ref_live hvx r1 (by rw[hn,o3]) hcs;refine⟨.slice (if cap-len=0 then(some ⟨r.rb,off*r.sz,none⟩)else(some ⟨r.rb,off*r.sz,none⟩:Option Addr).map (·.add (len*j.size))) (len-len) (cap-len),?_,?_⟩
 . rw[Nat.sub_self];exact .lst0 _ _ _ _ (fun h=>by cases h) (by omega) (fun hh=>by split at hh<;>cases hh) trivial
 . simp only[execOp,ho,hva,hvy,Instr.sliceAt,Instr.slice,Option.map_none,Option.map_some,Sem.run_bind,Ak e2,Result.andThen_ok,FZ e1',e4',Sem.run_pure];have hce:(cap=len)=(cap-len=0):=propext (by omega);simp[Instr.sliceBounds,Instr.sliceBound,asIntOf,c1,hce]
theorem V8(hT:Cq P T){t u:TypeId}{x:Operand}{l:List UInt8}{i j k:As}{v:Nat}{b n:Nat}{p:Bool}(ho:o.op= .convert t u x)(hx:Al e x=some (.ref b n 0 n))(hb:h b=some (.row p 1 (AR l)))(hn:n=l.length)(h0:0<l.length)
 (hi:T t=some i) (hik:i.k= .slice v) (hv:T v=some k) (hk:k.k= .int .u8) (hj:T u=some j) (hjk:j.k= .string):QLoc P o e h [b] (.str ⟨l.toArray⟩):=by
 intro H ι a w s hs g1 g2;have hx':Al s.env x=some (.ref b n 0 n):=by rw[g1 x (by rw[ho];simp[Op.operands]),hx]
 have hb':s.h b=some (.row p 1 (AR l)):=by rw[g2 b (by simp),hb]
 obtain⟨info,d,e1,e2,e3,e4,e5,e6⟩:=Ai (hT _ _ hi);obtain⟨info',d',e1',e2',e3',e4',e5',e6'⟩:=Ai (hT _ _ hj);obtain⟨info'',d'',e1'',e2'',e3'',e4'',e5'',e6''⟩:=Ai (hT _ _ hv);have hd:=Bp (P:=P) (d:=d) (e3▸hik);subst hd;have hd:=Hm (P:=P) (d:=d') (e3'▸hjk);subst hd;have hd:=Gk (P:=P) (d:=d'') (e3''▸hk);subst hd;have hvx:=Am hs hx';generalize hva:a.eval x=va at hvx;obtain⟨r,r1,⟨o1,o2,o3,o4,o5,o6⟩,_⟩:=hs.heap.obj b _ hb' rfl;have hlen:(AR l).length=l.length:=by simp[AR]
 have hcs:r.csz≠0:=by omega
 obtain⟨hle,cap,rfl,c1,c2,c3⟩:=Rel.ref_live hvx r1 (by omega) hcs;obtain⟨c,TT,d1,d2,d3,d4⟩:=o6 hcs;refine⟨_,.str _ _,?_⟩;simp only[execOp,ho,hva,Sem.run_bind];have key:(Go.convert t u (.slice (some ⟨r.rb,0*r.sz,none⟩) n cap)).run P w= .ok (.string ⟨l.toArray⟩) w:=by
  rw[run_convert_bytes_string w t u v (some ⟨r.rb,0*r.sz,none⟩) n cap e2 e2'' e2'];rw[run_bytesToString w _ _ cap (l.map (fun b:UInt8=>((b.toNat:Nat):Int))) ?_,TY];have hld:=run_loadCells_list (P:=P) (w:=w) ⟨r.rb,0*r.sz,none⟩ (l.map (fun b:UInt8=>Value.int .u8 b.toNat)) (fun j y hj=>by
   rw[List.getElem?_map]at hj
   cases hlj:l[j]? with
   | none=>rw[hlj]at hj;cases hj
   | some m=>
    rw[hlj]at hj
    cases hj
    have hbc:(AR l)[j]?=some [AV.int .u8 m.toNat]:=by simp[AR,hlj]
    obtain⟨v',q1,q2,q3⟩:=d4 j _ 0 _ hbc rfl;rw[ET,d1.cell,Nat.zero_mul,Nat.zero_add];rw[q2.int_inv,Nat.mul_one,Nat.add_zero]at q1;exact q1)
  rw[hn];simpa[List.map_map,Function.comp_def]using hld
 simp only[key,Result.andThen_ok,Sem.run_pure]
end
def KA:List (List AV)->Option (List UInt8)
  | []=>some []
  | [.int .u8 z]::r=>match decide (((UInt8.ofNat z.toNat).toNat:Int)=z),KA r with
    | true,some l=>some (UInt8.ofNat z.toNat::l)
    | _,_=>none
  | _::_=>none
theorem Kz: ∀{es:List (List AV)} {l:List UInt8},KA es=some l->es=AR l
 | [],l,h=>by simp[KA]at h;subst h;rfl
 | cs::r,l,h=>by
  unfold KA at h;split at h
  . rename_i he;cases he
  . rename_i z r' he
    cases he
    split at h
    . rename_i l' h1 h2;simp only[Option.some.injEq]at h;subst h;have h1:=of_decide_eq_true h1;have:=Kz h2;rw[this];simp only[AR,List.map_cons,h1]
    . cases h
  . cases h
def kX(P:Program)(T:Nat->Option As)(o:Op)(e:Av)(h:Ac):Option (List Nat×AV):=
  match o with
  | .lookup t x y true=>match Al e x,Al e y,Sk P T t with
    | some (.map b),some (.agg ks),some (n,K,et)=>match h b,Rr P et,Ic K ks with
      | some (.map l),some z0,some z=>match unkvA K n l,Nat.beq z.length n with
        | some m,true=>some ([b],.tup [(ay z m).getD z0,.bool (ay z m).isSome])
        | _,_=>none
      | _,_,_=>none
    | _,_,_=>none
  | .build t parts=>match BE e parts.toList,T t with
    | some ps,some i=>match i.k with
      | .array len u=>match T u with
        | some j=>match Iq i,Gu T (Rp len j.size u) ps,partCells (Rp len j.size u) ps i.zero with
          | true,true,some r=>some ([],.agg r)
          | _,_,_=>none
        | none=>none
      | _=>none
    | _,_=>none
  | .binOp .eql t x y _=>match Al e x,Al e y,arrTy P T t with
    | some (.agg xs),some (.agg ys),some (n,K)=>match Ic K xs,Ic K ys,P.eqGuardType P.depth t with
      | some l1,some l2,false=>match Nat.beq l1.length n,Nat.beq l2.length n with
        | true,true=>some ([],.bool (decide (l1=l2)))
        | _,_=>none
      | _,_,_=>none
    | _,_,_=>none
  | .binOp .neq t x y _=>match Al e x,Al e y,arrTy P T t with
    | some (.agg xs),some (.agg ys),some (n,K)=>match Ic K xs,Ic K ys,P.eqGuardType P.depth t with
      | some l1,some l2,false=>match Nat.beq l1.length n,Nat.beq l2.length n with
        | true,true=>some ([],.bool (!decide (l1=l2)))
        | _,_=>none
      | _,_,_=>none
    | _,_,_=>none
  | .slice t x (some y) none none=>match Al e x,Al e y,Ff T t with
    | some (.ref b n off len),some (.int k z),some j=>match h b,decide (z=(len:Int))with
      | some (.row p sz es),true=>match Nat.beq n es.length,Nat.blt 0 es.length with
        | true,true=>some ([b],.lst false [])
        | _,_=>none
      | _,_=>none
    | some (.lst ex es),some (.int k z),some j=>match decide (0<=z),decide (z.toNat<=es.length),es.all (fun cs=>Nat.beq cs.length j.size)with
      | true,true,true=>some ([],.lst (ex&&Nat.beq es.length es.length) ((es.take es.length).drop z.toNat))
      | _,_,_=>none
    | _,_,_=>none
  | .slice t x none (some y) (some y')=>match Al e x,Al e y,Al e y',Ff T t with
    | some (.lst ex es),some (.int k z),some (.int k' z'),some j=>match decide (z=(es.length:Int)),decide (z'=(es.length:Int))with
      | true,true=>some ([],.lst true es)
      | _,_=>none
    | _,_,_,_=>none
  | .convert t u x=>match Al e x,Ff T t,T u with
    | some (.ref b n 0 m),some k,some j=>match h b,intOf k.k,j.k with
      | some (.row p 1 es),some .u8,.string=>match KA es with
        | some l=>match Nat.beq n m,Nat.beq n l.length,Nat.blt 0 l.length with
          | true,true,true=>some ([b],.str ⟨l.toArray⟩)
          | _,_,_=>none
        | none=>none
      | _,_,_=>none
    | _,_,_=>none
  | _=>none
section
variable {P : Program} {T : Nat -> Option As} {o : Oper} {e : Av} {h : Ac} {R : List Nat} {r : AV}
theorem Y9(hT:Cq P T)(hq:kX P T o.op e h=some (R,r)):QLoc P o e h R r:=by
 unfold kX at hq;split at hq
 . rename_i t x y ho;split at hq
   . rename_i b ks n K et hx hy ht;split at hq
     . rename_i l z0 z hb hz hks;split at hq
       . rename_i m hm hzn;simp only[Option.some.injEq,Prod.mk.injEq]at hq;obtain⟨rfl,rfl⟩:=hq;obtain⟨i,kt,a1,a2,a3⟩:=MA ht;obtain⟨j,e0,j0,b1,b2,b3,b4,b5⟩:=H9 a3;obtain⟨m1,m2⟩:=J5 hm;obtain⟨zv,z1,z2⟩:=Ml hz;exact TM hT ho hx (by rw[hy,DR hks]) (by rw[hb,m1]) a1 a2 b1 b2 b3 b4 b5 (Nat.eq_of_beq_eq_true hzn) m2 z1 z2
       . cases hq
     . cases hq
   . cases hq
 . rename_i t parts ho;split at hq
   . rename_i ps i hp hi;split at hq
     . rename_i len u hk;split at hq
       . rename_i j hj;split at hq
         . rename_i r' hz hf hr;simp only[Option.some.injEq,Prod.mk.injEq]at hq;obtain⟨rfl,rfl⟩:=hq;obtain⟨z1,z2,z3⟩:=Eu hz;exact TQ hT ho hp hi hk hj z1 z2 hf hr
         . cases hq
       . cases hq
     . cases hq
   . cases hq
 . rename_i t x y t' ho;split at hq
   . rename_i xs ys n K hx hy ha;split at hq
     . rename_i l1 l2 h1 h2 hg;split at hq
       . rename_i h3 h4;simp only[Option.some.injEq,Prod.mk.injEq]at hq;obtain⟨rfl,rfl⟩:=hq;obtain⟨j,e0,j0,b1,b2,b3,b4,b5⟩:=H9 ha;exact TP hT false ho (by rw[hx,DR h1]) (by rw[hy,DR h2]) hg b1 b2 b3 b4 (Nat.eq_of_beq_eq_true h3) (Nat.eq_of_beq_eq_true h4) b5
       . cases hq
     . cases hq
   . cases hq
 . rename_i t x y t' ho;split at hq
   . rename_i xs ys n K hx hy ha;split at hq
     . rename_i l1 l2 h1 h2 hg;split at hq
       . rename_i h3 h4;simp only[Option.some.injEq,Prod.mk.injEq]at hq;obtain⟨rfl,rfl⟩:=hq;obtain⟨j,e0,j0,b1,b2,b3,b4,b5⟩:=H9 ha;exact TP hT true ho (by rw[hx,DR h1]) (by rw[hy,DR h2]) hg b1 b2 b3 b4 (Nat.eq_of_beq_eq_true h3) (Nat.eq_of_beq_eq_true h4) b5
       . cases hq
     . cases hq
   . cases hq
 . rename_i t x y ho;split at hq
   . rename_i b n off len k z j hx hy hj;split at hq
     . rename_i p sz es hb hz;split at hq
       . rename_i h1 h2;simp only[Option.some.injEq,Prod.mk.injEq]at hq;obtain⟨rfl,rfl⟩:=hq;obtain⟨i,u,a1,a2,a3⟩:=B3 hj;exact V5 hT ho hx (by rw[hy,of_decide_eq_true hz]) a1 a2 a3 hb (Nat.eq_of_beq_eq_true h1) (by simpa[Nat.blt_eq]using h2)
       . cases hq
     . cases hq
   . rename_i ex es k z j hx hy hj;split at hq
     . rename_i h0 hz h1;simp only[Option.some.injEq,Prod.mk.injEq]at hq;obtain⟨rfl,rfl⟩:=hq;obtain⟨i,u,a1,a2,a3⟩:=B3 hj;exact IB hT z.toNat es.length ho hx a1 a2 a3 ⟨k,by rw[hy,Int.toNat_of_nonneg (of_decide_eq_true h0)]⟩ rfl (of_decide_eq_true hz) (Nat.le_refl _) (fun cs hc=>Nat.eq_of_beq_eq_true (List.all_eq_true.1 h1 cs hc))
     . cases hq
   . cases hq
 . rename_i t x y y' ho;split at hq
   . rename_i ex es k z k' z' j hx hy hy' hj;split at hq
     . rename_i h1 h2;simp only[Option.some.injEq,Prod.mk.injEq]at hq;obtain⟨rfl,rfl⟩:=hq;obtain⟨i,u,a1,a2,a3⟩:=B3 hj;exact TH hT ho hx (by rw[hy,of_decide_eq_true h1]) (by rw[hy',of_decide_eq_true h2]) a1 a2 a3
     . cases hq
   . cases hq
 . rename_i t u x ho;split at hq
   . rename_i b n m k j hx hk hj;split at hq
     . rename_i p es hb hku hjk;split at hq
       . rename_i l hl;split at hq
         . rename_i h1 h2 h3;simp only[Option.some.injEq,Prod.mk.injEq]at hq;obtain⟨rfl,rfl⟩:=hq;obtain⟨i,v,a1,a2,a3⟩:=B3 hk;have h1:=Nat.eq_of_beq_eq_true h1;subst h1;exact V8 hT ho hx (by rw[hb,Kz hl]) (Nat.eq_of_beq_eq_true h2) (by simpa[Nat.blt_eq]using h3) a1 a2 a3 (Kl hku) hj hjk
         . cases hq
       . cases hq
     . cases hq
   . cases hq
 . cases hq
end
def jY(P:Program)(T:Nat->Option As)(dst:Option Nat)(o:Op)(e:Av)(h:Ac)(k:Nat):Option fj:=
  match o with
  | .makeMap t none=>match Gw h k with
    | true=>some ([k],[(k,.map (kvs .i64 []))],some (.map k),k+1)
    | false=>none
  | .mapUpdate t x y u=>match dst,Al e x,Al e y,Al e u,Sk P T t with
    | none,some (.map b),some (.agg ks),some q,some (n,K,_)=>match h b,q.isPure,Ic K ks with
      | some (.map l),true,some z=>match unkvA K n l,Nat.beq z.length n with
        | some m,true=>some ([b],[(b,.map (F6 K (PS z q m)))],none,k)
        | _,_=>none
      | _,_,_=>none
    | _,_,_,_,_=>none
  | _=>none
theorem Yn{P:Program}{T:Nat->Option As}{o:Oper}{e:Av}{h:Ac}(hT:Cq P T){k k':Nat}{R:List Nat}{W:List (Nat×AObj)}{r:Option AV}(hv:jY P T o.dst o.op e h k=some (R,W,r,k')):OLoc P o e h R W r:=by
 unfold jY at hv;split at hv
 . rename_i t ho;split at hv
   . rename_i hf;simp only[Option.some.injEq,Prod.mk.injEq]at hv;obtain⟨rfl,rfl,rfl,rfl⟩:=hv;exact Jy .i64 k ho (CR hf)
   . cases hv
 . rename_i t x y u ho;split at hv
   . rename_i b ks q n K et hd hx hy hu ht;split at hv
     . rename_i l z hb hp hks;split at hv
       . rename_i m hm hzn;simp only[Option.some.injEq,Prod.mk.injEq]at hv;obtain⟨rfl,rfl,rfl,rfl⟩:=hv;obtain⟨i,kt,a1,a2,a3⟩:=MA ht;obtain⟨j,e0,j0,b1,b2,b3,b4,b5⟩:=H9 a3;obtain⟨m1,m2⟩:=J5 hm;exact o_mapUpdateA hT ho hd hx (by rw[hy,DR hks]) hu hp (by rw[hb,m1]) a1 a2 b1 b2 b3 b4 b5 (Nat.eq_of_beq_eq_true hzn) m2
       . cases hv
     . cases hv
   . cases hv
 . cases hv
def gE(P:Program)(T:Nat->Option As)(o:Op)(e:Av)(h:Ac):Option (List Nat×AV):=match qp T o e h with
  | some r=>some r
  | none=>match kZ P T o e h with
    | some r=>some r
    | none=>match kY P T o e h with
      | some r=>some r
      | none=>kX P T o e h
def Yo(P:Program)(T:Nat->Option As)(dst:Option Nat)(o:Op)(e:Av)(h:Ac)(k:Nat):Option fj:=match rf T dst o e h k with
  | some r=>some r
  | none=>match jZ T dst o e h k with
    | some r=>some r
    | none=>jY P T dst o e h k
section
variable {P : Program} {T : Nat -> Option As} {o : Oper} {e : Av} {h : Ac} {R : List Nat} {r : AV}
theorem Qb(hT:Cq P T)(hq:gE P T o.op e h=some (R,r)):QLoc P o e h R r:=by
 unfold gE at hq;split at hq
 . rename_i r' h1;rw[Option.some.injEq]at hq;subst hq;exact qEv_spec hT h1
 . split at hq
   . rename_i r' h1;rw[Option.some.injEq]at hq;subst hq;exact qEv2_spec hT h1
   . split at hq
     . rename_i r' h1;rw[Option.some.injEq]at hq;subst hq;exact qEv3_spec hT h1
     . exact Y9 hT hq
theorem Jf(hT:Cq P T){k k':Nat}{W:List (Nat×AObj)}{r:Option AV}(hv:Yo P T o.dst o.op e h k=some (R,W,r,k')):OLoc P o e h R W r:=by
 unfold Yo at hv;split at hv
 . rename_i r' h1;rw[Option.some.injEq]at hv;subst hv;exact xEv_spec hT h1
 . split at hv
   . rename_i r' h1;rw[Option.some.injEq]at hv;subst hv;exact xEv3_spec hT h1
   . exact Yn hT hv
end
def Oc:Value->Option AV
  | .int k n=>some (.int k n)
  | .bool b=>some (.bool b)
  | .string s=>some (.str s)
  | .func f a b=>some (.val (.func f a b))
  | _=>none
def Oa:List Value->Option (List AV)
  | []=>some []
  | v::vs=>match Oc v,Oa vs with
    | some x,some xs=>some (x::xs)
    | _,_=>none
def cK:Value->Option AV
  | .agg cs=>match Oa cs.toList with
    | some xs=>some (.agg xs)
    | none=>none
  | v=>Oc v
theorem Ob{v:Value}{x:AV}(h:Oc v=some x)(H:Az):Rel H AU x v:=by
 cases v<;>simp[Oc]at h<;>subst h
 . exact .bool _ _
 . exact .int _ _ _
 . exact .str _ _
 . exact .val _ _ rfl
theorem N9: ∀{l:List Value} {xs:List AV},Oa l=some xs->xs.length=l.length/\∀(j:Nat) (x:AV) (v:Value),xs[j]?=some x->l[j]?=some v->Oc v=some x
 | [],xs,h=>by simp[Oa]at h;subst h;exact⟨rfl,fun j x v h=>by simp at h⟩
 | v::vs,xs,h=>by
  unfold Oa at h;split at h
  . rename_i x ys h1 h2;simp at h;subst h;obtain⟨a1,a2⟩:=N9 h2;refine⟨by simp[a1],fun j y u e1 e2=>?_⟩
    cases j with
    | zero=>simp at e1 e2;subst e1;subst e2;exact h1
    | succ j=>exact a2 j y u (by simpa using e1) (by simpa using e2)
  . cases h
theorem Ht{v:Value}{x:AV}(h:cK v=some x)(H:Az):Rel H AU x v:=by
 unfold cK at h;split at h
 . rename_i cs;split at h
   . rename_i xs e;simp at h;subst h;obtain⟨a1,a2⟩:=N9 e;exact .agg _ _ _ (by simpa using a1) (fun j x v e1 e2=>Ob (a2 j x v e1 (by simpa using e2)) H)
   . cases h
 . exact Ob h H
def Lh(mt:Nat->String->Option Nat)(o:Op)(e:Av):Option (Nat×List AV):=
  match o with
  | .call ⟨.value x,args,_⟩=>match Al e x,AX e args.toList with
    | some (.fn (.func f) fs cs),some xs=>some (f,fs++xs++cs)
    | some (.val (.func (.func f) a b)),some xs=>match a.toList,b.toList with
      | [],[]=>some (f,xs)
      | _,_=>none
    | _,_=>none
  | .call ⟨.invoke recv name,args,_⟩=>match Al e recv,AX e args.toList with
    | some (.val (.iface t v)),some xs=>match mt t name,cK v with
      | some f,some x0=>some (f,x0::xs)
      | _,_=>none
    | _,_=>none
  | _=>none
def c8(P:Program)(mt:Nat->String->Option Nat):Prop:=∀t name f v w,mt t name=some f->(method (P.types.size+Made.depth) t v name).run P w= .ok (f,v) w
def OS(P:Program)(f:Nat):Option (Func×Code):=match P.funcs[f]? with
  | some fn=>match fn.body,fn.name== "runtime.NumGoroutine" with
    | some c,false=>some (fn,c)
    | _,_=>none
  | none=>none
theorem Fe{P:Program}{f:Nat}{fn:Func}{c:Code}(h:OS P f=some (fn,c)):P.funcs[f]?=some fn/\fn.body=some c/\(fn.name== "runtime.NumGoroutine")=false:=by
 unfold OS at h;split at h
 . rename_i fn' hf;split at h
   . rename_i c' hb hn;simp only[Option.some.injEq,Prod.mk.injEq]at h;obtain⟨rfl,rfl⟩:=h;exact⟨hf,hb,hn⟩
   . cases h
 . cases h
section
variable {P : Program} {T : Nat -> Option As} {o : Oper} {e : Av} {h : Ac} {R : AV -> Ac -> Prop}
theorem X7{α:Type}{a:Array α}(h:a.toList=[]):a= #[]:=Array.ext' h
theorem J1{mt:Nat->String->Option Nat}(hmt:c8 P mt){f:Nat}{xs:List AV}{fn:Func}(hc:Lh mt o.op e=some (f,xs))(hf:P.funcs[f]?=some fn)(hnm:(fn.name== "runtime.NumGoroutine")=false)(hb:fn.body.isSome=true)(hcall:ACall P f xs h R):OCallR P o e h R:=by
 unfold Lh at hc;split at hc
 . rename_i x args tys ho;split at hc
   . rename_i f' fs cs ys hx hl;simp only[Option.some.injEq,Prod.mk.injEq]at hc;obtain⟨rfl,rfl⟩:=hc;exact qv ho hx hf hnm hb hl hcall
   . rename_i f' a b ys hx hl;split at hc
     . rename_i ha hb';simp only[Option.some.injEq,Prod.mk.injEq]at hc;obtain⟨rfl,rfl⟩:=hc;exact qt ho (by rw[hx,X7 ha,X7 hb']) hf hnm hb hl hcall
     . cases hc
   . cases hc
 . rename_i recv name args tys ho;split at hc
   . rename_i t v ys hx hl;split at hc
     . rename_i f' x0 hm hv;simp only[Option.some.injEq,Prod.mk.injEq]at hc;obtain⟨rfl,rfl⟩:=hc;exact qu ho hx (fun w=>hmt t name f' v w hm) (Ht hv) hf hnm hb hl hcall
     . cases hc
   . cases hc
 . cases hc
theorem aD{ops:Array Oper}{rest:List Oper}{n:Nat}{K:Aj->Prop}(hd:o.dst=none)(hg:AQ ops o e=some true)
 (ho:OCallR P o e h (fun r hn=>AOps P ops rest ⟨n,e,hn⟩ K)):AOps P ops (o::rest) ⟨n,e,h⟩ K:=by
 intro H ι a w hs;unfold wpList;rw[Do hs hg];simp only[if_true];refine .inl (Oper.wp_mono (fun a' w' hx=>?_) (ho H ι a w n _ hs));obtain⟨v,r,hn,H',ι',hr,rfl,h1,h2,h3⟩:=hx;have hs':=hs.put (v:=v) (d:=o.dst) (r:=none) h2 h3 (fun x ex=>by cases ex) (fun t e=>by rw[hd]at e;cases e);rw[hd]at hs' |-;exact Mm (fun e a2 w2 hp=>Post.step hs.heap h2 h3 hp) _ _ _ (hr H' ι' _ w' hs')
theorem iQ{ops:Array Oper}{rest:List Oper}{n:Nat}{K:Aj->Prop}(hd:o.dst=none)(hg:AQ ops o e=some false)(hr:AOps P ops rest ⟨n,e,h⟩ K):AOps P ops (o::rest) ⟨n,e,h⟩ K:=by
 have:=AOps.skip (P:=P) (ops:=ops) (s:=⟨n,e,h⟩) (K:=K) (o:=o) (rest:=rest) hg (fun t e=>by rw[hd]at e;cases e);rw[hd]at this;exact this hr
end
def frz1(b m:Nat)(es:List (List AV)):AV->AV
  | .ref b' n off len=>bif Nat.beq b' b&&Nat.beq n m then .lst false ((es.drop off).take len)else .ref b' n off len
  | x=>x
def qH(b m:Nat)(es:List (List AV)):AV->AV
  | .agg cs=>.agg (cs.map (frz1 b m es))
  | x=>frz1 b m es x
def qG(b m:Nat)(es:List (List AV)):AV->AV
  | .agg cs=>.agg (cs.map (frz1 b m es))
  | .tup cs=>.tup (cs.map (qH b m es))
  | x=>frz1 b m es x
def lw(b m:Nat)(es:List (List AV)):AObj->AObj
  | .row false sz rs=>.row false sz (rs.map fun cs=>cs.map (frz1 b m es))
  | o=>o
def lx(b m:Nat)(es:List (List AV))(e:Av):Av:=fun t=>match e t with
  | some x=>some (qG b m es x)
  | none=>none
def Wv(b m:Nat)(es:List (List AV))(h:Ac):Ac:=fun c=>bif Nat.beq c b then none else match h c with
  | some o=>some (lw b m es o)
  | none=>none
theorem ZC(b m:Nat)(es:List (List AV))(x:AV)(h:x.cell1=true):(frz1 b m es x).cell1=true:=by
 cases x with
 | ref b' n off len=>
  show(bif Nat.beq b' b&&Nat.beq n m then AV.lst false ((es.drop off).take len)else .ref b' n off len).cell1=true
  cases Nat.beq b' b&&Nat.beq n m<;>rfl
 | _=>exact h
section
variable {H H' : Az} {b m : Nat} {es : List (List AV)}
theorem K4(u3:KLe H H'){ι:Bg}(u4: ∀(v:Value) (off len:Nat),Rel H ι (.ref b m off len) v->Rel H' ι (.lst false ((es.drop off).take len)) v){x:AV}{v:Value}(h:Rel H ι x v):Rel H' ι (frz1 b m es x) v:=by
 cases x with
 | ref b' n off len=>
  show Rel H' ι (bif Nat.beq b' b&&Nat.beq n m then AV.lst false ((es.drop off).take len)else .ref b' n off len) v
  cases e:Nat.beq b' b&&Nat.beq n m with
  | false=>exact h.mono u3 (LLe.refl _)
  | true=>
   rw[Bool.and_eq_true]at e;have e1:=Nat.eq_of_beq_eq_true e.1;have e2:=Nat.eq_of_beq_eq_true e.2;subst e1;subst e2;exact u4 v off len h
 | _=>exact h.mono u3 (LLe.refl _)
theorem UP(u3:KLe H H'){ι:Bg}(u4: ∀(v:Value) (off len:Nat),Rel H ι (.ref b m off len) v->Rel H' ι (.lst false ((es.drop off).take len)) v){x:AV}{v:Value}(h:Rel H ι x v):Rel H' ι (qH b m es x) v:=by
 cases x with
 | agg cs=>
  obtain⟨us,rfl,hl,hr⟩:=h.agg_inv;refine .agg _ _ us (by simpa using hl) fun j x v h1 h2=>?_
  rw[List.getElem?_map]at h1
  cases e:cs[j]? with
  | none=>rw[e]at h1;cases h1
  | some y=>rw[e]at h1;cases h1;exact K4 u3 u4 (hr j y v e h2)
 | _=>exact K4 u3 u4 h
theorem dW(u3:KLe H H'){ι:Bg}(u4: ∀(v:Value) (off len:Nat),Rel H ι (.ref b m off len) v->Rel H' ι (.lst false ((es.drop off).take len)) v){x:AV}{v:Value}(h:Rel H ι x v):Rel H' ι (qG b m es x) v:=by
 cases x with
 | agg cs=>exact UP (x:=.agg cs) u3 u4 h
 | tup cs=>
  obtain⟨us,rfl,hl,hr⟩:=h.tup_inv;refine .tup _ _ us (by simpa using hl) fun j x v h1 h2=>?_
  rw[List.getElem?_map]at h1
  cases e:cs[j]? with
  | none=>rw[e]at h1;cases h1
  | some y=>rw[e]at h1;cases h1;exact UP u3 u4 (hr j y v e h2)
 | _=>exact K4 u3 u4 h
end
theorem HeapRel.tight{H:Az}{ι:Bg}{h:Ac}{w:World}{b sz:Nat}{es:List (List AV)}(hr:HeapRel H ι h w)(hb:h b=some (.row false sz es))(hp: ∀cs∈es,cs.all AV.isPure1=true):HeapRel H ι (hput h b (.row true sz es)) w:=by
 have old: ∀c o,hput h b (.row true sz es) c=some o->o.alive=true->∃o',h c=some o'/\o'.alive=true:=fun c o h1 h2=>by
  by_cases hc:c=b
  . subst hc;exact⟨_,hb,rfl⟩
  . rw[AL _ _ hc]at h1;exact⟨o,h1,h2⟩
 refine⟨hr.know,fun c hc=>?_,fun c o h1 h2=>?_,fun c c' o o' r r' h1 h2 h3 h4 h5 h6 h7 h8 h9=>?_,hr.glob⟩
 . by_cases e:c=b
   . subst e;rw[Aq]at hc;cases hc
   . rw[AL _ _ e]at hc;exact hr.free c hc
 . by_cases e:c=b
   . subst e;rw[Aq]at h1
     cases h1
     obtain⟨r,r1,⟨o1,o2,o3,o4,o5,o6⟩,r3⟩:=hr.obj c _ hb rfl;refine⟨r,r1,⟨o1,o2,o3,o4,o5,fun hs=>?_⟩,r3⟩;obtain⟨cc,T,c1,c2,c3,c4⟩:=o6 hs;refine⟨cc,T,c1,c2,c3,fun i cs j x e1 e2=>?_⟩;obtain⟨v,v1,v2,v3⟩:=c4 i cs j x e1 e2;exact⟨v,v1,C6 (List.all_eq_true.1 (hp cs (List.mem_of_getElem? e1)) x (List.mem_of_getElem? e2)) v2,v3⟩
   . rw[AL _ _ e]at h1;exact hr.obj c o h1 h2
 . obtain⟨p1,q1,q2⟩:=old c o h1 h2;obtain⟨p2,q3,q4⟩:=old c' o' h3 h4;exact hr.inj c c' p1 p2 r r' q1 q2 q3 q4 h5 h6 h7 h8 h9
theorem aB{n:Nat}{e:Av}{h:Ac}{b sz:Nat}{es:List (List AV)}(hb:h b=some (.row false sz es))(hp: ∀cs∈es,cs.all AV.isPure1=true):Ghost ⟨n,e,h⟩ ⟨n,lx b es.length es e,Wv b es.length es h⟩:=fun H ι a w hs=>by
 have hr:=hs.heap;have ht:=hr.tight hb hp;obtain⟨H',u1,u2,u3,u40⟩:=ht.freeze (Aq h b _);have u4:=u40 ι;have hst:Step H ι h w H ι (hput h b (.row true sz es)) w:=⟨Nat.le_refl _,rfl,rfl,fun _ _ _=>rfl,KLe.refl _,fun _ h=>.inl h,LLe.refl _,fun _ _=>rfl,fun _ _ h _=>.inl h,fun c hc=>by
  by_cases hcb:c=b
  . subst hcb;rw[hb]at hc;cases hc
  . rw[AL _ _ hcb];exact hc⟩
 have back: ∀c o,Wv b es.length es h c=some o->∃o',h c=some o'/\o=lw b es.length es o'/\c≠b:=fun c o hc=>by
  unfold Wv at hc
  cases ec:Nat.beq c b with
  | true=>rw[ec]at hc;cases hc
  | false=>
   rw[ec]at hc;simp only[cond_false]at hc;split at hc
   . rename_i o' ho
     cases hc
     exact⟨o',ho,rfl,fun hh=>by subst hh;rw[Nat.beq_refl]at ec;cases ec⟩
   . cases hc
 have al: ∀o,(lw b es.length es o).alive=o.alive:=fun o=>by
  cases o with
  | row p sz rs=>cases p<;>rfl
  | _=>rfl
 have hrm_eq: ∀c,c≠b->hrm (hput h b (.row true sz es)) b c=h c:=fun c hc=>by rw[Fc _ hc,AL _ _ hc]
 have hheap:HeapRel H' ι (Wv b es.length es h) w:=by
  refine⟨u1.know,fun c hc=>?_,fun c o h1 h2=>?_,fun c c' o o' r r' h1 h2 h3 h4 h5 h6 h7 h8 h9=>?_,u1.glob⟩
  . obtain⟨o',g1,g2,g3⟩:=back c _ hc
    cases o' with
    | free=>exact hr.free c g1
    | row p sz rs=>cases p<;>cases g2
    | _=>cases g2
  . obtain⟨o',g1,rfl,g3⟩:=back c o h1;rw[al]at h2;obtain⟨r,r1,r2,r3⟩:=u1.obj c o' (by rw[hrm_eq c g3];exact g1) h2;refine⟨r,r1,?_,r3⟩
    cases o' with
    | free=>cases h2
    | map kvs=>exact r2
    | iter0=>exact r2
    | row p sz' rs=>
     cases p with
     | true=>exact r2
     | false=>
      obtain⟨o1,o2,o3,o4,o5,o6⟩:=r2;refine⟨o1,o2,by simpa using o3,by simpa using o4,fun i cs hi=>?_,fun hsol=>?_⟩
      . rw[List.getElem?_map]at hi
        cases ei:rs[i]? with
        | none=>rw[ei]at hi;cases hi
        | some ds=>rw[ei]at hi;cases hi;simpa using o5 i ds ei
      . obtain⟨cc,T,c1,c2,c3,c4⟩:=o6 hsol;refine⟨cc,T,c1,c2,?_,fun i cs j x e1 e2=>?_⟩
        . intro i cs hi;rw[List.getElem?_map]at hi
          cases ei:rs[i]? with
          | none=>rw[ei]at hi;cases hi
          | some ds=>rw[ei]at hi;cases hi;simpa using o5 i ds ei
        . rw[List.getElem?_map]at e1
          cases ei:rs[i]? with
          | none=>rw[ei]at e1;cases e1
          | some ds=>
           rw[ei]at e1;cases e1;rw[List.getElem?_map]at e2
           cases ej:ds[j]? with
           | none=>rw[ej]at e2;cases e2
           | some y=>
            rw[ej]at e2;cases e2;obtain⟨r0,s1,⟨t1,t2,t3,t4,t5,t6⟩,s3⟩:=hr.obj c _ g1 rfl;rw[r1]at s1;cases s1;obtain⟨cc',T',d1,d2,d3,d4⟩:=t6 hsol;obtain⟨fr,f1,_⟩:=c1;obtain⟨fr',f1',_⟩:=d1;rw[f1]at f1'
            cases f1'
            obtain⟨v,v1,v2,v3⟩:=d4 i ds j y ei ej;exact⟨v,v1,K4 u3 u4 v2,ZC _ _ _ _ v3⟩
  . obtain⟨p1,g1,rfl,g3⟩:=back c o h1;obtain⟨p2,g4,rfl,g6⟩:=back c' o' h3;rw[al]at h2 h4;exact hr.inj c c' p1 p2 r r' g1 h2 g4 h4 h5 h6 h7 h8 h9
 refine⟨H',ι,⟨hs.n,hs.d,fun u y hy=>?_,hheap⟩,?_⟩
 . simp only[lx]at hy;split at hy
   . rename_i x hx
     cases hy
     obtain⟨v,h1,h2⟩:=hs.env u x hx;exact⟨v,h1,dW u3 u4 h2⟩
   . cases hy
 . have h2:=hst.trans hr ht u2;exact⟨h2.size,h2.os,h2.out,h2.keep,h2.kle,h2.knew,h2.lle,h2.lframe,h2.newrb,fun c hc=>by
    show Wv b es.length es h c=none;unfold Wv
    cases Nat.beq c b with
    | true=>rfl
    | false=>simp only[cond_false];rw[show h c=none from hc]⟩
def bQ(b:Nat):AV->Bool
  | .ref b' _ _ _=>Nat.beq b' b
  | _=>false
def qk(b:Nat):AV->Bool
  | .agg cs=>cs.any (bQ b)
  | x=>bQ b x
def UN(n k:Nat):List Nat->Av->Ac->Av×Ac
  | [],e,h=>(e,h)
  | b::l,e,h=>match h b with
    | some (.row false sz es)=>match es.all (fun cs=>cs.all AV.isPure1),(List.range n).any (fun t=>match e t with
        | some x=>qk b x
        | none=>false)||(List.range k).any (fun c=>match h c with
        | some (.row _ _ rs)=>rs.any fun cs=>cs.any (bQ b)
        | _=>false)with
      | true,true=>UN n k l (lx b es.length es e) (Wv b es.length es h)
      | _,_=>UN n k l e h
    | _=>UN n k l e h
theorem Fd{n k:Nat}: ∀(l:List Nat) {e e':Av} {h h':Ac},UN n k l e h=(e',h')->Ghost ⟨n,e,h⟩ ⟨n,e',h'⟩
 | [],e,e',h,h',hx=>by
  cases hx
  exact Ghost.of_sub (Sub.mk' (ESub.refl _) (HSub.refl _))
 | b::l,e,e',h,h',hx=>by
  unfold UN at hx;split at hx
  . rename_i sz es hb;split at hx
    . rename_i hp _;exact Ghost.trans (aB hb fun cs hc=>List.all_eq_true.1 hp cs hc) (Fd l hx)
    . exact Fd l hx
  . exact Fd l hx
def bP:AV->List Nat
  | .ref b _ _ _=>[b]
  | .ptr b _ _ _=>[b]
  | _=>[]
def R4:AV->List Nat
  | .agg cs=>cs.flatMap bP
  | x=>bP x
def R5(h:Ac):Nat->List Nat->List Nat
  | 0,l=>l
  | d+1,l=>R5 h d (l.flatMap fun b=>match h b with
    | some (.row _ _ rs)=>rs.flatMap fun cs=>cs.flatMap bP
    | _=>[])++l
def UO(fz:Nat->Nat->Option Nat)(n id k:Nat)(e:Av)(h:Ac):Av×Ac:=match fz n id with
  | some t=>match e t with
    | some x=>UN n k (R5 h 3 (R4 x)) e h
    | none=>(e,h)
  | none=>(e,h)
theorem MH{fz:Nat->Nat->Option Nat}{n id k:Nat}{e e':Av}{h h':Ac}(hx:UO fz n id k e h=(e',h')):Ghost ⟨n,e,h⟩ ⟨n,e',h'⟩:=by
 have h0:Ghost ⟨n,e,h⟩ ⟨n,e,h⟩:=Ghost.of_sub (Sub.mk' (ESub.refl _) (HSub.refl _));unfold UO at hx;split at hx
 . split at hx
   . exact Fd _ hx
   . cases hx
     exact h0
 . cases hx
   exact h0
abbrev Ia:=List (Nat×List AV×AV)
def FV(P:Program)(lg:Ia):Prop:=∀p∈lg,APure P p.1 p.2.1 (fun r=>r=p.2.2)
abbrev XCall:=Nat->List AV->Ac->Nat->Ia->Option (AV×Ac×Nat×Ia)
def XCall.Ok(P:Program)(cl:XCall):Prop:=∀f xs h k lg r h' k' lg',cl f xs h k lg=some (r,h',k',lg')->(∀p∈lg,p∈lg')/\(FV P lg'->ACall P f xs h (fun r1 h1=>r1=r/\h1=h'))
def iE(mt:Nat->String->Option Nat)(ct:Nat->Option (List AV->Option AV))(o:Op)(e:Av):Option (Nat×List AV×AV):=
  match o with
  | .call ⟨.value (.func f),args,_⟩=>match ct f with
    | some q=>match AX e args.toList with
      | some xs=>match xs.all AV.isPure,q xs with
        | true,some r=>some (f,xs,r)
        | _,_=>none
      | none=>none
    | none=>none
  | _=>none
def X8(e:Av):List Operand->List Nat
  | []=>[]
  | x::l=>(match Al e x with | some y=>R4 y | none=>[])++X8 e l
def ctFz(ct:Nat->Option (List AV->Option AV))(n k:Nat)(o:Op)(e:Av)(h:Ac):Av×Ac:=
  match o with
  | .call ⟨.value (.func f),args,_⟩=>match ct f with
    | some _=>UN n k (R5 h 3 (X8 e args.toList)) e h
    | none=>(e,h)
  | _=>(e,h)
theorem WI{ct:Nat->Option (List AV->Option AV)}{n k:Nat}{o:Op}{e e':Av}{h h':Ac}(hx:ctFz ct n k o e h=(e',h')):Ghost ⟨n,e,h⟩ ⟨n,e',h'⟩:=by
 have h0:Ghost ⟨n,e,h⟩ ⟨n,e,h⟩:=Ghost.of_sub (Sub.mk' (ESub.refl _) (HSub.refl _));unfold ctFz at hx;split at hx
 . split at hx
   . exact Fd _ hx
   . cases hx
     exact h0
 . cases hx
   exact h0
theorem Vi{P:Program}{ops:Array Oper}{l:List Oper}{s s':Aj}{K:Aj->Prop}(hg:Ghost s s')(h:AOps P ops l s' K):AOps P ops l s K:=fun H ι a w hs=>by
 obtain⟨H',ι',h1,h2⟩:=hg H ι a w hs;have hpost: ∀e a2 w2,Post H' ι' s'.h w (Ce K fun _ _=>False) e a2 w2->Post H ι s.h w (Ce K fun _ _=>False) e a2 w2:=fun e a2 w2 hp=>Post.step hs.heap h1.heap h2 hp
 have key: ∀(l:List Oper) (a1:Act) (w1:World),wpList P ops (Post H' ι' s'.h w (Ce K fun _ _=>False)) l a1 w1->wpList P ops (Post H ι s.h w (Ce K fun _ _=>False)) l a1 w1:=by
  exact qZ
 exact key l a w (h H' ι' a w h1)
def MO(P:Program)(T:Nat->Option As)(mt:Nat->String->Option Nat)(ct:Nat->Option (List AV->Option AV))(cl:XCall)(ops:Array Oper)(n:Nat):List Oper->Av->Ac->Nat->Ia->Option (Av×Ac×Nat×Ia)
  | [],e,h,k,lg=>some (e,h,k,lg)
  | o::l,e,h,k,lg=>match AQ ops o e with
    | some false=>match o.dst with
      | some d=>match Nat.blt d n with
        | true=>MO P T mt ct cl ops n l (Aa e d (.tup [])) h k lg
        | false=>none
      | none=>MO P T mt ct cl ops n l e h k lg
    | some true=>match o.dst with
      | some d=>match Nat.blt d n with
        | true=>match gE P T o.op e h with
          | some (_,r)=>MO P T mt ct cl ops n l (Aa e d r) h k lg
          | none=>match Yo P T o.dst o.op e h k with
            | some (_,W,some r,k')=>MO P T mt ct cl ops n l (Aa e d r) (hputs h W) k' lg
            | some (_,_,none,_)=>none
            | none=>match ctFz ct n k o.op e h with
             |(e0,h0)=>match AQ ops o e0,iE mt ct o.op e0 with
              | some true,some (f,xs,r)=>match OS P f with
                | some _=>MO P T mt ct cl ops n l (Aa e0 d r) h0 k ((f,xs,r)::lg)
                | none=>none
              | _,_=>match Lh mt o.op e with
                | some (f,xs)=>match OS P f,cl f xs h k lg with
                  | some _,some (r,h',k',lg')=>MO P T mt ct cl ops n l (Aa e d r) h' k' lg'
                  | _,_=>none
                | none=>none
        | false=>none
      | none=>match Yo P T o.dst o.op e h k with
        | some (_,W,none,k')=>MO P T mt ct cl ops n l e (hputs h W) k' lg
        | some (_,_,some _,_)=>none
        | none=>match Lh mt o.op e with
          | some (f,xs)=>match OS P f,cl f xs h k lg with
            | some _,some (r,h',k',lg')=>MO P T mt ct cl ops n l e h' k' lg'
            | _,_=>none
          | none=>none
    | none=>none
section
variable {P : Program} {T : Nat -> Option As} {mt : Nat -> String -> Option Nat} {ct : Nat -> Option (List AV -> Option AV)} {cl : XCall} {ops : Array Oper} {n : Nat}
theorem OCallR.mono{o:Oper}{e:Av}{h:Ac}{R R':AV->Ac->Prop}(hc:OCallR P o e h R)(hr: ∀r h',R r h'->R' r h'):OCallR P o e h R':=fun H ι a w n Q hs=>
 Oper.wp_mono (fun a' w' ⟨v,r,h',H',ι',e1,e2⟩=>⟨v,r,h',H',ι',hr _ _ e1,e2⟩) (hc H ι a w n Q hs)
theorem Rl{o:Oper}{e:Av}{h:Ac}{f:Nat}{xs:List AV}{r:AV}{fn:Func}(hc:iE mt ct o.op e=some (f,xs,r))(hf:P.funcs[f]?=some fn)(hnm:(fn.name== "runtime.NumGoroutine")=false)(hb:fn.body.isSome=true)(hp:APure P f xs (fun r'=>r'=r)):OLoc P o e h [] [] (some r):=by
 unfold iE at hc;split at hc
 . rename_i f' args tys ho;split at hc
   . rename_i q h1;split at hc
     . rename_i ys h2;split at hc
       . rename_i r' h3 h4;simp only[Option.some.injEq,Prod.mk.injEq]at hc;obtain⟨rfl,rfl,rfl⟩:=hc;exact cM ho hf hnm hb h2 h3 hp
       . cases hc
     . cases hc
   . cases hc
 . cases hc
theorem D5(hT:Cq P T)(hmt:c8 P mt)(hcl:cl.Ok P): ∀(l:List Oper) {e e':Av} {h h':Ac} {k k':Nat} {lg lg':Ia},MO P T mt ct cl ops n l e h k lg=some (e',h',k',lg')->
 (∀p∈lg,p∈lg')/\(FV P lg'->∀K:Aj->Prop,K ⟨n,e',h'⟩->AOps P ops l ⟨n,e,h⟩ K)
 | [],e,e',h,h',k,k',lg,lg',hx=>by
  simp only[MO,Option.some.injEq,Prod.mk.injEq]at hx;obtain⟨rfl,rfl,rfl,rfl⟩:=hx;exact⟨fun p hp=>hp,fun _ K hK=>AOps.nil hK⟩
 | o::l,e,e',h,h',k,k',lg,lg',hx=>by
  unfold MO at hx;split at hx
  . rename_i hg;split at hx
    . rename_i d hd;split at hx
      . rename_i hb;obtain⟨a1,a2⟩:=D5 hT hmt hcl l hx;exact⟨a1,fun hl K hK=>AOps.k d hd hb hg (a2 hl K hK)⟩
      . cases hx
    . rename_i hd;obtain⟨a1,a2⟩:=D5 hT hmt hcl l hx;exact⟨a1,fun hl K hK=>iQ hd hg (a2 hl K hK)⟩
  . rename_i hg;split at hx
    . rename_i d hd;split at hx
      . rename_i hb;split at hx
        . rename_i R r hq;obtain⟨a1,a2⟩:=D5 hT hmt hcl l hx;exact⟨a1,fun hl K hK=>AOps.s d hd hb hg (Qb hT hq) (a2 hl K hK)⟩
        . split at hx
          . rename_i R W r k1 hv;obtain⟨a1,a2⟩:=D5 hT hmt hcl l hx;exact⟨a1,fun hl K hK=>AOps.x d hd hb hg (Jf hT hv) (a2 hl K hK)⟩
          . cases hx
          . generalize hfz:ctFz ct n k o.op e h=eh at hx;obtain⟨e0,h0⟩:=eh;have hgst:=WI hfz;simp only at hx;split at hx
            . rename_i f xs r hg0 hc;split at hx
              . rename_i fc hfn;obtain⟨fn,c⟩:=fc;obtain⟨f1,f2,f3⟩:=Fe hfn;obtain⟨a1,a2⟩:=D5 hT hmt hcl l hx;refine⟨fun p hp=>a1 p (by simp[hp]),fun hl K hK=>Vi hgst (AOps.x d hd hb hg0 (Rl hc f1 f3 (by rw[f2];rfl) (hl (f,xs,r) (a1 _ (by simp)))) (a2 hl K hK))⟩
              . cases hx
            . split at hx
              . rename_i f xs hc;split at hx
                . rename_i fc r h1 k1 lg1 hfn hcall;obtain⟨fn,c⟩:=fc;obtain⟨f1,f2,f3⟩:=Fe hfn;obtain⟨a1,a2⟩:=D5 hT hmt hcl l hx;obtain⟨b1,b2⟩:=hcl _ _ _ _ _ _ _ _ _ hcall;refine⟨fun p hp=>a1 p (b1 p hp),fun hl K hK=>AOps.inn d hd hb hg (OCallR.mono (J1 hmt hc f1 f3 (by rw[f2];rfl) (b2 (fun p hp=>hl p (a1 p hp)))) fun r' h'' hh=>?_)⟩;obtain⟨rfl,rfl⟩:=hh;exact a2 hl K hK
                . cases hx
              . cases hx
      . cases hx
    . rename_i hd;split at hx
      . rename_i R W k1 hv;obtain⟨a1,a2⟩:=D5 hT hmt hcl l hx;exact⟨a1,fun hl K hK=>AOps.w hd hg (Jf hT hv) (a2 hl K hK)⟩
      . cases hx
      . split at hx
        . rename_i f xs hc;split at hx
          . rename_i fc r h1 k1 lg1 hfn hcall;obtain⟨fn,c⟩:=fc;obtain⟨f1,f2,f3⟩:=Fe hfn;obtain⟨a1,a2⟩:=D5 hT hmt hcl l hx;obtain⟨b1,b2⟩:=hcl _ _ _ _ _ _ _ _ _ hcall;refine⟨fun p hp=>a1 p (b1 p hp),fun hl K hK=>aD hd hg (OCallR.mono (J1 hmt hc f1 f3 (by rw[f2];rfl) (b2 (fun p hp=>hl p (a1 p hp)))) fun r' h'' hh=>?_)⟩;obtain⟨rfl,rfl⟩:=hh;exact a2 hl K hK
          . cases hx
        . cases hx
  . cases hx
end
def AV.eqS:AV->AV->Bool
  | .bool a,.bool b=>a==b
  | .int k a,.int k' b=>decide (k=k')&&decide (a=b)
  | .nil,.nil=>true
  | .nilp,.nilp=>true
  | .ref b n o l,.ref b' n' o' l'=>Nat.beq b b'&&(Nat.beq n n'&&(Nat.beq o o'&&Nat.beq l l'))
  | .ptr b n o l,.ptr b' n' o' l'=>Nat.beq b b'&&(Nat.beq n n'&&(Nat.beq o o'&&Nat.beq l l'))
  | .map b,.map b'=>Nat.beq b b'
  | _,_=>false
theorem d6{x y:AV}(h:x.eqS y=true):x=y:=by
 unfold AV.eqS at h;split at h
 . rw[beq_iff_eq]at h;rw[h]
 . rw[Bool.and_eq_true,decide_eq_true_eq,decide_eq_true_eq]at h;rw[h.1,h.2]
 . rfl
 . rfl
 . rw[Bool.and_eq_true,Bool.and_eq_true,Bool.and_eq_true]at h;obtain⟨h1,h2,h3,h4⟩:=h;rw[Nat.eq_of_beq_eq_true h1,Nat.eq_of_beq_eq_true h2,Nat.eq_of_beq_eq_true h3,Nat.eq_of_beq_eq_true h4]
 . rw[Bool.and_eq_true,Bool.and_eq_true,Bool.and_eq_true]at h;obtain⟨h1,h2,h3,h4⟩:=h;rw[Nat.eq_of_beq_eq_true h1,Nat.eq_of_beq_eq_true h2,Nat.eq_of_beq_eq_true h3,Nat.eq_of_beq_eq_true h4]
 . rw[Nat.eq_of_beq_eq_true h]
 . cases h
def iu:List AV->List AV->Bool
  | [],[]=>true
  | x::xs,y::ys=>x.eqS y&&iu xs ys
  | _,_=>false
theorem Rb: ∀{xs ys:List AV},iu xs ys=true->xs=ys
 | [],[],_=>rfl
 | x::xs,y::ys,h=>by
  simp only[iu,Bool.and_eq_true]at h;rw[d6 h.1,Rb h.2]
 | [],_::_,h=>by cases h
 | _::_,[],h=>by cases h
def iv:List (List AV)->List (List AV)->Bool
  | [],[]=>true
  | x::xs,y::ys=>iu x y&&iv xs ys
  | _,_=>false
theorem Rc: ∀{xs ys:List (List AV)},iv xs ys=true->xs=ys
 | [],[],_=>rfl
 | x::xs,y::ys,h=>by
  simp only[iv,Bool.and_eq_true]at h;rw[Rb h.1,Rc h.2]
 | [],_::_,h=>by cases h
 | _::_,[],h=>by cases h
def sameAt(h h':Ac)(b:Nat):Bool:=match h b,h' b with
  | some (.row p sz es),some (.row p' sz' es')=>p==p'&&(Nat.beq sz sz'&&iv es es')
  | some .free,some .free=>true
  | _,_=>false
theorem Tz{h h':Ac}{b:Nat}(e:sameAt h h' b=true):h b=h' b:=by
 unfold sameAt at e;split at e
 . rename_i h1 h2;rw[Bool.and_eq_true,Bool.and_eq_true,beq_iff_eq]at e;rw[h1,h2,e.1,Nat.eq_of_beq_eq_true e.2.1,Rc e.2.2]
 . rename_i h1 h2;rw[h1,h2]
 . cases e
def fE(h h':Ac):List Nat->List (Nat×AObj)
  | []=>[]
  | b::l=>match sameAt h h' b,h' b with
    | false,some q=>(b,q)::fE h h' l
    | _,_=>fE h h' l
theorem RB{h h':Ac}{L0:List Nat}: ∀{l:List Nat},(∀b∈l,b∈L0)->(fE h h' l).all (fun p=>mem L0 p.1)=true
 | [],_=>rfl
 | b::l,hh=>by
  unfold fE;split
  . rw[List.all_cons,Bool.and_eq_true];exact⟨mem_iff.2 (hh b (by simp)),RB fun c hc=>hh c (by simp[hc])⟩
  . exact RB fun c hc=>hh c (by simp[hc])
theorem wOf_put{h h':Ac}{b:Nat}{q:AObj}(hq:h' b=some q): ∀(l:List Nat) (h0:Ac),h0 b=h b\/h0 b=some q->b∈l\/h0 b=some q->hputs h0 (fE h h' l) b=some q
 | [],h0,_,hh=>by
  rcases hh with hh | hh
  . simp at hh
  . exact hh
 | c::l,h0,ha,hh=>by
  unfold fE;split
  . rename_i q' hs hq';show hputs (hput h0 c q') (fE h h' l) b=some q
    by_cases hb:b=c
    . subst hb;rw[hq]at hq'
      cases hq'
      exact wOf_put hq l _ (.inr (Aq _ _ _)) (.inr (Aq _ _ _))
    . refine wOf_put hq l _ (by rw[AL _ _ hb];exact ha) ?_;rcases hh with hh | hh
      . simp[hb]at hh;exact .inl hh
      . exact .inr (by rw[AL _ _ hb];exact hh)
  . rename_i hn;refine wOf_put hq l _ ha ?_
    by_cases hb:b=c
    . subst hb;refine .inr ?_;rcases ha with ha | ha
      . cases e:sameAt h h' b with
        | true=>rw[ha,Tz e,hq]
        | false=>exact absurd hq (hn _ e)
      . exact ha
    . rcases hh with hh | hh
      . simp[hb]at hh;exact .inl hh
      . exact .inr hh
theorem Pz{p:Nat->Prop}: ∀{L:List Nat},(∀b∈L,p b)->AllL L p
 | [],_=>trivial
 | b::L,h=>⟨h b (by simp),Pz fun c hc=>h c (by simp[hc])⟩
def I9(h:Ac)(L:List Nat):List Nat->Bool
  | []=>true
  | b::l=>match h b with
    | some q=>q.avoid (mem L)&&I9 h L l
    | none=>false
theorem Hg{h:Ac}{L:List Nat}: ∀{l:List Nat},I9 h L l=true->∀b∈l,∃q,h b=some q/\q.avoid (mem L)=true
 | c::l,hh,b,hb=>by
  unfold I9 at hh;split at hh
  . rename_i q hq;rw[Bool.and_eq_true]at hh;rcases List.mem_cons.1 hb with rfl | hb
    . exact⟨q,hq,hh.1⟩
    . exact Hg hh.2 b hb
  . cases hh
theorem Zw{h:Ac}{L0 F:List Nat}(hf: ∀b∈F,h b=some .free):hres h (L0++F)=hres h L0:=by
 funext b;unfold hres
 cases e0:mem L0 b with
 | true=>
  have:mem (L0++F) b=true:=mem_iff.2 (List.mem_append.2 (.inl (mem_iff.1 e0)));rw[this]
 | false=>
  cases e1:mem (L0++F) b with
  | false=>rfl
  | true=>
   rcases List.mem_append.1 (mem_iff.1 e1)with h1 | h1
   . rw[mem_iff.2 h1]at e0;cases e0
   . rw[cond_true,cond_false];exact hf b h1
def GT(h:Ac)(k:Nat)(xs:List AV):List Nat:=bif xs.all AV.isPure then []else(List.range k).filter fun b=>(h b).isSome
def FSq(k k':Nat)(h':Ac):List Nat:=(List.range' k (k'-k)).filter fun b=>(h' b).isSome
def SR(h h':Ac)(k k':Nat)(xs:List AV)(r:AV):Bool:=
  (FSq k k' h').all (Gw h)&&(xs.all (AV.avoid (mem (GT h k xs++FSq k k' h')))&&(I9 h (GT h k xs++FSq k k' h') (GT h k xs++FSq k k' h')&&
    (I9 h' (GT h k xs++FSq k k' h') (GT h k xs++FSq k k' h')&&r.avoid (mem (GT h k xs++FSq k k' h')))))
def Pd(o:Op)(e:Av):Option (Nat×List AV):=
  match o with
  | .call ⟨.value (.func f),args,_⟩=>match AX e args.toList with
    | some xs=>some (f,xs)
    | none=>none
  | _=>none
section
variable {P : Program} {o : Oper} {e : Av} {h : Ac}
theorem U3{f:Nat}{xs:List AV}{fn:Func}{k k':Nat}{h':Ac}{r:AV}(hc:Pd o.op e=some (f,xs))(hf:P.funcs[f]?=some fn)(hnm:(fn.name== "runtime.NumGoroutine")=false)(hb:fn.body.isSome=true)
 (hfit:SR h h' k k' xs r=true) (hcall:ACall P f xs (hres h (GT h k xs)) (fun r1 h1=>r1=r/\h1=h')):
 OLoc P o e h (GT h k xs++FSq k k' h') (fE h h' (GT h k xs++FSq k k' h')) (some r):=by
 unfold SR at hfit;rw[Bool.and_eq_true,Bool.and_eq_true,Bool.and_eq_true,Bool.and_eq_true]at hfit;obtain⟨c1,c2,c3,c4,c5⟩:=hfit;unfold Pd at hc;split at hc
 . rename_i f' args tys ho;split at hc
   . rename_i ys hx;simp only[Option.some.injEq,Prod.mk.injEq]at hc;obtain⟨rfl,rfl⟩:=hc;refine LN (hc:=hres h (GT h k ys)) (hw:=h') _ _ ho hf hnm hb hx c2 (Pz (Hg c3)) (RB fun b hb=>hb) (Zw fun b hb=>CR (List.all_eq_true.1 c1 b hb)) (Pz fun b hb=>?_) c5 (hcall.mono fun r1 h1 hh=>?_)
     . obtain⟨q,q1,q2⟩:=Hg c4 b hb;exact⟨q,q1,wOf_put q1 _ _ (.inl rfl) (.inl hb),q2⟩
     . obtain⟨rfl,rfl⟩:=hh;exact⟨rfl,HSub.refl _⟩
   . cases hc
 . cases hc
end
def Ir(P:Program)(T:Nat->Option As)(mt:Nat->String->Option Nat)(ct:Nat->Option (List AV->Option AV))(cl:XCall)(ops:Array Oper)(n:Nat):List Oper->Av->Ac->Nat->Ia->List (List Nat×List Nat)->Option (Av×Ac×Nat×Ia)
  | [],e,h,k,lg,acc=>match fG ops acc with
    | true=>some (e,h,k,lg)
    | false=>none
  | o::l,e,h,k,lg,acc=>match AQ ops o e with
    | some false=>match o.dst with
      | some d=>match Nat.blt d n with
        | true=>Ir P T mt ct cl ops n l (Aa e d (.tup [])) h k lg (acc++[([],[])])
        | false=>none
      | none=>Ir P T mt ct cl ops n l e h k lg (acc++[([],[])])
    | some true=>match o.dst with
      | some d=>match Nat.blt d n with
        | true=>match gE P T o.op e h with
          | some (R,r)=>Ir P T mt ct cl ops n l (Aa e d r) h k lg (acc++[(R,[])])
          | none=>match Yo P T o.dst o.op e h k with
            | some (R,W,some r,k')=>Ir P T mt ct cl ops n l (Aa e d r) (hputs h W) k' lg (acc++[(R,W.map (·.1))])
            | some (_,_,none,_)=>none
            | none=>match iE mt ct o.op e with
              | some (f,xs,r)=>match OS P f with
                | some _=>Ir P T mt ct cl ops n l (Aa e d r) h k ((f,xs,r)::lg) (acc++[([],[])])
                | none=>none
              | none=>match Pd o.op e with
                | some (f,xs)=>match OS P f,cl f xs (hres h (GT h k xs)) k lg with
                  | some _,some (r,h',k',lg')=>match SR h h' k k' xs r with
                    | true=>Ir P T mt ct cl ops n l (Aa e d r) (hputs h (fE h h' (GT h k xs++FSq k k' h'))) k' lg' (acc++[(GT h k xs++FSq k k' h',(fE h h' (GT h k xs++FSq k k' h')).map (·.1))])
                    | false=>none
                  | _,_=>none
                | none=>none
        | false=>none
      | none=>match Yo P T o.dst o.op e h k with
        | some (R,W,none,k')=>Ir P T mt ct cl ops n l e (hputs h W) k' lg (acc++[(R,W.map (·.1))])
        | _=>none
    | none=>none
section
variable {P : Program} {T : Nat -> Option As} {mt : Nat -> String -> Option Nat} {ct : Nat -> Option (List AV -> Option AV)} {cl : XCall} {ops : Array Oper} {n : Nat}
theorem iO{o:Oper}{rest:List Oper}{e:Av}{h:Ac}{acc:List (List Nat×List Nat)}{K:Aj->Prop}(hd:o.dst=none)(hg:AQ ops o e=some false)(hr:DOps P ops n rest e h (acc++[([],[])]) K):DOps P ops n (o::rest) e h acc K:=by
 have:=Pw (P:=P) (ops:=ops) (n:=n) (e:=e) (h:=h) (acc:=acc) (K:=K) (o:=o) (rest:=rest) hg (fun t e=>by rw[hd]at e;cases e);rw[hd]at this;exact this hr
theorem xDops_spec(hT:Cq P T)(hcl:cl.Ok P): ∀(l:List Oper) {e e':Av} {h h':Ac} {k k':Nat} {lg lg':Ia} {acc:List (List Nat×List Nat)},Ir P T mt ct cl ops n l e h k lg acc=some (e',h',k',lg')->
 (∀p∈lg,p∈lg')/\(FV P lg'->∀K:Aj->Prop,K ⟨n,e',h'⟩->DOps P ops n l e h acc K)
 | [],e,e',h,h',k,k',lg,lg',acc,hx=>by
  unfold Ir at hx;split at hx
  . rename_i hc;simp only[Option.some.injEq,Prod.mk.injEq]at hx;obtain⟨rfl,rfl,rfl,rfl⟩:=hx;exact⟨fun p hp=>hp,fun _ K hK=>DOps.nil hc hK⟩
  . cases hx
 | o::l,e,e',h,h',k,k',lg,lg',acc,hx=>by
  unfold Ir at hx;split at hx
  . rename_i hg;split at hx
    . rename_i d hd;split at hx
      . rename_i hb;obtain⟨a1,a2⟩:=xDops_spec hT hcl l hx;exact⟨a1,fun hl K hK=>WU d hd hb hg (a2 hl K hK)⟩
      . cases hx
    . rename_i hd;obtain⟨a1,a2⟩:=xDops_spec hT hcl l hx;exact⟨a1,fun hl K hK=>iO hd hg (a2 hl K hK)⟩
  . rename_i hg;split at hx
    . rename_i d hd;split at hx
      . rename_i hb;split at hx
        . rename_i R r hq;obtain⟨a1,a2⟩:=xDops_spec hT hcl l hx;exact⟨a1,fun hl K hK=>DOps.s d hd hb hg (Qb hT hq) (a2 hl K hK)⟩
        . split at hx
          . rename_i R W r k1 hv;obtain⟨a1,a2⟩:=xDops_spec hT hcl l hx;exact⟨a1,fun hl K hK=>DOps.x d hd hb hg (Jf hT hv) (a2 hl K hK)⟩
          . cases hx
          . split at hx
            . rename_i f xs r hc;split at hx
              . rename_i fc hfn;obtain⟨fn,c⟩:=fc;obtain⟨f1,f2,f3⟩:=Fe hfn;obtain⟨a1,a2⟩:=xDops_spec hT hcl l hx;refine⟨fun p hp=>a1 p (by simp[hp]),fun hl K hK=>DOps.x d hd hb hg (Rl hc f1 f3 (by rw[f2];rfl) (hl (f,xs,r) (a1 _ (by simp)))) (a2 hl K hK)⟩
              . cases hx
            . split at hx
              . rename_i f xs hc;split at hx
                . rename_i fc r h1 k1 lg1 hfn hcall;obtain⟨fn,c⟩:=fc;obtain⟨f1,f2,f3⟩:=Fe hfn;split at hx
                  . rename_i hfit;obtain⟨a1,a2⟩:=xDops_spec hT hcl l hx;obtain⟨b1,b2⟩:=hcl _ _ _ _ _ _ _ _ _ hcall;exact⟨fun p hp=>a1 p (b1 p hp),fun hl K hK=>DOps.x d hd hb hg (U3 hc f1 f3 (by rw[f2];rfl) hfit (b2 (fun p hp=>hl p (a1 p hp)))) (a2 hl K hK)⟩
                  . cases hx
                . cases hx
              . cases hx
      . cases hx
    . rename_i hd;split at hx
      . rename_i R W k1 hv;obtain⟨a1,a2⟩:=xDops_spec hT hcl l hx;exact⟨a1,fun hl K hK=>DOps.w hd hg (Jf hT hv) (a2 hl K hK)⟩
      . cases hx
  . cases hx
end
def JU(T:Nat->Option As)(e:Av)(h:Ac):List ResultVar->Option (List AV)
  | []=>some []
  | .tmp t::rs=>match e t,JU T e h rs with
    | some x,some xs=>some (x::xs)
    | _,_=>none
  | .cell a t::rs=>match e a,T t with
    | some p,some i=>match XA h p with
      | some (_,cs)=>match IP i cs,JU T e h rs with
        | some x,some xs=>some (x::xs)
        | _,_=>none
      | none=>none
    | _,_=>none
theorem E5{T:Nat->Option As}{n:Nat}{e:Av}{h:Ac}: ∀{rs:List ResultVar} {xs:List AV},JU T e h rs=some xs->G9 T ⟨n,e,h⟩ rs xs
 | [],xs,hx=>by simp[JU]at hx;subst hx;trivial
 | .tmp t::rs,xs,hx=>by
  unfold JU at hx;split at hx
  . rename_i x ys h1 h2;simp only[Option.some.injEq]at hx;subst hx;exact⟨h1,E5 h2⟩
  . cases hx
 | .cell a t::rs,xs,hx=>by
  unfold JU at hx;split at hx
  . rename_i p i h1 h2;split at hx
    . rename_i R cs h3;split at hx
      . rename_i x ys h4 h5;simp only[Option.some.injEq]at hx;subst hx;exact⟨⟨p,i,R,cs,h1,h2,N6 h3,h4⟩,E5 h5⟩
      . cases hx
    . cases hx
  . cases hx
def L7:Exit->Bool
  | .normal | .ret=>true
  | _=>false
abbrev tu:=Option (Exit×Av×Ac×Nat×Ia)
def Ln(P:Program)(T:Nat->Option As)(mt:Nat->String->Option Nat)(ct:Nat->Option (List AV->Option AV))(fz:Nat->Nat->Option Nat):Nat->Nat->Code->Av->Ac->Nat->Ia->tu
  | 0,_,_,_,_,_,_=>none
  | g+1,n,c,e,h,k,lg=>match c with
    | .skip=>some (.normal,e,h,k,lg)
    | .label _=>some (.normal,e,h,k,lg)
    | .exit id=>some (.exit id,e,h,k,lg)
    | .ret=>some (.ret,e,h,k,lg)
    | .seq a b=>match Ln P T mt ct fz g n a e h k lg with
      | some (x,e1,h1,k1,lg1)=>match x with
        | .normal=>Ln P T mt ct fz g n b e1 h1 k1 lg1
        | x=>some (x,e1,h1,k1,lg1)
      | none=>none
    | .cond (.tmp t) a b=>match e t with
      | some (.bool true)=>Ln P T mt ct fz g n a e h k lg
      | some (.bool false)=>Ln P T mt ct fz g n b e h k lg
      | _=>none
    | .block id b=>match Ln P T mt ct fz g n b e h k lg with
      | some (x,e1,h1,k1,lg1)=>match x with
        | .exit id'=>match Nat.beq id' id with
          | true=>some (.normal,e1,h1,k1,lg1)
          | false=>some (.exit id',e1,h1,k1,lg1)
        | x=>some (x,e1,h1,k1,lg1)
      | none=>none
    | .loop b=>match Ln P T mt ct fz g n b e h k lg with
      | some (x,e1,h1,k1,lg1)=>match x with
        | .normal=>Ln P T mt ct fz g n (.loop b) e1 h1 k1 lg1
        | x=>some (x,e1,h1,k1,lg1)
      | none=>none
    | .scope b=>match Ln P T mt ct fz g n b e h k lg with
      | some (x,e1,h1,k1,lg1)=>match x with
        | .goto _=>none
        | x=>some (x,e1,h1,k1,lg1)
      | none=>none
    | .region id ops dr=>(match UO fz n id k e h with
      |(e0,h0)=>match dr with
      | false=>match MO P T mt ct (fun f xs h k lg=>match OS P f with
          | some (fn,c)=>match Ln P T mt ct fz g (xs.length+(fn.ntmps-xs.length)) c (Hh xs) h k lg with
            | some (x,e1,h1,k1,lg1)=>match L7 x,JU T e1 h1 fn.results.toList with
              | true,some ys=>some (FQ ys,h1,k1,lg1)
              | _,_=>none
            | none=>none
          | none=>none) ops n ops.toList e0 h0 k lg with
        | some (e1,h1,k1,lg1)=>some (.normal,e1,h1,k1,lg1)
        | none=>none
      | true=>match Ir P T mt ct (fun f xs h k lg=>match OS P f with
          | some (fn,c)=>match Ln P T mt ct fz g (xs.length+(fn.ntmps-xs.length)) c (Hh xs) h k lg with
            | some (x,e1,h1,k1,lg1)=>match L7 x,JU T e1 h1 fn.results.toList with
              | true,some ys=>some (FQ ys,h1,k1,lg1)
              | _,_=>none
            | none=>none
          | none=>none) ops n ops.toList e0 h0 k lg []with
        | some (e1,h1,k1,lg1)=>some (.normal,e1,h1,k1,lg1)
        | none=>none)
    | _=>none
def xCl(P:Program)(T:Nat->Option As)(mt:Nat->String->Option Nat)(ct:Nat->Option (List AV->Option AV))(fz:Nat->Nat->Option Nat)(g:Nat):XCall:=fun f xs h k lg=>match OS P f with
  | some (fn,c)=>match Ln P T mt ct fz g (xs.length+(fn.ntmps-xs.length)) c (Hh xs) h k lg with
    | some (x,e1,h1,k1,lg1)=>match L7 x,JU T e1 h1 fn.results.toList with
      | true,some ys=>some (FQ ys,h1,k1,lg1)
      | _,_=>none
    | none=>none
  | none=>none
def Ib(x:Exit)(s:Aj):Exit->Aj->Prop:=fun x1 s1=>x1=x/\s1=s
section
variable {P : Program} {T : Nat -> Option As} {mt : Nat -> String -> Option Nat} {ct : Nat -> Option (List AV -> Option AV)} {fz : Nat -> Nat -> Option Nat}
theorem MX{x:Exit}{s s1:Aj}{x1:Exit}{K:Aj->Prop}{Q:Exit->Aj->Prop}(h:Ib x s x1 s1)(hn:x= .normal->K s)(ho:x≠ .normal->Q x s):Ce K Q x1 s1:=by
 obtain⟨rfl,rfl⟩:=h
 cases x1 with
 | normal=>exact hn rfl
 | _=>exact ho (fun h=>by cases h)
theorem j5(hT:Cq P T){g:Nat}(ih: ∀n c e h k lg x e' h' k' lg',Ln P T mt ct fz g n c e h k lg=some (x,e',h',k',lg')->(∀p∈lg,p∈lg')/\(FV P lg'->AGo P c ⟨n,e,h⟩ (Ib x ⟨n,e',h'⟩))):(xCl P T mt ct fz g).Ok P:=by
 intro f xs h k lg r h' k' lg' hx;unfold xCl at hx;split at hx
 . rename_i fn c hfn;obtain⟨f1,f2,f3⟩:=Fe hfn;split at hx
   . rename_i x e1 h1 k1 lg1 hg;split at hx
     . rename_i ys hend hres;simp only[Option.some.injEq,Prod.mk.injEq]at hx;obtain⟨rfl,rfl,rfl,rfl⟩:=hx;obtain⟨a1,a2⟩:=ih _ _ _ _ _ _ _ _ _ _ _ hg;refine⟨a1,fun hl=>ACall.of_body hT f1 f2 rfl (AGo.mono (a2 hl) fun x1 s1 hh=>?_)⟩;obtain⟨rfl,rfl⟩:=hh
       cases x1<;>simp[L7]at hend
       . exact⟨ys,E5 hres,rfl,rfl⟩
       . exact⟨ys,E5 hres,rfl,rfl⟩
     . cases hx
   . cases hx
 . cases hx
theorem Te(hT:Cq P T)(hmt:c8 P mt)(hmx:P.follows .mixedOrders=true): ∀(g n:Nat) (c:Code) (e:Av) (h:Ac) (k:Nat) (lg:Ia) (x:Exit) (e':Av) (h':Ac) (k':Nat) (lg':Ia),Ln P T mt ct fz g n c e h k lg=some (x,e',h',k',lg')->
 (∀p∈lg,p∈lg')/\(FV P lg'->AGo P c ⟨n,e,h⟩ (Ib x ⟨n,e',h'⟩)/\∀b,c= .loop b->∃m,Un P b (Ib x ⟨n,e',h'⟩) m ⟨n,e,h⟩)
 | 0,_,_,_,_,_,_,_,_,_,_,_,hx=>by cases hx
 | g+1,n,c,e,h,k,lg,x,e',h',k',lg',hx=>by
  have ih:=Te hT hmt hmx g;have ih1: ∀n c e h k lg x e' h' k' lg',Ln P T mt ct fz g n c e h k lg=some (x,e',h',k',lg')->(∀p∈lg,p∈lg')/\(FV P lg'->AGo P c ⟨n,e,h⟩ (Ib x ⟨n,e',h'⟩)):=
   fun n c e h k lg x e' h' k' lg' hg=>⟨(ih n c e h k lg x e' h' k' lg' hg).1,fun hl=>((ih n c e h k lg x e' h' k' lg' hg).2 hl).1⟩
  have hcl:=j5 (P:=P) (mt:=mt) (ct:=ct) (fz:=fz) hT ih1
  cases c with
  | skip=>
   simp only[Ln,Option.some.injEq,Prod.mk.injEq]at hx;obtain⟨rfl,rfl,rfl,rfl,rfl⟩:=hx;exact⟨fun p hp=>hp,fun _=>⟨AGo.skip ⟨rfl,rfl⟩,fun b hb=>by cases hb⟩⟩
  | label l=>
   simp only[Ln,Option.some.injEq,Prod.mk.injEq]at hx;obtain⟨rfl,rfl,rfl,rfl,rfl⟩:=hx;exact⟨fun p hp=>hp,fun _=>⟨AGo.label ⟨rfl,rfl⟩,fun b hb=>by cases hb⟩⟩
  | exit id=>
   simp only[Ln,Option.some.injEq,Prod.mk.injEq]at hx;obtain⟨rfl,rfl,rfl,rfl,rfl⟩:=hx;exact⟨fun p hp=>hp,fun _=>⟨AGo.exit ⟨rfl,rfl⟩,fun b hb=>by cases hb⟩⟩
  | ret=>
   simp only[Ln,Option.some.injEq,Prod.mk.injEq]at hx;obtain⟨rfl,rfl,rfl,rfl,rfl⟩:=hx;exact⟨fun p hp=>hp,fun _=>⟨AGo.ret ⟨rfl,rfl⟩,fun b hb=>by cases hb⟩⟩
  | seq a b=>
   simp only[Ln]at hx;split at hx
   . rename_i x1 e1 h1 k1 lg1 hg;obtain⟨a1,a2⟩:=ih1 _ _ _ _ _ _ _ _ _ _ _ hg;split at hx
     . obtain⟨b1,b2⟩:=ih1 _ _ _ _ _ _ _ _ _ _ _ hx;exact⟨fun p hp=>b1 p (a1 p hp),fun hl=>⟨AGo.seq (AGo.mono (a2 fun p hp=>hl p (b1 p hp)) fun x2 s2 hh=>MX hh (fun _=>b2 hl) (fun hn=>absurd rfl hn)),fun b hb=>by cases hb⟩⟩
     . rename_i hne;simp only[Option.some.injEq,Prod.mk.injEq]at hx;obtain⟨rfl,rfl,rfl,rfl,rfl⟩:=hx;exact⟨a1,fun hl=>⟨AGo.seq (AGo.mono (a2 hl) fun x2 s2 hh=>MX hh (fun hn=>absurd hn hne) (fun _=>⟨rfl,rfl⟩)),fun b hb=>by cases hb⟩⟩
   . cases hx
  | cond o a b=>
   cases o with
   | tmp t=>
    simp only[Ln]at hx;split at hx
    . rename_i ht;obtain⟨a1,a2⟩:=ih1 _ _ _ _ _ _ _ _ _ _ _ hx;exact⟨a1,fun hl=>⟨AGo.cond_true true ht rfl (a2 hl),fun b hb=>by cases hb⟩⟩
    . rename_i ht;obtain⟨a1,a2⟩:=ih1 _ _ _ _ _ _ _ _ _ _ _ hx;exact⟨a1,fun hl=>⟨AGo.cond_false false ht rfl (a2 hl),fun b hb=>by cases hb⟩⟩
    . cases hx
   | _=>simp only[Ln]at hx;cases hx
  | block id b=>
   simp only[Ln]at hx;split at hx
   . rename_i x1 e1 h1 k1 lg1 hg;obtain⟨a1,a2⟩:=ih1 _ _ _ _ _ _ _ _ _ _ _ hg;split at hx
     . rename_i id';split at hx
       . rename_i hid;exact zt71
       . rename_i hid;exact zt71
     . rename_i hne;simp only[Option.some.injEq,Prod.mk.injEq]at hx;obtain⟨rfl,rfl,rfl,rfl,rfl⟩:=hx;refine⟨a1,fun hl=>⟨AGo.block (AGo.mono (a2 hl) fun x2 s2 hh=>?_),fun b hb=>by cases hb⟩⟩;obtain⟨rfl,rfl⟩:=hh
       cases x2 with
       | exit i=>exact absurd rfl (hne i)
       | _=>exact⟨rfl,rfl⟩
   . cases hx
  | loop b=>
   simp only[Ln]at hx;split at hx
   . rename_i x1 e1 h1 k1 lg1 hg;obtain⟨a1,a2⟩:=ih1 _ _ _ _ _ _ _ _ _ _ _ hg;split at hx
     . obtain⟨b1,b2⟩:=ih _ _ _ _ _ _ _ _ _ _ _ hx;refine⟨fun p hp=>b1 p (a1 p hp),fun hl=>?_⟩;obtain⟨m,hm⟩:=(b2 hl).2 b rfl;have hu:Un P b (Ib x ⟨n,e',h'⟩) (m+1) ⟨n,e,h⟩:=Vk (AGo.mono (a2 fun p hp=>hl p (b1 p hp)) fun x2 s2 hh=>MX hh (fun _=>hm) (fun hn=>absurd rfl hn));exact⟨PA _ hu,fun b' hb=>by cases hb;exact⟨_,hu⟩⟩
     . rename_i hne;simp only[Option.some.injEq,Prod.mk.injEq]at hx;obtain⟨rfl,rfl,rfl,rfl,rfl⟩:=hx;refine⟨a1,fun hl=>?_⟩;have hu:Un P b (Ib x1 ⟨n,e1,h1⟩) 0 ⟨n,e,h⟩:=Vj (AGo.mono (a2 hl) fun x2 s2 hh=>MX hh (fun hn=>absurd hn hne) (fun _=>⟨rfl,rfl⟩));exact⟨PA _ hu,fun b' hb=>by cases hb;exact⟨_,hu⟩⟩
   . cases hx
  | scope b=>
   simp only[Ln]at hx;split at hx
   . rename_i x1 e1 h1 k1 lg1 hg;obtain⟨a1,a2⟩:=ih1 _ _ _ _ _ _ _ _ _ _ _ hg;split at hx
     . cases hx
     . rename_i hne;simp only[Option.some.injEq,Prod.mk.injEq]at hx;obtain⟨rfl,rfl,rfl,rfl,rfl⟩:=hx;refine⟨a1,fun hl=>⟨AGo.scope (AGo.mono (a2 hl) fun x2 s2 hh=>?_),fun b hb=>by cases hb⟩⟩;obtain⟨rfl,rfl⟩:=hh
       cases x2 with
       | goto i=>exact absurd rfl (hne i)
       | _=>exact⟨rfl,rfl⟩
   . cases hx
  | region id ops dr=>
   cases dr with
   | false=>
    simp only[Ln]at hx;generalize hfz:UO fz n id k e h=eh at hx;obtain⟨e0,h0⟩:=eh;have hgst:=MH hfz;simp only at hx;split at hx
    . rename_i e1 h1 k1 lg1 hg;simp only[Option.some.injEq,Prod.mk.injEq]at hx;obtain⟨rfl,rfl,rfl,rfl,rfl⟩:=hx;obtain⟨a1,a2⟩:=D5 hT hmt hcl _ hg;exact⟨a1,fun hl=>⟨AGo.ghost hgst (AGo.region (a2 hl _ ⟨rfl,rfl⟩)),fun b hb=>by cases hb⟩⟩
    . cases hx
   | true=>
    simp only[Ln]at hx;generalize hfz:UO fz n id k e h=eh at hx;obtain⟨e0,h0⟩:=eh;have hgst:=MH hfz;simp only at hx;split at hx
    . rename_i e1 h1 k1 lg1 hg;simp only[Option.some.injEq,Prod.mk.injEq]at hx;obtain⟨rfl,rfl,rfl,rfl,rfl⟩:=hx;obtain⟨a1,a2⟩:=xDops_spec hT hcl _ hg;exact⟨a1,fun hl=>⟨AGo.ghost hgst (Vl hmx (a2 hl _ ⟨rfl,rfl⟩)),fun b hb=>by cases hb⟩⟩
    . cases hx
  | _=>simp only[Ln]at hx;cases hx
end
theorem PV{P:Program}{c:Code}{x:Exit}{s s1 s2:Aj}(h:AGo P c s (Ib x s1))(hg:Ghost s1 s2):AGo P c s (Ib x s2):=fun H ι a w hs=>
 wp_mono (h H ι a w hs) fun e a' w' hp=>by
  obtain⟨s',H',ι',⟨rfl,rfl⟩,h1,h2⟩:=hp;obtain⟨H2,ι2,h3,h4⟩:=hg H' ι' a' w' h1;exact⟨s2,H2,ι2,⟨rfl,rfl⟩,h3,h2.trans hs.heap h1.heap h4⟩
def R2(e:Av):List ResultVar->List Nat
  | []=>[]
  | .tmp t::rs=>(match e t with | some x=>R4 x | none=>[])++R2 e rs
  | .cell t _::rs=>(match e t with | some x=>R4 x | none=>[])++R2 e rs
def qh(P:Program)(T:Nat->Option As)(mt:Nat->String->Option Nat)(ct:Nat->Option (List AV->Option AV))(fz:Nat->Nat->Option Nat)(g f:Nat)(xs:List AV):Option (AV×Ia):=match OS P f with
  | some (fn,c)=>match Ln P T mt ct fz g (xs.length+(fn.ntmps-xs.length)) c (Hh xs) hNew 0 []with
    | some (x,e1,h1,k1,lg1)=>match UN (xs.length+(fn.ntmps-xs.length)) k1 (R5 h1 4 (R2 e1 fn.results.toList)) e1 h1 with
      |(e2,h2)=>match L7 x,JU T e2 h2 fn.results.toList with
        | true,some ys=>match(FQ ys).isPure with
          | true=>some (FQ ys,lg1)
          | false=>none
        | _,_=>none
    | none=>none
  | none=>none
theorem DE{P:Program}{T:Nat->Option As}{mt:Nat->String->Option Nat}{ct:Nat->Option (List AV->Option AV)}{fz:Nat->Nat->Option Nat}(hT:Cq P T)(hmt:c8 P mt)(hmx:P.follows .mixedOrders=true)(g:Nat){f:Nat}{xs:List AV}{r:AV}{lg:Ia}
 (hx:qh P T mt ct fz g f xs=some (r,lg)) (hl:FV P lg):APure P f xs (fun r'=>r'=r):=by
 unfold qh at hx;split at hx
 . rename_i fn c hfn;obtain⟨f1,f2,f3⟩:=Fe hfn;split at hx
   . rename_i x e1 h1 k1 lg1 hg;split at hx;rename_i e2 h2 hfz;split at hx
     . rename_i ys hend hres;split at hx
       . rename_i hp;simp only[Option.some.injEq,Prod.mk.injEq]at hx;obtain⟨rfl,rfl⟩:=hx;have ha:=((Te hT hmt hmx g _ _ _ _ _ _ _ _ _ _ _ hg).2 hl).1;refine APure.of_body hT f1 f2 rfl (AGo.mono (PV ha (Fd _ hfz)) fun x1 s1 hh=>?_);obtain⟨rfl,rfl⟩:=hh
         cases x1<;>simp[L7]at hend
         . exact⟨ys,E5 hres,rfl,hp⟩
         . exact⟨ys,E5 hres,rfl,hp⟩
       . cases hx
     . cases hx
   . cases hx
 . cases hx
theorem Fa(P:Program):FV P []:=fun p hp=>by cases hp
theorem Fb{P:Program}{f:Nat}{xs:List AV}{r:AV}{lg:Ia}(h:APure P f xs (fun r'=>r'=r))(hl:FV P lg):FV P ((f,xs,r)::lg):=fun p hp=>by
 cases hp with
 | head=>exact h
 | tail _ hp=>exact hl p hp
theorem JC{P:Program}{a b:Ia}(h1:FV P a)(h2:FV P b):FV P (a++b):=fun p hp=>(List.mem_append.1 hp).elim (h1 p) (h2 p)
def tinyA:BFunc:=⟨3,[⟨[⟨1,0,0,0,0,0,0,60⟩,⟨1,1,0,0,0,0,0,5⟩,⟨3,2,0,1,4,0,0,0⟩,⟨9,0,2,0,0,0,0,0⟩],3,0,0,0⟩]⟩
def tinyB:BFunc:=⟨3,[⟨[⟨1,0,0,0,0,0,0,60⟩,⟨1,1,0,0,0,0,0,5⟩,⟨1,2,0,0,0,0,0,65⟩,⟨9,0,2,0,0,0,0,0⟩],3,0,0,0⟩]⟩
def tinyC:BFunc:=⟨3,[⟨[⟨1,2,0,0,0,0,0,65⟩,⟨9,0,2,0,0,0,0,0⟩],3,0,0,0⟩]⟩
def Xc(f:BFunc):Blocks:=⟨0,[f]⟩
theorem PU{P:Program}{f:Nat}{args:List AV}{r:AV}{h0:Ac}(hp:r.isPure=true)(hc:ACall P f args hNew (fun r' h'=>r'=r/\HSub h0 h')):APure P f args (fun r'=>r'=r):=by
 intro H w vs ha hk;refine(hc H AU w vs ha (MG hk)).mono fun e w' hx=>?_
 obtain⟨v,r',h',H',ι',rfl,⟨rfl,_⟩,h3,h4,h5⟩:=hx;have hno: ∀rb,¬Dw hNew AU rb:=fun rb ho=>by obtain⟨b,o,r,e1,e2,e3,_⟩:=ho;cases e3
 exact⟨v,r',H',rfl,rfl,Gr hp h3,⟨h5.size,h5.os,h5.out,fun rb hlt=>h5.keep rb hlt (hno rb),h5.kle,fun b hb=>(h5.knew b hb).imp id fun h=>h.resolve_right (hno b),h4.know⟩⟩
def qx:Nat->String->Option Nat:=fun t s=>bif Nat.beq t 97 then(bif s== "seedcorn/optimize.run" then some 128 else bif s== "seedcorn/optimize.holds" then some 127 else none)else bif Nat.beq t 99 then(bif s== "seedcorn/optimize.run" then some 142 else bif s== "seedcorn/optimize.holds" then some 141 else none)else none
theorem mt_cr(v:Value)(w:World):(method (Tryz.prog.types.size+Made.depth) 97 v "seedcorn/optimize.run").run Tryz.prog w= .ok (128,v) w:=by kernel_rfl
theorem mt_ch(v:Value)(w:World):(method (Tryz.prog.types.size+Made.depth) 97 v "seedcorn/optimize.holds").run Tryz.prog w= .ok (127,v) w:=by kernel_rfl
theorem mt_jr(v:Value)(w:World):(method (Tryz.prog.types.size+Made.depth) 99 v "seedcorn/optimize.run").run Tryz.prog w= .ok (142,v) w:=by kernel_rfl
theorem mt_jh(v:Value)(w:World):(method (Tryz.prog.types.size+Made.depth) 99 v "seedcorn/optimize.holds").run Tryz.prog w= .ok (141,v) w:=by kernel_rfl
theorem Qu:c8 Tryz.prog qx:=fun t name f v w h=>by
 unfold qx at h
 cases ht:Nat.beq t 97 with
 | true=>
  obtain rfl:=Nat.eq_of_beq_eq_true ht;rw[ht]at h;simp only[cond_true]at h
  cases h1:name== "seedcorn/optimize.run" with
  | true=>
   rw[h1]at h;obtain rfl:=eq_of_beq h1;simp only[cond_true,Option.some.injEq]at h;subst h;exact mt_cr v w
  | false=>
   rw[h1]at h
   cases h2:name== "seedcorn/optimize.holds" with
   | true=>
    rw[h2]at h;obtain rfl:=eq_of_beq h2;simp only[cond_true,cond_false,Option.some.injEq]at h;subst h;exact mt_ch v w
   | false=>rw[h2]at h;cases h
 | false=>
  rw[ht]at h
  cases ht2:Nat.beq t 99 with
  | true=>
   obtain rfl:=Nat.eq_of_beq_eq_true ht2;rw[ht2]at h;simp only[cond_true,cond_false]at h
   cases h1:name== "seedcorn/optimize.run" with
   | true=>
    rw[h1]at h;obtain rfl:=eq_of_beq h1;simp only[cond_true,Option.some.injEq]at h;subst h;exact mt_jr v w
   | false=>
    rw[h1]at h
    cases h2:name== "seedcorn/optimize.holds" with
    | true=>
     rw[h2]at h;obtain rfl:=eq_of_beq h2;simp only[cond_true,cond_false,Option.some.injEq]at h;subst h;exact mt_jh v w
    | false=>rw[h2]at h;cases h
  | false=>rw[ht2]at h;cases h
def Zz:Nat->Nat->Option Nat:=fun n i=>bif Nat.beq n 83&&Nat.beq i 14 then some 6 else bif Nat.beq n 90&&Nat.beq i 19 then some 14 else none
def tinyBl:Block:=⟨[⟨1,2,0,0,0,0,0,65⟩,⟨9,0,2,0,0,0,0,0⟩],3,0,0,0⟩
def RD:AV:=.tup [.lst false [[.int .u64 0]],.lst false [[.int .u64 4]]]
def tr:Nat->Option (List AV->Option AV):=fun f=>bif Nat.beq f 97 then some (fun _=>some RD)else none
def SQ:AV:=.lst false [[.lst false [[.bool true],[.bool true],[.bool true]]]]
def eR:AV:=.lst false [[.lst false [[.bool false],[.bool false],[.bool false]]]]
def bq:List AV:=[.int .i64 3,.lst false [[.lst true (tinyBl.ins.map Tac.cells),.int .i64 3,.int .i64 0,.int .i64 0,.int .i64 0]]]
def ku:AV:=.lst false [
  [.int .i64 1,SQ,.nil]++tinyB.cells,
  [.int .i64 2,SQ,.nil]++tinyB.cells,
  [.int .i64 3,eR,.nil]++tinyC.cells,
  [.int .i64 4,.nil,.lst false [[.lst false [[.int .i64 0]]]]]++bq]
def Xb:AV:=.tup [.agg [.int .i64 0,.lst false [bq]],.lst false [[ku]],.int .i64 0]
def VG:List AV:=[.agg (Xc tinyA).cells,.lst false [[.int .i64 1],[.int .i64 2],[.int .i64 3],[.int .i64 4]]]
def t8:Nat->Option (List AV->Option AV):=fun f=>bif Nat.beq f 129 then some (fun _=>some (.bool true))else bif Nat.beq f 30 then some (fun _=>some (.agg (Xc tinyA).cells))else bif Nat.beq f 15 then some (fun xs=>match xs with | [_,.lst _ (_::_::_)]=>some Xb | _=>none)else none
def gT:Nat->Option (List AV->Option AV):=fun _=>none
def Iu:Ia:=[(30,[],.agg (Xc tinyA).cells)]
def ko:Ia:=[(129,[.agg tinyB.cells,.agg tinyC.cells,.agg [eR]],.bool true),(129,[.agg tinyB.cells,.agg tinyB.cells,.agg [SQ]],.bool true),(129,[.agg tinyA.cells,.agg tinyB.cells,.agg [SQ]],.bool true)]
section
variable {o : Oper} {e : Av} {h : Ac}
end
theorem K6{α:Type}{F:List α}{f:α->List AV}{z y:List AV}{k n i:Nat}(hF:F.length=n)(hk:k<=n):n=(((F.take k).map f++List.replicate (n-k) z).set i y).length:=by
 rw[List.length_set];exact AE hF hk
theorem K7{α:Type}{F:List α}{f:α->List AV}{z y:List AV}{k n:Nat}(hF:F.length=n)(hk:k<n):(((F.take k).map f++List.replicate (n-k) z).set (0+((k:Nat):Int).toNat) y)[0+((k:Nat):Int).toNat]?=some y:=by
 have:=AE (f:=f) (z:=z) hF (Nat.le_of_lt hk);rw[List.getElem?_set_self (by omega)]
theorem VX{α:Type}{l:List α}{i:Nat}{x y:α}:(l.set i x).set i y=l.set i y:=by
 apply List.ext_getElem?;intro j;simp only[List.getElem?_set];split<;>simp_all
theorem Sf(l:List (List OPass)): ∀cs∈l.map (fun x=>[C8 x]),cs.all AV.isPure1=true:=fun cs h=>by
 obtain⟨x,_,rfl⟩:=List.mem_map.1 h;rfl
theorem Ka{q:Nat->Bool}{l:List (List OPass)}{m:Nat}:(AObj.row false 1 (l.map (fun x=>[C8 x])++List.replicate m [AV.nil])).avoid q=true:=by
 show List.all _ _=true;rw[List.all_append,Bool.and_eq_true];refine⟨List.all_eq_true.2 fun cs h=>?_,List.all_eq_true.2 fun cs h=>?_⟩
 . obtain⟨x,_,rfl⟩:=List.mem_map.1 h;rfl
 . rw[(List.mem_replicate.1 h).2];rfl
theorem Mu{q:Nat->Bool}{l:List (List OPass)}{m i b n:Nat}(hb:q b=true):(AObj.row false 1 ((l.map (fun x=>[C8 x])++List.replicate m [AV.nil]).set i [.ref b n 0 n])).avoid q=true:=by
 show List.all _ _=true;refine List.all_eq_true.2 fun cs h=>?_
 rcases List.mem_or_eq_of_mem_set h with h | rfl
 . exact List.all_eq_true.1 (Ka (q:=q) (l:=l) (m:=m)) cs h
 . simp[AV.avoid,AV.flat,hb]
structure Ask35 where
  old:Blocks
  new:Blocks
  l:List (List OPass)
  s:ByteArray
def Ask35.cells(z:Ask35):List AV:=[.int .i64 z.old.words,F7 z.old.funcs,.int .i64 z.new.words,F7 z.new.funcs,Wo z.l,.str z.s]
structure I35(f:BFunc):Prop where
  c:f.count<=300
  w:f.words
theorem I35.n{f:BFunc}(h:I35 f):f.blocks.length<=10000:=by have:=D2 f;have:=h.c;omega
end Go.Proofs.YtbbfelelocccmaaGreat.Sv
namespace Go.Proofs.YtbbfelelocccmaaGreat
open Go Go.ChangeShapes Go.WideShapes Go.ChangeAt Go.RowKit Sv
section
variable {H : Type} {enc : TypeId × Value -> H} {W : World}
theorem decIntsR:DecR enc Tryz.prog W 25 (fun l:List Int=>[AZ l]) (fun l n=>(∀x∈l,S8 x)/\l.length+1<=n):=fun fuel cs x h hw=>by
 obtain⟨l,h1,_,h2⟩:=DecR.slice' (j:=tK) Ag rfl rfl rfl (Nat.zero_lt_succ _) (DecR.of (B2 Ag rfl rfl)) fuel cs x h hw;refine⟨l,h1,fun y hy=>?_,h2.len (fun a m h=>h.2)⟩;obtain⟨m,hm,_⟩:=h2.all y hy;exact DI hm.1
def PassN(p:OPass)(n:Nat):Prop:=p.f.Ok/\S8 p.kind/\p.f.count+1<=n/\p.paths.length<=n/\(∀r∈p.paths,r.length<=n)/\p.cert.same.length<=n
theorem PassN.mono{p:OPass}{m n:Nat}(h:PassN p m)(hm:m<=n):PassN p n:=⟨h.1,h.2.1,Nat.le_trans h.2.2.1 hm,Nat.le_trans h.2.2.2.1 hm,fun r hr=>Nat.le_trans (h.2.2.2.2.1 r hr) hm,Nat.le_trans h.2.2.2.2.2 hm⟩
theorem words_row{b:Blocks}(h:b.Ok): ∀f∈b.funcs,f.words:=fun f hf x hx=>BFunc.Ok.insW (h.funcs f hf) hx
end
end Go.Proofs.YtbbfelelocccmaaGreat
namespace Go.Proofs.YtbbfelelocccmaaGreat
open Go Go.ChangeShapes Go.WideShapes Go.ChangeAt Go.RowKit Sv
section
variable {H : Type} {enc : TypeId × Value -> H} {W : World}
theorem blocksI_row{b:Blocks}{n:Nat}(h:b.Ok/\b.count+b.funcs.length<=n)(hn:n<=1048576):b.Lim/\b.insW:=⟨lim_row h hn,words_row h.1⟩
theorem ints23_row{l:List Int}{n:Nat}(h:(∀x∈l,S8 x)/\l.length+1<=n)(hn:n<=1048576):l.length<=1048576:=by omega
end
end Go.Proofs.YtbbfelelocccmaaGreat
namespace Go.Proofs.YtbbfelelocccmaaGreat.Sv
open Go
def Cn(d:Int)(fr:List Int):List Int:=fr.mapIdx fun v s=>bif ((v:Int)==d||s==d)then(v:Int)else s
def subT(fr:List Int)(t:Tac):Tac:=bif use1 t.op then {t with a:=rget fr t.a}else bif use2 t.op then {t with a:=rget fr t.a,b:=rget fr t.b}else t
def Dt(fr:List Int)(t:Tac):List Int:=
  bif decide (t.sets>=0)then(bif (t.op==2&&t.a !=t.sets)then AS (Cn t.sets fr) t.sets t.a else Cn t.sets fr)else fr
def Db:List Int->List Tac->List Tac×List Int
  | fr,[]=>([],fr)
  | fr,t::l=>(subT fr t::(Db (Dt fr (subT fr t)) l).1,(Db (Dt fr (subT fr t)) l).2)
def Kr(R:Nat):List Int:=(List.range R).map fun(v:Nat)=>(v:Int)
def Block.forward(R:Nat)(x:Block):Block:=
  {x with ins:=(Db (Kr R) x.ins).1,v:=bif x.fin==2 then rget (Db (Kr R) x.ins).2 x.v else x.v}
def BFunc.forward(f:BFunc):BFunc:=⟨f.regs,f.blocks.map (Block.forward f.regs.toNat)⟩
def BFunc.fcert(f:BFunc):Cert:=⟨List.replicate f.blocks.length (List.replicate f.regs.toNat true)⟩
theorem Dj(d:Int)(fr:List Int):(Cn d fr).length=fr.length:=by simp[Cn]
theorem TC{l:List Int}{v:Nat}(h:v<l.length):l[v]?=some (rget l v):=by
 unfold rget;rw[show(v:Int).toNat=v from rfl,List.getElem?_eq_getElem h];rfl
theorem KH{l l':List Int}(h:l.length=l'.length)(hv: ∀v:Nat,v<l.length->rget l v=rget l' v):l=l':=by
 apply List.ext_getElem?;intro v
 by_cases hl:v<l.length
 . rw[TC hl,TC (by omega),hv v hl]
 . rw[List.getElem?_eq_none (by omega),List.getElem?_eq_none (by omega)]
theorem Dk{d:Int}{fr:List Int}{v:Nat}(h:v<fr.length):rget (Cn d fr) v=bif ((v:Int)==d||rget fr v==d)then(v:Int)else rget fr v:=by
 unfold rget Cn;rw[show(v:Int).toNat=v from rfl,List.getElem?_mapIdx,List.getElem?_eq_getElem h];rfl
theorem XR(R:Nat):(Kr R).length=R:=by simp[Kr]
theorem JG{R v:Nat}(h:v<R):rget (Kr R) v=v:=by simp[rget,Kr,h]
theorem C5(l:List Int)(i v:Int):(AS l i v).length=l.length:=by unfold AS;simp
theorem E3{l:List Int}{d v:Nat}{x:Int}(hd:d<l.length):rget (AS l (d:Int) x) (v:Int)=if v=d then x else rget l v:=by
 unfold rget AS;rw[show(v:Int).toNat=v from rfl,show(d:Int).toNat=d from rfl,List.getElem?_set]
 by_cases h:d=v
 . subst h;simp[hd]
 . rw[if_neg h,if_neg (Ne.symm h)]
def S7(ks:List Int):EX:=ks.map fun z=>(z,.bool true)
theorem OI{z:Int}: ∀{ks:List Int},z∉ks->JO z (.bool true) (S7 ks)=S7 (ks++[z])
 | [],_=>rfl
 | k::ks,h=>by
  show(bif z==k then _ else(k,_)::JO z _ (S7 ks))=_;rw[show(z==k)=false by simpa using fun e=>h (by rw[e];exact List.mem_cons.2 (.inl rfl)),OI (fun e=>h (List.mem_cons.2 (.inr e)))];rfl
theorem Ut{z:Int}: ∀{ks:List Int},kdel z (S7 ks)=S7 (ks.erase z)
 | []=>rfl
 | k::ks=>by
  show(bif z==k then _ else(k,_)::kdel z (S7 ks))=_;rw[List.erase_cons]
  by_cases h:z=k
  . subst h;simp[S7]
  . rw[show(z==k)=false by simpa using h,show(k==z)=false by simpa using Ne.symm h,Ut];rfl
theorem cu(ks:List Int):(S7 ks).map (·.1)=ks:=by simp[S7,Function.comp_def]
structure FwI(R:Nat)(fr:List Int)(to:List (Option Nat))(maps:List (List Int)):Prop where
  lenF:fr.length=R
  lenT:to.length=R
  ran: ∀v:Nat,v<R->0<=rget fr v/\rget fr v<R
  root: ∀v:Nat,v<R->rget fr (rget fr v)=rget fr v
  sm: ∀a j:Nat,to[a]?=some (some j)->∃ks,maps[j]?=some ks/\ks.Nodup/\∀v:Int,v∈ks↔(0<=v/\v<R/\v≠a/\rget fr v=a)
  nn: ∀a:Nat,to[a]?=some none->∀v:Nat,v<R->rget fr v=a->v=a
  inj: ∀a b j:Nat,to[a]?=some (some j)->to[b]?=some (some j)->a=b
theorem lu(R:Nat):FwI R (Kr R) (List.replicate R none) [] where
 lenF:=XR R
 lenT:=by simp
 ran:=fun v hv=>by rw[JG hv];omega
 root:=fun v hv=>by rw[JG hv,JG hv]
 sm:=fun a j h=>by rw[List.getElem?_replicate]at h;split at h<;>simp at h
 nn:=fun a h v hv e=>by rw[JG hv]at e;omega
 inj:=fun a b j h=>by rw[List.getElem?_replicate]at h;split at h<;>simp at h
section
variable {R : Nat} {fr : List Int} {to : List (Option Nat)} {maps : List (List Int)}
theorem FwI.to_of(h:FwI R fr to maps){a:Nat}(ha:a<R): ∃o,to[a]?=some o:=⟨_,List.getElem?_eq_getElem (by rw[h.lenT];exact ha)⟩
theorem FwI.off(h:FwI R fr to maps){d s:Nat}(hd:d<R)(hs:rget fr d=s)(hne:s≠d): ∃j ks,to[s]?=some (some j)/\maps[j]?=some ks/\FwI R (AS fr (d:Int) d) to (maps.set j (ks.erase (d:Int))):=by
 have hsR:s<R:=by have:=(h.ran d hd).2;omega
 obtain⟨o,ho⟩:=h.to_of hsR
 cases o with
 | none=>exact absurd (h.nn s ho d hd hs) (Ne.symm hne)
 | some j=>
  obtain⟨ks,k1,k2,k3⟩:=h.sm s j ho;have hg: ∀v:Nat,rget (AS fr (d:Int) d) v=if v=d then(d:Int)else rget fr v:=fun v=>E3 (by rw[h.lenF];exact hd)
  refine⟨j,ks,ho,k1,⟨by rw[C5,h.lenF],h.lenT,fun v hv=>?_,fun v hv=>?_,fun a j' ha=>?_,fun a ha v hv e=>?_,h.inj⟩⟩
  . rw[hg];split
    . omega
    . exact h.ran v hv
  . rw[hg v];split
    . rw[hg d,if_pos rfl]
    . obtain⟨r0,r1⟩:=h.ran v hv;obtain⟨u,hu⟩: ∃u:Nat,rget fr v=u:=⟨(rget fr v).toNat,by omega⟩
      rw[hu,hg u];split
      . rename_i e;rw[e]
      . have:=h.root v hv;rw[hu]at this;exact this
  . have hlt:j<maps.length:=(List.getElem?_eq_some_iff.1 k1).1
    by_cases hj:j'=j
    . subst hj;have:=h.inj a s j' ha ho;subst this;refine⟨ks.erase d,by rw[List.getElem?_set_self hlt],k2.erase _,fun v=>?_⟩;rw[k2.mem_erase_iff,k3];constructor
      . rintro⟨e1,e2,e3,e4,e5⟩
        obtain⟨u,rfl⟩: ∃u:Nat,v=u:=⟨v.toNat,by omega⟩
        refine⟨e2,e3,e4,?_⟩;rw[hg,if_neg (by intro e;exact e1 (by rw[e]))];exact e5
      . rintro⟨e2,e3,e4,e5⟩
        obtain⟨u,rfl⟩: ∃u:Nat,v=u:=⟨v.toNat,by omega⟩
        rw[hg]at e5
        by_cases hu:u=d
        . rw[if_pos hu]at e5;omega
        . rw[if_neg hu]at e5;exact⟨by omega,e2,e3,e4,e5⟩
    . obtain⟨ks',q1,q2,q3⟩:=h.sm a j' ha;refine⟨ks',by rw[List.getElem?_set_ne (Ne.symm hj)];exact q1,q2,fun v=>?_⟩;rw[q3];have has:a≠s:=fun e=>hj (by subst e;rw[ho]at ha;cases ha;rfl)
      constructor
      . rintro⟨e2,e3,e4,e5⟩
        obtain⟨u,rfl⟩: ∃u:Nat,v=u:=⟨v.toNat,by omega⟩
        exact aO
      . rintro⟨e2,e3,e4,e5⟩
        obtain⟨u,rfl⟩: ∃u:Nat,v=u:=⟨v.toNat,by omega⟩
        rw[hg]at e5
        by_cases hu:u=d
        . rw[if_pos hu]at e5;omega
        . rw[if_neg hu]at e5;exact⟨e2,e3,e4,e5⟩
  . rw[hg]at e
    by_cases hv':v=d
    . rw[if_pos hv']at e;omega
    . rw[if_neg hv']at e;exact h.nn a ha v hv e
theorem FwI.off0(h:FwI R fr to maps){d:Nat}(hd:d<R)(hs:rget fr d=d):AS fr (d:Int) d=fr:=
 KH (C5 _ _ _) fun v hv=>by
  rw[C5]at hv;rw[E3 (by rw[h.lenF];exact hd)]
  by_cases e:v=d
  . rw[if_pos e,e,hs]
  . rw[if_neg e]
theorem FwI.clear(h:FwI R fr to maps){d:Nat}(hd:d<R)(hs:rget fr d=d):FwI R (Cn d fr) (to.set d none) maps:=by
 have hg: ∀v:Nat,v<R->rget (Cn d fr) v=if rget fr v=d then(v:Int)else rget fr v:=fun v hv=>by
  rw[Dk (by rw[h.lenF];exact hv)]
  by_cases e:rget fr v=d
  . rw[if_pos e];simp[e]
  . rw[if_neg e]
    by_cases e2:v=d
    . subst e2;exact absurd hs e
    . rw[show((v:Int)==d)=false from beq_eq_false_iff_ne.2 (by omega),show(rget fr v==(d:Int))=false from beq_eq_false_iff_ne.2 e];rfl
 refine⟨by rw[Dj,h.lenF],by simp[h.lenT],fun v hv=>?_,fun v hv=>?_,fun a j ha=>?_,fun a ha v hv e=>?_,fun a b j ha hb=>?_⟩
 . rw[hg v hv];split
   . omega
   . exact h.ran v hv
 . rw[hg v hv];split
   . rename_i e;rw[hg v hv,if_pos e]
   . rename_i e;obtain⟨r0,r1⟩:=h.ran v hv;obtain⟨u,hu⟩: ∃u:Nat,rget fr v=u:=⟨(rget fr v).toNat,by omega⟩
     have hr:=h.root v hv;rw[hu]at hr e |-;rw[hg u (by omega),if_neg (by rw[hr];exact e)];exact hr
 . rw[List.getElem?_set]at ha;split at ha
   . split at ha<;>simp at ha
   . rename_i hda;obtain⟨ks,q1,q2,q3⟩:=h.sm a j ha;refine⟨ks,q1,q2,fun v=>?_⟩;rw[q3];constructor
     . rintro⟨e2,e3,e4,e5⟩
       obtain⟨u,rfl⟩: ∃u:Nat,v=u:=⟨v.toNat,by omega⟩
       refine⟨e2,e3,e4,?_⟩;rw[hg u (by omega),if_neg (by rw[e5];omega)];exact e5
     . rintro⟨e2,e3,e4,e5⟩
       obtain⟨u,rfl⟩: ∃u:Nat,v=u:=⟨v.toNat,by omega⟩
       rw[hg u (by omega)]at e5
       by_cases e:rget fr u=d
       . rw[if_pos e]at e5;exact absurd e5 e4
       . rw[if_neg e]at e5;exact⟨e2,e3,e4,e5⟩
 . rw[hg v hv]at e;rw[List.getElem?_set]at ha
   by_cases e1:rget fr v=d
   . rw[if_pos e1]at e;omega
   . rw[if_neg e1]at e
     by_cases hda:d=a
     . subst hda;exact absurd e e1
     . rw[if_neg hda]at ha;exact h.nn a ha v hv e
 . rw[List.getElem?_set]at ha hb
   by_cases e1:d=a
   . rw[if_pos e1]at ha;split at ha<;>simp at ha
   . by_cases e2:d=b
     . rw[if_pos e2]at hb;split at hb<;>simp at hb
     . rw[if_neg e1]at ha;rw[if_neg e2]at hb;exact h.inj a b j ha hb
theorem LA(h:FwI R fr to maps){d:Nat}(hd:d<R):Cn d (AS fr (d:Int) d)=Cn d fr:=
 KH (by rw[Dj,Dj,C5]) fun v hv=>by
  rw[Dj,C5,h.lenF]at hv;rw[Dk (by rw[C5,h.lenF];exact hv),Dk (by rw[h.lenF];exact hv),E3 (by rw[h.lenF];exact hd)]
  by_cases e:v=d
  . subst e;simp
  . rw[if_neg e]
theorem FwI.copied(h:FwI R fr to maps){d a:Nat}(hd:d<R)(ha:a<R)(hne:a≠d)(hs:rget fr d=d)(hn:to[d]?=some none)(hra:rget fr a=a):
 (∃j ks,to[a]?=some (some j)/\maps[j]?=some ks/\(d:Int)∉ks/\FwI R (AS fr (d:Int) a) to (maps.set j (ks++[(d:Int)])))\/(to[a]?=some none/\FwI R (AS fr (d:Int) a) (to.set a (some maps.length)) (maps++[[(d:Int)]])):=by
 have hg: ∀v:Nat,rget (AS fr (d:Int) a) v=if v=d then(a:Int)else rget fr v:=fun v=>E3 (by rw[h.lenF];exact hd)
 have hno: ∀v:Nat,v<R->rget fr v=d->v=d:=h.nn d hn
 have ran: ∀v:Nat,v<R->0<=rget (AS fr (d:Int) a) v/\rget (AS fr (d:Int) a) v<R:=fun v hv=>by
  rw[hg];split
  . omega
  . exact h.ran v hv
 have root: ∀v:Nat,v<R->rget (AS fr (d:Int) a) (rget (AS fr (d:Int) a) v)=rget (AS fr (d:Int) a) v:=fun v hv=>by
  rw[hg v];split
  . rw[hg a,if_neg hne];exact hra
  . rename_i e;obtain⟨r0,r1⟩:=h.ran v hv;obtain⟨u,hu⟩: ∃u:Nat,rget fr v=u:=⟨(rget fr v).toNat,by omega⟩
    have hr:=h.root v hv;rw[hu]at hr |-;rw[hg u,if_neg (fun e2=>by subst e2;exact e (hno v hv hu))];exact hr
 have keys: ∀(b:Nat) (ks:List Int),b≠a->(∀v:Int,v∈ks↔(0<=v/\v<R/\v≠b/\rget fr v=b))->b≠d->∀v:Int,v∈ks↔(0<=v/\v<R/\v≠b/\rget (AS fr (d:Int) a) v=b):=fun b ks hba hk hbd v=>by
  rw[hk];constructor
  . rintro⟨e2,e3,e4,e5⟩
    obtain⟨u,rfl⟩: ∃u:Nat,v=u:=⟨v.toNat,by omega⟩
    exact aO
  . rintro⟨e2,e3,e4,e5⟩
    obtain⟨u,rfl⟩: ∃u:Nat,v=u:=⟨v.toNat,by omega⟩
    rw[hg]at e5
    by_cases e:u=d
    . rw[if_pos e]at e5;omega
    . rw[if_neg e]at e5;exact⟨e2,e3,e4,e5⟩
 have nones: ∀b:Nat,b≠a->to[b]?=some none->∀v:Nat,v<R->rget (AS fr (d:Int) a) v=b->v=b:=fun b hba hb v hv e=>by
  rw[hg]at e
  by_cases e2:v=d
  . rw[if_pos e2]at e;omega
  . rw[if_neg e2]at e;exact h.nn b hb v hv e
 obtain⟨o,ho⟩:=h.to_of ha
 cases o with
 | some j=>
  left;obtain⟨ks,k1,k2,k3⟩:=h.sm a j ho;have hlt:j<maps.length:=(List.getElem?_eq_some_iff.1 k1).1;have hdk:(d:Int)∉ks:=fun e=>by have:=((k3 d).1 e).2.2.2;rw[hs]at this;omega
  refine⟨j,ks,ho,k1,hdk,⟨by rw[C5,h.lenF],h.lenT,ran,root,fun b j' hb=>?_,fun b hb=>nones b (fun e=>by subst e;rw[ho]at hb;cases hb) hb,h.inj⟩⟩
  by_cases hj:j'=j
  . subst hj;have:=h.inj b a j' hb ho;subst this;refine⟨ks++[(d:Int)],by rw[List.getElem?_set_self hlt],List.nodup_append.2 ⟨k2,by simp,fun x hx y hy e=>by rw[List.mem_singleton.1 hy]at e;subst e;exact hdk hx⟩,fun v=>?_⟩;rw[List.mem_append,List.mem_singleton,k3];constructor
    . rintro(⟨e2,e3,e4,e5⟩ | rfl)
      . obtain⟨u,rfl⟩: ∃u:Nat,v=u:=⟨v.toNat,by omega⟩
        exact aO
      . exact⟨by omega,by omega,by omega,by rw[hg,if_pos rfl]⟩
    . rintro⟨e2,e3,e4,e5⟩
      obtain⟨u,rfl⟩: ∃u:Nat,v=u:=⟨v.toNat,by omega⟩
      rw[hg]at e5
      by_cases e:u=d
      . right;rw[e]
      . rw[if_neg e]at e5;exact .inl ⟨e2,e3,e4,e5⟩
  . obtain⟨ks',q1,q2,q3⟩:=h.sm b j' hb;have hba:b≠a:=fun e=>hj (by subst e;rw[ho]at hb;cases hb;rfl)
    have hbd:b≠d:=fun e=>by subst e;rw[hn]at hb;cases hb
    exact⟨ks',by rw[List.getElem?_set_ne (Ne.symm hj)];exact q1,q2,keys b ks' hba q3 hbd⟩
 | none=>
  right;have hlen:a<to.length:=by rw[h.lenT];exact ha
  have hmj: ∀b j',to[b]?=some (some j')->j'<maps.length:=fun b j' hb=>by
   obtain⟨ks',q1,_⟩:=h.sm b j' hb;exact(List.getElem?_eq_some_iff.1 q1).1
  refine⟨ho,⟨by rw[C5,h.lenF],by simp[h.lenT],ran,root,fun b j' hb=>?_,fun b hb=>?_,fun b c j' hb hc=>?_⟩⟩
  . rw[List.getElem?_set]at hb
    by_cases hab:a=b
    . subst hab;rw[if_pos rfl,if_pos hlen]at hb
      cases hb
      refine⟨[(d:Int)],by rw[List.getElem?_append_right (Nat.le_refl _)];simp,by simp,fun v=>?_⟩;rw[List.mem_singleton];constructor
      . rintro rfl
        exact⟨by omega,by omega,by omega,by rw[hg,if_pos rfl]⟩
      . rintro⟨e2,e3,e4,e5⟩
        obtain⟨u,rfl⟩: ∃u:Nat,v=u:=⟨v.toNat,by omega⟩
        rw[hg]at e5
        by_cases e:u=d
        . rw[e]
        . rw[if_neg e]at e5;exact absurd (h.nn a ho u (by omega) e5) (by omega)
    . rw[if_neg hab]at hb;obtain⟨ks',q1,q2,q3⟩:=h.sm b j' hb;have hbd:b≠d:=fun e=>by subst e;rw[hn]at hb;cases hb
      exact⟨ks',by rw[List.getElem?_append_left (hmj b j' hb)];exact q1,q2,keys b ks' (Ne.symm hab) q3 hbd⟩
  . rw[List.getElem?_set]at hb
    by_cases hab:a=b
    . rw[if_pos hab,if_pos hlen]at hb;cases hb
    . rw[if_neg hab]at hb;exact nones b (Ne.symm hab) hb
  . rw[List.getElem?_set]at hb hc
    by_cases h1:a=b
    . rw[if_pos h1,if_pos hlen]at hb
      cases hb
      by_cases h2:a=c
      . omega
      . rw[if_neg h2]at hc;have:=hmj c _ hc;omega
    . rw[if_neg h1]at hb
      by_cases h2:a=c
      . rw[if_pos h2,if_pos hlen]at hc;cases hc;have:=hmj b _ hb;omega
      . rw[if_neg h2]at hc;exact h.inj b c j' hb hc
end
theorem Step.unowned{H H':Az}{ι ι':Bg}{h h':Ac}{w w':World}(hr:HeapRel H ι h w)(hr':HeapRel H' ι' h' w')(st:Step H ι h w H' ι' h' w'){rb:Nat}(hlt:rb<w.heap.size)(hu: ¬Dw h ι rb): ¬Dw h' ι' rb:=by
 rintro⟨b,o,r',h1,h2,h3,h4,rfl⟩
 rcases st.newrb b r' h3 h4 with e | e |⟨r,e1,e2,e3⟩
 . cases hb:h b with
   | none=>have:=st.dom b hb;rw[h1]at this;cases this
   | some o'=>
    cases ho:o'.alive with
    | true=>exact hu ⟨b,o',r',hb,ho,e,h4,rfl⟩
    | false=>
     have:o'= .free:=by cases o'<;>first | rfl | cases ho
     subst this;rw[hr.free b hb]at e;cases e
 . omega
 . cases hb:h b with
   | none=>have:=st.dom b hb;rw[h1]at this;cases this
   | some o'=>
    cases ho:o'.alive with
    | true=>exact hu ⟨b,o',r,hb,ho,e1,e2,e3⟩
    | false=>
     have:o'= .free:=by cases o'<;>first | rfl | cases ho
     subst this;rw[hr.free b hb]at e1;cases e1
theorem HeapRel.away{H:Az}{ι:Bg}{h:Ac}{w w':World}(hr:HeapRel H ι h w){rb:Nat}(hk: ∀b,b<w.heap.size->b≠rb->w'.heap[b]?=w.heap[b]?)(hu: ¬Dw h ι rb)(hn:H rb=none):HeapRel H ι h w' where
 know:=fun b c hc=>by
  obtain⟨T,fr,e⟩:=hr.know b c hc;exact⟨T,fr,by rw[hk b (hr.knowlt hc) (fun e=>by subst e;rw[hn]at hc;cases hc)];exact e⟩
 free:=hr.free
 obj:=fun b o h1 h2=>by
  obtain⟨r,e1,e2,e3⟩:=hr.obj b o h1 h2;exact⟨r,e1,e2.mono (KLe.refl _) (LLe.refl _) fun hs=>hk r.rb (hr.lt ⟨b,o,r,h1,h2,e1,hs,rfl⟩) fun e=>hu ⟨b,o,r,h1,h2,e1,hs,e⟩,e3⟩
 inj:=hr.inj
 glob:=hr.glob
theorem Step.away{H0 H:Az}{ι0 ι:Bg}{h0 h:Ac}{w0 w w':World}(st:Step H0 ι0 h0 w0 H ι h w){rb:Nat}(hrb:w0.heap.size<=rb)(hk: ∀b,b<w.heap.size->b≠rb->w'.heap[b]?=w.heap[b]?)(hs:w.heap.size<=w'.heap.size)(ho:w'.os=w.os)(hu:w'.output=w.output):Step H0 ι0 h0 w0 H ι h w' where
 size:=Nat.le_trans st.size hs
 os:=ho.trans st.os
 out:=hu.trans st.out
 keep:=fun b hlt hno=>(hk b (Nat.lt_of_lt_of_le hlt st.size) (by omega)).trans (st.keep b hlt hno)
 kle:=st.kle
 knew:=st.knew
 lle:=st.lle
 lframe:=st.lframe
 newrb:=st.newrb
 dom:=st.dom
theorem HeapRel.back{H:Az}{ι:Bg}{h:Ac}{w:World}(hr:HeapRel H ι h w){b:Nat}{o:AObj}{r:Ent}(ha:o.alive=true)(hl:ι b=some r)(ho:ObjOk H ι w r o)(hk:r.solid->H r.rb=none)(hu:r.solid->¬Dw h ι r.rb):HeapRel H ι (hput h b o) w where
 know:=hr.know
 free:=fun x e=>by
  by_cases hx:x=b
  . subst hx;rw[Aq]at e;cases e;cases ha
  . rw[AL _ _ hx]at e;exact hr.free x e
 obj:=fun x o' e h2=>by
  by_cases hx:x=b
  . subst hx;rw[Aq]at e;cases e;exact⟨r,hl,ho,hk⟩
  . rw[AL _ _ hx]at e;exact hr.obj x o' e h2
 inj:=fun x x' o1 o2 r1 r2 e1 a1 e2 a2 l1 l2 s1 s2 hne heq=>by
  by_cases hx:x=b
  . subst hx;rw[hl]at l1;cases l1;rw[AL _ _ (Ne.symm hne)]at e2;exact hu s1 ⟨x',o2,r2,e2,a2,l2,s2,heq.symm⟩
  . rw[AL _ _ hx]at e1
    by_cases hx':x'=b
    . subst hx';rw[hl]at l2;cases l2;exact hu s2 ⟨x,o1,r1,e1,a1,l1,s1,heq⟩
    . rw[AL _ _ hx']at e2;exact hr.inj x x' o1 o2 r1 r2 e1 a1 e2 a2 l1 l2 s1 s2 hne heq
 glob:=hr.glob
theorem Step.back{H0 H:Az}{ι0 ι:Bg}{h0 h:Ac}{w0 w:World}(st:Step H0 ι0 h0 w0 H ι h w){b:Nat}{o:AObj}(hb:h0 b≠none):Step H0 ι0 h0 w0 H ι (hput h b o) w:=
 ⟨st.size,st.os,st.out,st.keep,st.kle,st.knew,st.lle,st.lframe,st.newrb,fun x hx=>by
  by_cases hxb:x=b
  . subst hxb;exact absurd hx hb
  . rw[AL _ _ hxb];exact st.dom x hx⟩
theorem gY{ι ι':Bg}(h:LLe ι ι'){b:Nat}{r:Ent}(hr:ι b=some r)(h0:r.sz=0):ι' b=some r:=by
 obtain⟨r',e1,e2⟩:=h b r hr;rcases e2 with rfl |⟨_,e2,_⟩
 . exact e1
 . omega
theorem Zp{es:Array MapEntry}{seen:Array Nat}{e:MapEntry}:(leftOf es (seen.push e.born)).toList=(leftOf es seen).toList.filter (fun x=> !(x.born==e.born)):=by
 unfold leftOf;rw[Array.toList_filter,Array.toList_filter,List.filter_filter];congr 1;funext x;rw[Array.contains_push,Bool.not_or,Bool.and_comm,Bool.and_comm]
theorem O1{e:MapEntry}: ∀{l:List MapEntry},(l.map (·.born)).Nodup->e∈l->∃l1 l2,l=l1++e::l2/\l.filter (fun x=> !(x.born==e.born))=l1++l2
 | [],_,h=>by cases h
 | x::l,hn,h=>by
  have hn':=List.nodup_cons.1 hn;rcases List.mem_cons.1 h with rfl | h
  . refine⟨[],l,rfl,?_⟩;rw[List.filter_cons_of_neg (by simp)];exact List.filter_eq_self.2 fun y hy=>by
     have:y.born≠e.born:=fun e2=>hn'.1 (by show e.born∈_;rw[<-e2];exact List.mem_map.2 ⟨y,hy,rfl⟩)
     simpa using this
  . obtain⟨l1,l2,e1,e2⟩:=O1 hn'.2 h;have:x.born≠e.born:=fun e3=>hn'.1 (by show x.born∈_;rw[e3];exact List.mem_map.2 ⟨e,h,rfl⟩)
    refine⟨x::l1,l2,by rw[e1];rfl,?_⟩;rw[List.filter_cons_of_pos (by simpa using this),e2];rfl
def MC(e:MapEntry):Int:=match e.key with | .int _ z=>z | _=>0
theorem EntRel.keys{H:Az}{K:IntKind}{m:EX}{es:List MapEntry}(h:EntRel H K m es):es.map MC=m.map (·.1)/\∀e∈es,e.key= .int K (MC e):=by
 induction h with
 | nil=>exact⟨rfl,fun e h=>by cases h⟩
 | cons z v m e es hk hv h ih=>
  refine⟨by simp[MC,hk,ih.1],fun x hx=>?_⟩;rcases List.mem_cons.1 hx with rfl | hx
  . simp[MC,hk]
  . exact ih.2 x hx
structure iM(w:World)(rb mrb since:Nat)(seen:Array Nat)(es:Array MapEntry):Prop where
  it:w.heap[rb]?=some (.mapIter (some mrb) since seen since)
  mp:w.heap[mrb]?=some (.map es since)
theorem EN{a:Act}{d:Nat}{v:Value}(h:d<a.tmps.size):(a.put (some d) v).eval (.tmp d)=v:=by
 simp[Act.put,Act.eval,h]
theorem JJ{e:Av}{d:Nat}(h:e d=none):O8 e d=e:=by
 funext x
 by_cases hx:x=d
 . subst hx;rw[L9,h]
 . rw[SJ _ hx]
section
variable {P : Program} {K : IntKind}
theorem Ry{n:Nat}{γ:Type}{S:γ->Aj}{J:List Int->γ->Prop}{rb mrb since:Nat}{es:Array MapEntry}{tI dN dX dE dY d bid bid2 id5 id6:Nat}{oN oX oE oY oA:Oper}{body:Code}{Q:Exit->Aj->Prop}{tN:TypeId}
 (hN:oN.op= .next (.tmp tI) false/\oN.dst=some dN/\oN.guard=none) (hX:oX.op= .extract (.tmp dN) 0/\oX.dst=some dX/\oX.guard=none) (hE:oE.op= .entry (.tmp tI)/\oE.dst=some dE/\oE.guard=none)
 (hY:oY.op= .extract (.tmp dE) 0/\oY.dst=some dY/\oY.guard=none) (hA:oA.op= .assign (.tmp dY)/\oA.dst=some d/\oA.guard=none) (hlt:dN<n/\dX<n/\dE<n/\dY<n/\d<n) (hne:tI≠dN/\tI≠dX/\tI≠dE/\tI≠dY)
 (hS: ∀g,(S g).n=n/\(S g).env tI=some (.val (.pointer (some ⟨rb,0,none⟩)))/\(S g).env dN=none/\(S g).env dX=none/\(S g).env dE=none/\(S g).env dY=none/\(S g).env d=none)
 (hbo:BornOk since (es.toList.map (·.born))) (hk: ∀e∈es.toList,e.key= .int K (MC e))
 (hround: ∀l1 z l2 g,J (l1++z::l2) g->AGo P body ⟨n,Aa (S g).env d (.int K z),(S g).h⟩ (fun e s'=>e= .normal/\∃g',J (l1++l2) g'/\Sub (S g') s'))
 {b:Nat} {m:EX} {r:Ent} (hend: ∀g,J [] g->Q .normal ⟨(S g).n,(S g).env,hput (S g).h b (.map (kvs K m))⟩) (hr1:r.sz=0) (hr2:r.solid) (hr3:r.rb=mrb)
 {H0:Az} {ι0:Bg} {h0:Ac} {w0:World} (hr0:HeapRel H0 ι0 h0 w0) (hb0:h0 b≠none) (hrb0:w0.heap.size<=rb) (hrm:rb≠mrb) {H:Az} {ι:Bg} {a:Act} {w:World} {seen:Array Nat} {g:γ} (hs:Sim H ι (S g) a w) (hst:Step H0 ι0 h0 w0 H ι (S g).h w) (hit:iM w rb mrb since seen es)
 (hu1: ¬Dw (S g).h ι rb) (hu2: ¬Dw (S g).h ι mrb) (hJ:J ((leftOf es seen).toList.map MC) g) (hl:ι b=some r) (hob:ObjOk H ι w r (.map (kvs K m))):
 (Code.block bid (.loop (.seq (.region id5 #[oN,oX] false) (.seq (.cond (.tmp dX) .skip (.exit bid)) (.block bid2 (.seq (.region id6 #[oE,oY,oA] false) body)))))).wp P (Post H0 ι0 h0 w0 Q) a w:=by
 have hnd:(es.toList.map (·.born)).Nodup:=hbo.1.imp (fun h=>Nat.ne_of_lt h);have hsub: ∀seen,(leftOf es seen).toList.Sublist es.toList:=fun seen=>by unfold leftOf;rw[Array.toList_filter];exact List.filter_sublist
 refine wp_block (wp_loop (fun a w=>∃H ι seen g,Sim H ι (S g) a w/\Step H0 ι0 h0 w0 H ι (S g).h w/\iM w rb mrb since seen es/\¬Dw (S g).h ι rb/\¬Dw (S g).h ι mrb/\J ((leftOf es seen).toList.map MC) g/\ι b=some r/\ObjOk H ι w r (.map (kvs K m)))
  (fun a w=>match w.heap[rb]? with | some (.mapIter _ _ seen _)=>(leftOf es seen).size | _=>0) ⟨H,ι,seen,g,hs,hst,hit,hu1,hu2,hJ,hl,hob⟩ ?_)
 clear hs hst hit hu1 hu2 hJ hl hob H ι seen g a w
 rintro a w ⟨H,ι,seen,g,hs,hst,hit,hu1,hu2,hJ,hl,hob⟩
 obtain⟨s1,s2,s3,s4,s5,s6,s7⟩:=hS g;have hsz:a.tmps.size=n:=by rw[hs.n,s1]
 have hI:a.eval (.tmp tI)= .pointer (some ⟨rb,0,none⟩):=by
  have:=Am hs (o:=.tmp tI) s2;generalize a.eval (.tmp tI)=v at this
  cases this;rfl
 have wN: ∀(ops:Array Oper) (o:Oper) (t:Array Value),o.guard=none->Region.wanted o (yielded ops t)=true:=fun ops o t ho=>by unfold Region.wanted;rw[ho]
 have hrblt:rb<w.heap.size:=(Array.getElem?_eq_some_iff.1 hit.it).1;have hmlt:mrb<w.heap.size:=(Array.getElem?_eq_some_iff.1 hit.mp).1;have hHn:H rb=none:=by
  cases e:H rb with
  | none=>rfl
  | some c=>obtain⟨T,fr,e2⟩:=hs.heap.know rb c e;rw[hit.it]at e2;cases e2
 have hold: ∀x∈es.toList,x.born<since:=fun x hx=>hbo.2 _ (List.mem_map.2 ⟨x,hx,rfl⟩)
 have hHm:H mrb=none:=by
  cases e:H mrb with
  | none=>rfl
  | some c=>obtain⟨T,fr,e2⟩:=hs.heap.know mrb c e;rw[hit.mp]at e2;cases e2
 have hexit: ∀(v:Value),((leftOf es seen).toList=[])->Post H0 ι0 h0 w0 Q .normal ((a.put (some dN) v).put (some dX) (.bool false)) w:=fun v hz=>by
  rw[hz]at hJ;have k3:=hs.put (d:=some dN) (r:=none) (v:=v) hs.heap (Step.refl _ _ _ _) (fun x e=>by cases e) (fun t e=>by cases e;rw[s1];exact hlt.1);have e1:(⟨(S g).n,He (S g).env (some dN) none,(S g).h⟩:Aj)=S g:=by
   show(⟨(S g).n,O8 (S g).env dN,(S g).h⟩:Aj)=S g;rw[JJ s3]
  rw[e1]at k3;have k4:=k3.put (d:=some dX) (r:=none) (v:=.bool false) k3.heap (Step.refl _ _ _ _) (fun x e=>by cases e) (fun t e=>by cases e;rw[s1];exact hlt.2.1);have e2:(⟨(S g).n,He (S g).env (some dX) none,(S g).h⟩:Aj)=S g:=by
   show(⟨(S g).n,O8 (S g).env dX,(S g).h⟩:Aj)=S g;rw[JJ s4]
  rw[e2]at k4;exact⟨_,H,ι,hend g hJ,⟨k4.n,k4.d,k4.env,k4.heap.back rfl hl hob (fun _=>by rw[hr3];exact hHm) (fun _=>by rw[hr3];exact hu2)⟩,hst.back hb0⟩
 rcases run_next_at (P:=P) w oN.type rb mrb since since seen es since hit.it hit.mp hold (Nat.le_refl _)with⟨hz,hrun⟩ |⟨en,hen,w1,hw1,hrun⟩
 . -- none is left
   have hlz:(leftOf es seen).toList=[]:=List.eq_nil_of_length_eq_zero (by simpa using hz);refine wp_seq (wp_region_list ?_);unfold wpList;rw[wN _ _ _ hN.2.2,if_pos rfl];refine .inl ?_;unfold Oper.wp;rw[show(execOp a.eval oN).run P w= .ok (.value (.tuple #[.bool false])) w by simp[execOp,hN.1,hI,hrun]];show wpList P _ _ [oX] (a.put oN.dst _) w;rw[hN.2.1];unfold wpList;rw[wN _ _ _ hX.2.2,if_pos rfl];refine .inl ?_;unfold Oper.wp;rw[show(execOp (a.put (some dN) (.tuple #[.bool false])).eval oX).run P w= .ok (.value (.bool false)) w by simp[execOp,hX.1,EN (by rw[hsz];exact hlt.1),Instr.extract]];rw[Oper.upon_value,hX.2.1];unfold wpList;show(Code.seq _ _).wp P _ _ w;refine wp_seq (wp_cond_false (EN (by simp[Act.put,hsz];exact hlt.2.1)) (wp_exit ?_));show Exit.inBlock bid (Post H0 ι0 h0 w0 Q) (.exit bid) _ w;simp only[Exit.inBlock,if_true];exact hexit _ hlz
 . have hmem:=(hsub seen).subset hen;have hkey:=hk en hmem;have hns:((leftOf es seen).toList.map (·.born)).Nodup:=hnd.sublist ((hsub seen).map _);obtain⟨l1,l2,q1,q2⟩:=O1 hns hen;have hlp:(leftOf es (seen.push en.born)).toList=l1++l2:=by rw[Zp,q2]
   refine wp_seq (wp_region_list ?_);unfold wpList;rw[wN _ _ _ hN.2.2,if_pos rfl];refine .inl ?_;unfold Oper.wp
   let w2:=ChangeMaps.setBlock w1 rb (.mapIter (some mrb) since (seen.push en.born) since)
   rw[show(execOp a.eval oN).run P w= .ok (.value (.tuple #[.bool true,en.key,en.val])) w2 by simp[execOp,hN.1,hI,hrun];rfl];have hw1h:w1.heap=w.heap/\w1.os=w.os/\w1.output=w.output:=by rcases hw1 with rfl | rfl<;>exact⟨rfl,rfl,rfl⟩
   have hw2h: ∀b,b≠rb->w2.heap[b]?=w.heap[b]?:=fun b hb=>by
    show(w1.heap.setIfInBounds rb _)[b]?=_;rw[hw1h.1,Array.getElem?_setIfInBounds_ne (Ne.symm hb)]
   have hit2:iM w2 rb mrb since (seen.push en.born) es:=by
    refine⟨?_,by rw[hw2h _ (Ne.symm hrm)];exact hit.mp⟩;show(w1.heap.setIfInBounds rb _)[rb]?=_;rw[hw1h.1];simp[hrblt]
   have hs2:HeapRel H ι (S g).h w2:=hs.heap.away (fun b _ hb=>hw2h b hb) hu1 hHn;have hst2:Step H0 ι0 h0 w0 H ι (S g).h w2:=hst.away hrb0 (fun b _ hb=>hw2h b hb) (by show _<=(w1.heap.setIfInBounds rb _).size;rw[hw1h.1];simp) (by show w1.os=_;exact hw1h.2.1) (by show w1.output=_;exact hw1h.2.2);show wpList P _ _ [oX] (a.put oN.dst _) w2;rw[hN.2.1];unfold wpList;rw[wN _ _ _ hX.2.2,if_pos rfl];refine .inl ?_;unfold Oper.wp;rw[show(execOp (a.put (some dN) (.tuple #[.bool true,en.key,en.val])).eval oX).run P w2= .ok (.value (.bool true)) w2 by simp[execOp,hX.1,EN (by rw[hsz];exact hlt.1),Instr.extract]];rw[Oper.upon_value,hX.2.1];unfold wpList;show(Code.seq _ _).wp P _ _ w2;refine wp_seq (wp_cond_true (EN (by simp[Act.put,hsz];exact hlt.2.1)) (wp_skip ?_));show(Code.block _ _).wp P _ _ w2
   let a2:=(a.put (some dN) (.tuple #[.bool true,en.key,en.val])).put (some dX) (.bool true)
   have hI2:a2.eval (.tmp tI)= .pointer (some ⟨rb,0,none⟩):=by
    rw[<-hI];simp only[a2,Act.put,Act.eval];rw[Array.getD_eq_getD_getElem?,Array.getD_eq_getD_getElem?,Array.getElem?_setIfInBounds_ne (Ne.symm hne.2.1),Array.getElem?_setIfInBounds_ne (Ne.symm hne.1)]
   have hsz2:a2.tmps.size=n:=by simp[a2,Act.put,hsz]
   have hsz3:(a2.put (some dE) (.tuple #[en.key,en.val])).tmps.size=n:=by rw[<-hsz2];simp[Act.put]
   refine wp_block (wp_seq (wp_region_list ?_));unfold wpList;rw[wN _ _ _ hE.2.2,if_pos rfl];refine .inl ?_;unfold Oper.wp;rw[show(execOp a2.eval oE).run P w2= .ok (.value (.tuple #[en.key,en.val])) w2 by simp[execOp,hE.1,hI2,run_entry_at w2 rb mrb since seen es since en hit2.it hit2.mp hmem hnd]];show wpList P _ _ [oY,oA] (a2.put oE.dst _) w2;rw[hE.2.1];unfold wpList;rw[wN _ _ _ hY.2.2,if_pos rfl];refine .inl ?_;unfold Oper.wp;rw[show(execOp (a2.put (some dE) (.tuple #[en.key,en.val])).eval oY).run P w2= .ok (.value en.key) w2 by simp[execOp,hY.1,EN (by rw[hsz2];exact hlt.2.2.1),Instr.extract]];show wpList P _ _ [oA] ((a2.put (some dE) _).put oY.dst _) w2;rw[hY.2.1];unfold wpList;rw[wN _ _ _ hA.2.2,if_pos rfl];refine .inl ?_;unfold Oper.wp;rw[show(execOp ((a2.put (some dE) (.tuple #[en.key,en.val])).put (some dY) en.key).eval oA).run P w2= .ok (.value en.key) w2 by simp[execOp,hA.1,EN (a:=a2.put (some dE) (.tuple #[en.key,en.val])) (d:=dY) (v:=en.key) (by rw[hsz3];exact hlt.2.2.2.1)]]
   rw[Oper.upon_value,hA.2.1];unfold wpList;show body.wp P _ _ w2;have drop: ∀{a':Act} {dd:Nat} {v:Value},Sim H ι (S g) a' w2->(S g).env dd=none->dd<n->Sim H ι (S g) (a'.put (some dd) v) w2:=fun {a' dd v} k1 k2 k3=>by
    have k4:=k1.put (d:=some dd) (r:=none) (v:=v) k1.heap (Step.refl _ _ _ _) (fun x e=>by cases e) (fun t e=>by cases e;rw[s1];exact k3);have e1:(⟨(S g).n,He (S g).env (some dd) none,(S g).h⟩:Aj)=S g:=by
     show(⟨(S g).n,O8 (S g).env dd,(S g).h⟩:Aj)=S g;rw[JJ k2]
    rwa[e1]at k4
   have k0:Sim H ι (S g) a w2:=⟨hs.n,hs.d,hs.env,hs2⟩;have k5:=drop (v:=en.key) (drop (v:=.tuple #[en.key,en.val]) (drop (v:=.bool true) (drop (v:=.tuple #[.bool true,en.key,en.val]) k0 s3 hlt.1) s4 hlt.2.1) s5 hlt.2.2.1) s6 hlt.2.2.2.1;have k6:=k5.put (d:=some d) (r:=some (.int K (MC en))) (v:=en.key) k5.heap (Step.refl _ _ _ _) (fun x e=>by cases e;rw[hkey];exact .int _ _ _) (fun t e=>by cases e;rw[s1];exact hlt.2.2.2.2);rw[s1]at k6;rw[q1,List.map_append,List.map_cons]at hJ;refine wp_mono (hround _ _ _ g hJ H ι _ w2 k6) fun e' a3 w3 hp=>?_
   obtain⟨s',H',ι',⟨rfl,g',hJ',hsb⟩,r,t⟩:=hp;have r2:=r.sub hsb;have u1:=t.unowned hs2 r.heap (by rw[show w2.heap.size=w.heap.size by show(w1.heap.setIfInBounds rb _).size=_;rw[hw1h.1];simp];exact hrblt) hu1;have u2:=t.unowned hs2 r.heap jQ hu2;have ow: ∀{x:Nat},¬Dw s'.h ι' x->¬Dw (S g').h ι' x:=fun hn ⟨b,o,r',h1,h2⟩=>hn ⟨b,o,r',hsb.2.2 b o h1,h2⟩
   have st3:Step H0 ι0 h0 w0 H' ι' (S g').h w3:=by
    have hg:Ghost s' (S g'):=Ghost.of_sub hsb;have h1:=hst2.trans hr0 hs2 t;refine⟨h1.size,h1.os,h1.out,h1.keep,h1.kle,h1.knew,h1.lle,h1.lframe,h1.newrb,fun b hb=>?_⟩
    cases e:(S g').h b with
    | none=>rfl
    | some o=>have h3:=hsb.2.2 b o e;rw[h1.dom b hb]at h3;cases h3
   have it3:iM w3 rb mrb since (seen.push en.born) es:=by
    refine⟨?_,?_⟩
    . rw[t.keep rb (by rw[show w2.heap.size=w.heap.size by show(w1.heap.setIfInBounds rb _).size=_;rw[hw1h.1];simp];exact hrblt) hu1];exact hit2.it
    . rw[t.keep mrb jQ hu2];exact hit2.mp
   refine⟨⟨H',ι',seen.push en.born,g',r2,st3,it3,ow u1,ow u2,by rw[hlp,List.map_append];exact hJ',gY t.lle hl hr1,hob.mono t.kle t.lle fun hs'=>by rw[hr3,t.keep mrb jQ hu2];exact hw2h _ (Ne.symm hrm)⟩,?_⟩;have hlen:(leftOf es (seen.push en.born)).size<(leftOf es seen).size:=by
    rw[<-Array.length_toList,<-Array.length_toList,hlp,q1];simp
   rw[it3.it,hit.it];exact hlen
theorem HI{ops:Array Oper}{Q:Exit->Act->World->Prop}{l2:List Oper}: ∀(l1:List Oper) (a:Act) (w:World),wpList P ops (Exit.then (wpList P ops Q l2) Q) l1 a w->wpList P ops Q (l1++l2) a w
 | [],a,w,h=>h
 | o::l1,a,w,h=>by
  rw[List.cons_append];unfold wpList at h |-
  by_cases hw:Region.wanted o (yielded ops a.tmps)=true
  . rw[if_pos hw]at h |-;rcases h with h |⟨h1,a2,w2,h2⟩
    . refine .inl ?_;have h':=Oper.wp_mono (fun a2 w2=>HI l1 a2 w2) h;clear h;unfold Oper.wp at h' |-;generalize(execOp a.eval o).run P w=res at h' |-
      cases res with
      | ok n w3=>
       cases n<;>simp only[Oper.upon]at h' |- <;>first
        | exact h'
        | exact Calls.mono h' (fun e w4 he=>by cases e<;>first | exact he |(obtain⟨a3,w5,hp3⟩:=he;exact⟨a3,w5,hp3⟩))
      | halt x w3=>cases x<;>simp only[Oper.upon]at h' |- <;>exact h'
    . exact .inr ⟨h1,a2,w2,h2⟩
  . rw[if_neg hw]at h |-;exact HI l1 _ _ h
theorem GQ{ops:Array Oper}{Q Q':Exit->Act->World->Prop}(hpost: ∀e a w,Q e a w->Q' e a w): ∀(l:List Oper) (a:Act) (w:World),wpList P ops Q l a w->wpList P ops Q' l a w
 | [],a,w,h=>hpost _ _ _ h
 | o::l1,a,w,h=>by
  unfold wpList at h |-
  by_cases hw:Region.wanted o (yielded ops a.tmps)=true
  . rw[if_pos hw]at h |-;rcases h with h |⟨h1,a2,w2,h2⟩
    . refine .inl ?_;have h':=Oper.wp_mono (fun a2 w2=>GQ hpost l1 a2 w2) h;clear h;unfold Oper.wp at h' |-;generalize(execOp a.eval o).run P w=res at h' |-
      cases res with
      | ok n w3=>
       cases n<;>simp only[Oper.upon]at h' |- <;>first
        | exact h'
        | exact Calls.mono h' jR
      | halt x w3=>cases x<;>simp only[Oper.upon]at h' |- <;>first | exact hpost _ _ _ h' | exact h'
    . exact .inr ⟨h1,a2,w2,hpost _ _ _ h2⟩
  . rw[if_neg hw]at h |-;exact GQ hpost l1 _ _ h
theorem WX{T:Nat->Option As}(hT:Cq P T){n:Nat}{γ:Type}{S:Nat->γ->Aj}{J:List Int->γ->Prop}{m:EX}{tI dN dX dE dY d bid bid2 id4 id5 id6 b:Nat}{ops:Array Oper}{oR oN oX oE oY oA:Oper}{body:Code}{Q:Exit->Aj->Prop}
 {s:Aj} {e:Av} {h:Ac} {t kt et:TypeId} {x:Operand} {i:As} (g0:γ) (kp:Nat) (hops:ops.toList=ops.toList.take kp++[oR]) (hpre:AOps P ops (ops.toList.take kp) s (fun s'=>Sub ⟨n,e,h⟩ s'))
 (hR:oR.op= .range t x/\oR.dst=some tI/\oR.guard=none) (hx:Al e x=some (.map b)) (hi:T t=some i) (hik:i.k= .map kt et) (hb:h b=some (.map (kvs K m)))
 (hN:oN.op= .next (.tmp tI) false/\oN.dst=some dN/\oN.guard=none) (hX:oX.op= .extract (.tmp dN) 0/\oX.dst=some dX/\oX.guard=none) (hE:oE.op= .entry (.tmp tI)/\oE.dst=some dE/\oE.guard=none)
 (hY:oY.op= .extract (.tmp dE) 0/\oY.dst=some dY/\oY.guard=none) (hA:oA.op= .assign (.tmp dY)/\oA.dst=some d/\oA.guard=none) (hlt:dN<n/\dX<n/\dE<n/\dY<n/\d<n) (hlt2:tI<n) (hne:tI≠dN/\tI≠dX/\tI≠dE/\tI≠dY)
 (hS: ∀rb g,(S rb g).n=n/\(S rb g).env tI=some (.val (.pointer (some ⟨rb,0,none⟩)))/\(S rb g).env dN=none/\(S rb g).env dX=none/\(S rb g).env dE=none/\(S rb g).env dY=none/\(S rb g).env d=none)
 (hJ:J (m.map (·.1)) g0) (hsub: ∀rb,Sub (S rb g0) ⟨n,Aa e tI (.val (.pointer (some ⟨rb,0,none⟩))),hrm h b⟩)
 (hround: ∀rb l1 z l2 g,J (l1++z::l2) g->AGo P body ⟨n,Aa (S rb g).env d (.int K z),(S rb g).h⟩ (fun e s'=>e= .normal/\∃g',J (l1++l2) g'/\Sub (S rb g') s'))
 (hend: ∀rb g,J [] g->Q .normal ⟨n,(S rb g).env,hput (S rb g).h b (.map (kvs K m))⟩):
 AGo P (.seq (.region id4 ops false) (.block bid (.loop (.seq (.region id5 #[oN,oX] false) (.seq (.cond (.tmp dX) .skip (.exit bid)) (.block bid2 (.seq (.region id6 #[oE,oY,oA] false) body))))))) s Q:=by
 intro H0 ι0 a0 w0 hs0;refine wp_seq (wp_region_list ?_);rw[hops];refine HI _ _ _ (GQ (fun e' a w hp=>?_) _ _ _ (hpre H0 ι0 a0 w0 hs0));obtain⟨s',H,ι,q,hs',hst'⟩:=hp
 cases e' with
 | normal=>
  replace q:Sub ⟨n,e,h⟩ s':=q
  have hs:=hs'.sub q;have hst:Step H0 ι0 s.h w0 H ι h w:=⟨hst'.size,hst'.os,hst'.out,hst'.keep,hst'.kle,hst'.knew,hst'.lle,hst'.lframe,hst'.newrb,fun b hb=>by
   cases e9:h b with
   | none=>rfl
   | some o=>have h3:=q.2.2 b o e9;rw[hst'.dom b hb]at h3;cases h3⟩
  show wpList P ops _ [oR] a w;obtain⟨r,hr,hr0,hvx⟩:=(Am hs hx).map_inv;obtain⟨r',hl,hob,r5⟩:=hs.heap.obj b _ hb rfl;rw[hr]at hl;cases hl;obtain⟨r1,r2,es,clk,r3,r4,r6⟩:=id hob;obtain⟨info,dd,e1,e2,e3,e4,e5,e6⟩:=Ai (hT _ _ hi);have hd1:=HJ (P:=P) (d:=dd) (e3▸hik);subst hd1;unfold wpList;rw[show Region.wanted oR (yielded ops a.tmps)=true by unfold Region.wanted;rw[hR.2.2],if_pos rfl];refine .inl ?_;unfold Oper.wp;rw[show(execOp a.eval oR).run P w= .ok (.value (.pointer (some ⟨w.heap.size,0,none⟩))) (w.alloc (.mapIter (some r.rb) clk #[] clk)) by simp[execOp,hR.1,Instr.range,hvx,Ak e2,MapKept.run_getObj_map r3]];rw[Oper.upon_value,hR.2.1];unfold wpList
  let w1:=w.alloc (.mapIter (some r.rb) clk #[] clk)
  have hg: ∀b,b<w.heap.size->w1.heap[b]?=w.heap[b]?:=fun b hlt=>heap_alloc_old w _ hlt
  have hs1:HeapRel H ι h w1:=hs.heap.grow hg;have hst1:Step H ι h w H ι h w1:=Step.grow hg (by simp[w1]) rfl rfl;have k1:=hs.put (d:=some tI) (r:=some (.val (.pointer (some ⟨w.heap.size,0,none⟩)))) (v:=.pointer (some ⟨w.heap.size,0,none⟩)) hs1 hst1 (fun x e=>by cases e;exact .val _ _ rfl) (fun t e=>by cases e;exact hlt2);have hrm':HSub (hrm h b) h:=fun x o hx=>by
   exact aM
  have k2:Sim H ι ⟨n,Aa e tI (.val (.pointer (some ⟨w.heap.size,0,none⟩))),hrm h b⟩ (a.put (some tI) (.pointer (some ⟨w.heap.size,0,none⟩))) w1:=k1.sub ⟨rfl,fun _ _ h=>h,hrm'⟩;have k3:=k2.sub (hsub w.heap.size);have hS0:=hS w.heap.size g0;have hsb:HSub (S w.heap.size g0).h h:=fun x o hx=>hrm' x o ((hsub w.heap.size).2.2 x o hx)
  have hu1: ¬Dw (S w.heap.size g0).h ι w.heap.size:=fun⟨b',o,r',h1,h2,h3,h4,h5⟩=>Nat.lt_irrefl _ (h5▸hs.heap.lt ⟨b',o,r',hsb _ _ h1,h2,h3,h4,rfl⟩)
  have hu2: ¬Dw (S w.heap.size g0).h ι r.rb:=fun⟨b',o,r',h1,h2,h3,h4,h5⟩=>by
   have h6:=(hsub w.heap.size).2.2 b' o h1
   by_cases hbb:b'=b
   . subst hbb;have h6':hrm h b' b'=some o:=h6;rw[Gz]at h6';cases h6'
   . exact hs.heap.inj b' b o _ r' r (hsb _ _ h1) h2 hb rfl h3 hr h4 r2 hbb h5
  have hkeys:=(mapCells_iff.1 r4).keys;have st0:Step H0 ι0 s.h w0 H ι (S w.heap.size g0).h w1:=by
   have h1:=hst.trans hs0.heap hs.heap hst1;refine⟨h1.size,h1.os,h1.out,h1.keep,h1.kle,h1.knew,h1.lle,h1.lframe,h1.newrb,fun b hb=>?_⟩
   cases e:(S w.heap.size g0).h b with
   | none=>rfl
   | some o=>have h3:=hsb b o e;have h4:=h1.dom b hb;rw[show h b=_ from h3]at h4;cases h4
  have hleft:(leftOf es #[]).toList=es.toList:=by unfold leftOf;rw[Array.toList_filter];exact List.filter_eq_self.2 fun _ _=>by simp
  show(Code.block bid _).wp P _ _ w1;exact Ry (S:=S w.heap.size) (J:=J) (K:=K) (tN:=0) hN hX hE hY hA hlt hne (hS _) r6 hkeys.2 (hround _) (b:=b) (m:=m) (r:=r) (fun g hg=>by rw[(hS w.heap.size g).1];exact hend _ g hg) r1 r2 rfl hs0.heap (fun e=>by have h9:h b=none:=hst.dom b e;rw[hb]at h9;cases h9) hst.size (by have:=hs.heap.lt ⟨b,_,r,hb,rfl,hr,r2,rfl⟩;omega) k3 st0 ⟨heap_alloc_new w _,by rw[hg _ (hs.heap.lt ⟨b,_,r,hb,rfl,hr,r2,rfl⟩)];exact r3⟩ hu1 hu2 (by rw[hleft,hkeys.1];exact hJ) hr (hob.mono (KLe.refl _) (LLe.refl _) fun _=>hg _ (hs.heap.lt ⟨b,_,r,hb,rfl,hr,r2,rfl⟩))
 | _=>exact q.elim
end
section
variable {P : Program}
theorem WW{T:Nat->Option As}(hT:Cq P T){n:Nat}{tI dN dX bid id4 id5:Nat}{ops:Array Oper}{oR oN oX:Oper}{body:Code}{Q:Exit->Aj->Prop}{s:Aj}{e:Av}{h:Ac}{t kt et:TypeId}{x:Operand}{i:As}
 (kp:Nat) (hops:ops.toList=ops.toList.take kp++[oR]) (hpre:AOps P ops (ops.toList.take kp) s (fun s'=>Sub ⟨n,e,h⟩ s')) (hR:oR.op= .range t x/\oR.dst=some tI/\oR.guard=none) (hx:Al e x=some (.val (.map none))) (hi:T t=some i) (hik:i.k= .map kt et)
 (hN:oN.op= .next (.tmp tI) false/\oN.dst=some dN/\oN.guard=none) (hX:oX.op= .extract (.tmp dN) 0/\oX.dst=some dX/\oX.guard=none) (hlt:tI<n/\dN<n/\dX<n) (hne:e tI=none/\e dN=none/\e dX=none) (hend:Q .normal ⟨n,e,h⟩):
 AGo P (.seq (.region id4 ops false) (.block bid (.loop (.seq (.region id5 #[oN,oX] false) (.seq (.cond (.tmp dX) .skip (.exit bid)) body))))) s Q:=by
 intro H0 ι0 a0 w0 hs0;refine wp_seq (wp_region_list ?_);rw[hops];refine HI _ _ _ (GQ (fun e' a w hp=>?_) _ _ _ (hpre H0 ι0 a0 w0 hs0));obtain⟨s',H,ι,q,hs',hst'⟩:=hp
 cases e' with
 | normal=>
  replace q:Sub ⟨n,e,h⟩ s':=q
  have hs:=hs'.sub q;have hst:Step H0 ι0 s.h w0 H ι h w:=⟨hst'.size,hst'.os,hst'.out,hst'.keep,hst'.kle,hst'.knew,hst'.lle,hst'.lframe,hst'.newrb,fun b hb=>by
   cases e9:h b with
   | none=>rfl
   | some o=>have h3:=q.2.2 b o e9;rw[hst'.dom b hb]at h3;cases h3⟩
  show wpList P ops _ [oR] a w;have hvx:=((Am hs hx).val_inv).1;obtain⟨info,dd,e1,e2,e3,e4,e5,e6⟩:=Ai (hT _ _ hi);have hd1:=HJ (P:=P) (d:=dd) (e3▸hik);subst hd1;have wN: ∀(ops:Array Oper) (o:Oper) (t:Array Value),o.guard=none->Region.wanted o (yielded ops t)=true:=fun ops o t ho=>by unfold Region.wanted;rw[ho]
  unfold wpList;rw[wN _ _ _ hR.2.2,if_pos rfl];refine .inl ?_;unfold Oper.wp;rw[show(execOp a.eval oR).run P w= .ok (.value (.pointer (some ⟨w.heap.size,0,none⟩))) (w.alloc (.mapIter none 0 #[] 0)) by simp[execOp,hR.1,Instr.range,hvx,Ak e2]];rw[Oper.upon_value,hR.2.1];unfold wpList
  let w1:=w.alloc (.mapIter none 0 #[] 0)
  have hg: ∀b,b<w.heap.size->w1.heap[b]?=w.heap[b]?:=fun b hlt=>heap_alloc_old w _ hlt
  have hs1:HeapRel H ι h w1:=hs.heap.grow hg;have hst1:Step H ι h w H ι h w1:=Step.grow hg (by simp[w1]) rfl rfl;have drop: ∀{a':Act} {dd:Nat} {v:Value},Sim H ι ⟨n,e,h⟩ a' w1->e dd=none->dd<n->Sim H ι ⟨n,e,h⟩ (a'.put (some dd) v) w1:=fun {a' dd v} k1 k2 k3=>by
   have k4:=k1.put (d:=some dd) (r:=none) (v:=v) k1.heap (Step.refl _ _ _ _) (fun x e=>by cases e) (fun t e=>by cases e;exact k3);have e1:(⟨n,He e (some dd) none,h⟩:Aj)=⟨n,e,h⟩:=by
    show(⟨n,O8 e dd,h⟩:Aj)=_;rw[JJ k2]
   rwa[e1]at k4
  have k1:Sim H ι ⟨n,e,h⟩ a w1:=⟨hs.n,hs.d,hs.env,hs1⟩;have k2:=drop (v:=.pointer (some ⟨w.heap.size,0,none⟩)) k1 hne.1 hlt.1;show(Code.block bid _).wp P _ _ w1;refine wp_block (wp_loop_once ?_);have hsz:a.tmps.size=n:=hs.n
  let a1:=a.put (some tI) (.pointer (some ⟨w.heap.size,0,none⟩))
  have hsz1:a1.tmps.size=n:=by rw[<-hsz];simp[a1,Act.put]
  have hI:a1.eval (.tmp tI)= .pointer (some ⟨w.heap.size,0,none⟩):=EN (by rw[hsz];exact hlt.1);have hit:w1.heap[w.heap.size]?=some (.mapIter none 0 #[] 0):=heap_alloc_new w _;have hgo:(getObj w.heap.size).run P w1= .ok (.mapIter none 0 #[] 0) w1:=by simp[getObj,Sem.run,hit]
  refine wp_seq (wp_region_list ?_);unfold wpList;rw[wN _ _ _ hN.2.2,if_pos rfl];refine .inl ?_;unfold Oper.wp;rw[show(execOp a1.eval oN).run P w1= .ok (.value (.tuple #[.bool false])) w1 by simp[execOp,hN.1,hI,Instr.next,hgo]];show wpList P _ _ [oX] (a1.put oN.dst _) w1;rw[hN.2.1];unfold wpList;rw[wN _ _ _ hX.2.2,if_pos rfl];refine .inl ?_;unfold Oper.wp;rw[show(execOp (a1.put (some dN) (.tuple #[.bool false])).eval oX).run P w1= .ok (.value (.bool false)) w1 by simp[execOp,hX.1,EN (a:=a1) (d:=dN) (v:=.tuple #[.bool false]) (by rw[hsz1];exact hlt.2.1),Instr.extract]];rw[Oper.upon_value,hX.2.1];unfold wpList;show(Code.seq _ _).wp P _ _ w1;refine wp_seq (wp_cond_false (EN (by simp[Act.put,hsz1];exact hlt.2.2)) (wp_exit ?_));show Exit.inBlock bid _ (.exit bid) _ w1;simp only[Exit.inBlock,if_true];exact⟨_,H,ι,hend,drop (v:=.bool false) (drop (v:=.tuple #[.bool false]) k2 hne.2.1 hlt.2.1) hne.2.2 hlt.2.2,hst.trans hs0.heap hs.heap hst1⟩
 | _=>exact q.elim
end
section
variable {P : Program} {T : Nat -> Option As} {o : Oper} {e : Av} {h : Ac}
theorem TL(hT:Cq P T){t t' kt et:TypeId}{x:Operand}{p:AV}{i:As}{r:Bool}(hr:p= .val (.map none)/\r=true\/(∃b,p= .map b)/\r=false)(hi:T t=some i)(hik:i.k= .map kt et)(ho:o.op= .binOp .eql t x (.const (.map none)) t':=by exact rfl)(hx:Al e x=some p:=by exact rfl):QLoc P o e h [] (.bool r):=by
 intro H ι a w s hs g1 g2;have hx':Al s.env x=some p:=by rw[g1 x (by rw[ho];simp[Op.operands]),hx]
 obtain⟨info,dd,e1,e2,e3,e4,e5,e6⟩:=Ai (hT _ _ hi);have hd1:=HJ (P:=P) (d:=dd) (e3▸hik);subst hd1;have hn:a.eval (.const (.map none))= .map none:=rfl;refine⟨.bool r,.bool _ _,?_⟩;rcases hr with⟨rfl,rfl⟩ |⟨⟨b,rfl⟩,rfl⟩
 . have hv:a.eval x= .map none:=((Am hs hx').val_inv).1;have he:(Op.equalIn 10000 t (.map none) (.map none)).run P w= .ok true w:=by
    rw[Op.equalIn];simp[Ak e2]
   simp only[execOp,ho,hv,hn,eqGuard,binOp,Op.equal,Op.maxDepth,Sem.run_bind,Result.andThen_ok,Sem.run_pure,he,Bool.not_true,Bool.false_eq_true,if_false]
 . obtain⟨q,hq,hq0,hv⟩:=(Am hs hx').map_inv;have he:(Op.equalIn 10000 t (.map (some q.rb)) (.map none)).run P w= .ok false w:=by
    rw[Op.equalIn];simp[Ak e2]
   simp only[execOp,ho,hv,hn,eqGuard,binOp,Op.equal,Op.maxDepth,Sem.run_bind,Result.andThen_ok,Sem.run_pure,he,Bool.not_true,Bool.false_eq_true,if_false]
end
def Gx(l:List Int):List (List AV):=l.map fun n=>[AV.int .i64 n]
theorem B7(l:List Int):(Gx l).length=l.length:=by simp[Gx]
theorem K8{l:List Int}{z:Int}(h:0<=z/\z<l.length):(Gx l)[0+z.toNat]?=some [AV.int .i64 (rget l z)]:=by
 grind[Ae,Gx,rget]
theorem JI(l:List Int)(z v:Int):(Gx l).set (0+z.toNat) [AV.int .i64 v]=Gx (AS l z v):=by
 rw[Nat.zero_add,Gx,Gx,AS,List.map_set]
def MW:Option Nat->List AV
  | none=>[.val (.map none)]
  | some j=>[.map (j+16)]
theorem IX{to:List (Option Nat)}{a:Nat}{o:Option Nat}(h:to[a]?=some o):(to.map MW)[0+((a:Nat):Int).toNat]?=some (MW o):=by
 grind
theorem OT(to:List (Option Nat))(a:Nat)(o:Option Nat):(to.map MW).set (0+((a:Nat):Int).toNat) (MW o)=(to.set a o).map MW:=by
 (simp_all;done)
def famM(maps:List (List Int))(i:Nat):AObj:=match maps[i]? with
  | some ks=>.map (kvs .i64 (S7 ks))
  | none=>.free
theorem H4{maps:List (List Int)}{j:Nat}{ks:List Int}(h:maps[j]?=some ks):famM maps j= .map (kvs .i64 (S7 ks)):=by unfold famM;rw[h]
theorem ZL{maps:List (List Int)}:famM maps maps.length= .free:=by unfold famM;rw[List.getElem?_eq_none (Nat.le_refl _)]
def FH(h:Ac)(R:Nat)(fr:List Int)(to:List (Option Nat))(maps:List (List Int)):Ac:=fun x=>
  bif Nat.ble 16 x then some (famM maps (x-16))else bif Nat.beq x 2 then some (.row false 2 [[.ref 3 R 0 R,.ref 4 R 0 R]])else bif Nat.beq x 3 then some (.row true 1 (Gx fr))else bif Nat.beq x 4 then some (.row false 1 (to.map MW))else h x
section
variable {h : Ac} {R : Nat} {fr : List Int} {to : List (Option Nat)} {maps : List (List Int)}
theorem Jd(j:Nat):FH h R fr to maps (j+16)=some (famM maps j):=by
 unfold FH;rw[show Nat.ble 16 (j+16)=true by rw[Nat.ble_eq];omega,show j+16-16=j by omega];rfl
theorem lI{x:Nat}(hx:x<16):Nat.ble 16 x=false:=by
 cases e:Nat.ble 16 x with
 | false=>rfl
 | true=>rw[Nat.ble_eq]at e;omega
theorem Ve{x:Nat}(hx:x<16):FH h R fr to maps x=bif Nat.beq x 2 then some (.row false 2 [[.ref 3 R 0 R,.ref 4 R 0 R]])else bif Nat.beq x 3 then some (.row true 1 (Gx fr))else bif Nat.beq x 4 then some (.row false 1 (to.map MW))else h x:=by
 grind[FH,lI,Gx,MW]
theorem Nm(fr':List Int):hput (FH h R fr to maps) 3 (.row true 1 (Gx fr'))=FH h R fr' to maps:=by
 funext x
 by_cases hx:x=3
 . subst hx;rw[Aq];rfl
 grind[AL,Ve,Jd,hput,FH,Gx]
theorem jn(to':List (Option Nat)):hput (FH h R fr to maps) 4 (.row false 1 (to'.map MW))=FH h R fr to' maps:=by
 funext x
 by_cases hx:x=4
 . subst hx;rw[Aq];rfl
 grind[AL,Ve,Jd,hput,FH,MW]
theorem fA{j:Nat}{o:AObj}{maps':List (List Int)}(hj:famM maps' j=o)(ho: ∀i,i≠j->famM maps' i=famM maps i):hput (FH h R fr to maps) (j+16) o=FH h R fr to maps':=by
 grind[Aq,Jd,AL,Ve,famM,hput,FH]
theorem WT{j:Nat}(ks:List Int)(hj:j<maps.length):hput (FH h R fr to maps) (j+16) (.map (kvs .i64 (S7 ks)))=FH h R fr to (maps.set j ks):=
 fA (H4 (by rw[List.getElem?_set_self hj])) fun i hi=>by unfold famM;rw[List.getElem?_set_ne (Ne.symm hi)]
theorem lQ(ks:List Int):hput (FH h R fr to maps) (maps.length+16) (.map (kvs .i64 (S7 ks)))=FH h R fr to (maps++[ks]):=
 fA (H4 (by rw[List.getElem?_append_right (Nat.le_refl _)];simp)) fun i hi=>by
  grind[famM,List.getElem?_append_left,List.getElem?_eq_none,hput,FH,kvs,S7]
end
theorem L4: ∀(l:List Tac) (fr:List Int) (t:Tac),Db fr (l++[t])=((Db fr l).1++[subT (Db fr l).2 t],Dt (Db fr l).2 (subT (Db fr l).2 t))
 | [],fr,t=>rfl
 | u::l,fr,t=>by
  show(subT fr u::(Db (Dt fr (subT fr u)) (l++[t])).1,(Db (Dt fr (subT fr u)) (l++[t])).2)=_;rw[L4 l];rfl
theorem GA: ∀(l:List Tac) (fr:List Int),(Db fr l).1.length=l.length
 | [],fr=>rfl
 | u::l,fr=>by
  show(Db (Dt fr (subT fr u)) l).1.length+1=l.length+1;rw[GA l]
structure fp(R:Nat)(t:Tac):Prop where
  u1:use1 t.op=true->0<=t.a/\t.a<R
  u2:use2 t.op=true->(0<=t.a/\t.a<R)/\0<=t.b/\t.b<R
  d:setsOp t.op=true->0<=t.d/\t.d<R
theorem RM(fr:List Int)(t:Tac):(subT fr t).op=t.op/\(subT fr t).d=t.d/\(subT fr t).sets=t.sets:=by
 grind[subT,Tac.sets,use1,use2]
structure t9(R:Nat)(l:List Tac)(i:Nat)(fr:List Int)(to:List (Option Nat))(maps:List (List Int)):Prop where
  le:i<=l.length
  pre:(Db (Kr R) (l.take i)).2=fr
  inv:FwI R fr to maps
def Du(R:Nat)(l:List Tac)(i:Nat):List (List AV):=(Db (Kr R) (l.take i)).1.map Tac.cells++List.replicate (l.length-i) [.int .i64 0,.int .i64 0,.int .i64 0,.int .i64 0,.int .i64 0,.int .i64 0,.int .i64 0,.int .u32 0]
theorem JK{R:Nat}{l:List Tac}{i:Nat}(hi:i<=l.length):(Du R l i).length=l.length:=by
 grind[Du,List.length_append,List.length_map,GA,List.length_replicate]
theorem WE(R:Nat)(l:List Tac):Du R l 0=List.replicate l.length [.int .i64 0,.int .i64 0,.int .i64 0,.int .i64 0,.int .i64 0,.int .i64 0,.int .i64 0,.int .u32 0]:=by
 grind[Du,Db]
theorem ZR(R:Nat)(l:List Tac):Du R l l.length=(Db (Kr R) l).1.map Tac.cells:=by
 unfold Du;simp
theorem WF{R:Nat}{l:List Tac}{i:Nat}{t:Tac}(hx:l[i]?=some t):(Du R l i).set (0+((i:Nat):Int).toNat) (subT (Db (Kr R) (l.take i)).2 t).cells=Du R l (i+1):=by
 have hi:i<l.length:=(List.getElem?_eq_some_iff.1 hx).1;rw[Nat.zero_add,show((i:Nat):Int).toNat=i from rfl];unfold Du;rw[List.take_add_one,hx,Option.toList_some,L4];dsimp only;rw[List.map_append,List.set_append_right _ _ (by rw[List.length_map,GA,List.length_take];omega),List.length_map,GA,List.length_take,show i-min i l.length=0 by omega,show l.length-i=(l.length-(i+1))+1 by omega,List.replicate_succ,List.set_cons_zero]
 simp
theorem Lt{R:Nat}{l:List Tac}{i:Nat}{t:Tac}(hx:l[i]?=some t):(Db (Kr R) (l.take (i+1))).2=Dt (Db (Kr R) (l.take i)).2 (subT (Db (Kr R) (l.take i)).2 t):=by
 rw[List.take_add_one,hx,Option.toList_some,L4]
def k6:Nat->Bool:=fun b=> !Nat.beq b 6
def WB(b:Block)(o5 o6:AObj):Ac:=hput (hput (hput (hput hNone 0 (.row false 5 [b.cells])) 1 (.row false 5 [[.nil,.int .i64 0,.int .i64 0,.int .i64 0,.int .i64 0]])) 5 o5) 6 o6
theorem qE(x:Nat):k6 (x+16)=true:=by
 unfold k6
 cases e:Nat.beq (x+16) 6 with
 | false=>rfl
 | true=>have:=Nat.eq_of_beq_eq_true e;omega
theorem Yd{b:Block}{o5 o6:AObj}{x:Nat}(h0:x≠0)(h1:x≠1)(h5:x≠5)(h6:x≠6):WB b o5 o6 x=none:=by
 unfold WB;rw[AL _ _ h6,AL _ _ h5,AL _ _ h1,AL _ _ h0];rfl
theorem Mj{h:Ac}{b:Block}{o5 o6:AObj}{R:Nat}{fr:List Int}{to:List (Option Nat)}{maps:List (List Int)}(h0:h 0=some (.row false 5 [b.cells]))(h1:h 1=some (.row false 5 [[.nil,.int .i64 0,.int .i64 0,.int .i64 0,.int .i64 0]]))(h2:h 2=some (.row false 2 [[.ref 3 R 0 R,.ref 4 R 0 R]]))
 (h3:h 3=some (.row true 1 (Gx fr))) (h4:h 4=some (.row false 1 (to.map MW))) (h5:h 5=some o5) (h6:h 6=some o6) (hf: ∀j,h (j+16)=some (famM maps j)):HSub (FH (WB b o5 o6) R fr to maps) h:=fun x o hx=>by
 by_cases h16:x<16
 . rw[Ve h16]at hx
   by_cases e2:x=2
   . (simp_all;done)
   by_cases e3:x=3
   . subst e3;rw[h3];exact hx
   by_cases e4:x=4
   . subst e4;rw[h4];exact hx
   have n2: ∀{y:Nat},x≠y->Nat.beq x y=false:=fun {y} hy=>by
    cases e:Nat.beq x y with
    | false=>rfl
    | true=>exact absurd (Nat.eq_of_beq_eq_true e) hy
   rw[n2 e2,n2 e3,n2 e4]at hx
   replace hx:WB b o5 o6 x=some o:=hx
   by_cases e0:x=0
   . subst e0;rw[h0];exact hx
   by_cases e1:x=1
   . subst e1;rw[h1];exact hx
   by_cases e5:x=5
   . subst e5;rw[h5];exact hx
   by_cases e6:x=6
   . subst e6;rw[h6];exact hx
   rw[Yd e0 e1 e5 e6]at hx;cases hx
 . obtain⟨j,rfl⟩: ∃j,x=j+16:=⟨x-16,by omega⟩
   rw[Jd]at hx;rw[hf,<-hx]
theorem YI(to:List (Option Nat)):(AObj.row false 1 (to.map MW)).avoid k6=true:=by
 show((to.map MW).all fun cs=>cs.all (AV.avoid k6))=true;rw[List.all_map,List.all_eq_true];intro o _
 cases o with
 | none=>rfl
 | some j=>show([AV.map (j+16)].all (AV.avoid k6))=true;simp[AV.avoid,AV.flat,qE]
theorem S3{h:Ac}{b:Block}{o5 o6:AObj}{R:Nat}{fr:List Int}{to:List (Option Nat)}{maps:List (List Int)}(hb:(AObj.row false 5 [b.cells]).avoid k6=true)(h0:h 0=some (.row false 5 [b.cells]))(h1:h 1=some (.row false 5 [[.nil,.int .i64 0,.int .i64 0,.int .i64 0,.int .i64 0]]))(h2:h 2=some (.row false 2 [[.ref 3 R 0 R,.ref 4 R 0 R]]))
 (h3:h 3=some (.row true 1 (Gx fr))) (h4:h 4=some (.row false 1 (to.map MW))) (h5:h 5=some o5) (ha5:o5.avoid k6=true) (hf: ∀j,h (j+16)=some (famM maps j)):HDropK k6 (FH (WB b o5 .free) R fr to maps) h:=fun x o hx=>by
 by_cases e6:x=6
 . subst e6;right;have:some AObj.free=some o:=hx;cases this;exact⟨rfl,rfl⟩
 left;have hx2:h x=some o:=Mj (h:=hput h 6 .free) (b:=b) (o5:=o5) (o6:=.free) (R:=R) (fr:=fr) (to:=to) (maps:=maps) h0 h1 h2 h3 h4 h5 (Aq _ _ _) (fun j=>(AL _ _ (by omega)).trans (hf j)) x o hx|>.symm.trans (AL _ _ e6)|>.symm;refine⟨hx2,fun _=>⟨by unfold k6;cases e:Nat.beq x 6 with | false=>rfl | true=>exact absurd (Nat.eq_of_beq_eq_true e) e6,?_⟩⟩
 by_cases h16:x<16
 . rw[Ve h16]at hx
   by_cases e2:x=2
   . subst e2;have:some (AObj.row false 2 [[.ref 3 R 0 R,.ref 4 R 0 R]])=some o:=hx;cases this;rfl
   by_cases e3:x=3
   . subst e3;have:some (AObj.row true 1 (Gx fr))=some o:=hx;cases this;rfl
   by_cases e4:x=4
   . subst e4;have:some (AObj.row false 1 (to.map MW))=some o:=hx;cases this;exact YI to
   have n2: ∀{y:Nat},x≠y->Nat.beq x y=false:=fun {y} hy=>by
    cases e:Nat.beq x y with
    | false=>rfl
    | true=>exact absurd (Nat.eq_of_beq_eq_true e) hy
   rw[n2 e2,n2 e3,n2 e4]at hx
   replace hx:WB b o5 .free x=some o:=hx
   by_cases e0:x=0
   . subst e0;have:some (AObj.row false 5 [b.cells])=some o:=hx;cases this;exact hb
   by_cases e1:x=1
   . subst e1;have:some (AObj.row false 5 [[.nil,.int .i64 0,.int .i64 0,.int .i64 0,.int .i64 0]])=some o:=hx;cases this;rfl
   by_cases e5:x=5
   . subst e5;have:some o5=some o:=hx;cases this;exact ha5
   rw[Yd e0 e1 e5 e6]at hx;cases hx
 . obtain⟨j,rfl⟩: ∃j,x=j+16:=⟨x-16,by omega⟩
   rw[Jd]at hx
   cases hx
   unfold famM
   cases maps[j]?<;>rfl
section
variable {call : Int -> Mach -> Mach} {s : ByteArray} {fuel : Int}
def Uq(K:CH)(regs:List Int):Prop:=∀z v,pget z K=some v->0<=z/\rget regs z=v
theorem D8{l:List Int}{z y v:Int}(hz:0<=z)(hy:0<=y)(h:y≠z):rget (AS l z v) y=rget l y:=by
 grind[rget,AS]
theorem HN{l:List Int}{z v:Int}(hz:0<=z/\z<l.length):rget (AS l z v) z=v:=by
 grind[rget,AS]
theorem Wn(d n:Int)(regs:List Int)(m:Mach):mone call s (KY d n) regs m=(AS regs d n,m):=db rfl
theorem Ot{K:CH}{regs:List Int}(hk:Uq K regs)(t:Tac)(m:Mach):mone call s (CZ K t) regs m=mone call s t regs m:=by
 cases hv:(DL t K).2 with
 | false=>simp only[CZ,hv,cond_false]
 | true=>
  have e:CZ K t=KY t.d (DL t K).1:=by simp only[CZ,hv,cond_true]
  rw[e,Wn];unfold DL at hv |-
  cases e2:t.op==2 with
  | true=>
   rw[e2]at hv;simp only[cond_true]at hv |-;obtain⟨v,hv⟩:=Option.isSome_iff_exists.1 hv;rw[je (by simpa using e2),(hk _ _ hv).2,hv];rfl
  | false=>
   cases e3:t.op==3 with
   | false=>rw[e2,e3]at hv;simp at hv
   | true=>
    rw[e2,e3]at hv;simp only[cond_true,cond_false]at hv |-
    cases ea:pget t.a K with
    | none=>rw[ea]at hv;simp at hv
    | some va=>
     cases eb:pget t.b K with
     | none=>rw[eb]at hv;simp at hv
     | some vb=>
      rw[ea,eb]at hv;simp only[Option.isSome_some,Bool.and_true,cond_true,Option.getD_some]at hv |-;have h1:=(hk _ _ ea).2;have h2:=(hk _ _ eb).2;rw[jd (by simpa using e3) (by rw[h1,h2];simpa using hv),h1,h2]
theorem LU(u:Tac)(regs:List Int)(m:Mach):(mone call s u regs m).1=regs\/setsOp u.op=true/\∃v,(mone call s u regs m).1=AS regs u.d v:=by
 unfold mone setsOp
 cases u.op==1 with
 | true=>exact .inr ⟨rfl,_,rfl⟩
 | false=>
 cases u.op==2 with
 | true=>exact .inr ⟨rfl,_,rfl⟩
 | false=>
 cases u.op==3 with
 | true=>
  simp only[cond_true,cond_false]
  cases (B5 u.k (rget regs u.a) (rget regs u.b)).2==0 with
  | true=>exact .inr ⟨rfl,_,rfl⟩
  | false=>exact .inl rfl
 | false=>
 cases u.op==4 with
 | true=>exact .inr ⟨rfl,_,rfl⟩
 | false=>
 cases u.op==5 with
 | true=>exact .inl rfl
 | false=>
 cases h6:u.op==6 with
 | true=>
  simp only[cond_true,cond_false]
  cases decide (rget regs u.a>=u.size)with
  | true=>exact .inl rfl
  | false=>exact .inr ⟨rfl,_,rfl⟩
 | false=>
 cases u.op==7 with
 | true=>
  simp only[cond_true,cond_false]
  cases decide (rget regs u.a>=u.size)<;>exact .inl rfl
 | false=>
 cases u.op==8 with
 | true=>
  simp only[cond_true,cond_false]
  cases decide (m.read<s.size)<;>exact .inr ⟨rfl,_,rfl⟩
 | false=>
 cases u.op==9 with
 | true=>
  simp only[cond_true,cond_false]
  cases decide (m.out.length>=65536)<;>exact .inl rfl
 | false=>
 cases u.op==10<;>exact .inl rfl
theorem OJ{K:CH}{regs:List Int}(hk:Uq K regs)(hu:Ft K){u:Tac}(hd:setsOp u.op=true->0<=u.d/\u.d<regs.length)(m:Mach):Uq (GZ K u) (mone call s u regs m).1:=by
 unfold GZ
 cases hs:decide (u.sets<0)with
 | true=>
  have hso:setsOp u.op=false:=by
   cases e:setsOp u.op with
   | false=>rfl
   | true=>
    have:=hd e;simp[Tac.sets,e]at hs;omega
  rcases LU (call:=call) (s:=s) u regs m with h |⟨h,_⟩
  . rw[h];exact hk
  . rw[hso]at h;cases h
 | false=>
  have hso:setsOp u.op=true:=by
   cases e:setsOp u.op with
   | true=>rfl
   | false=>simp[Tac.sets,e]at hs
  have hsd:u.sets=u.d:=by simp[Tac.sets,hso]
  obtain⟨d1,d2⟩:=hd hso;simp only[cond_false];rw[hsd]
  cases h1:u.op==1 with
  | true=>
   rw[db (by simpa using h1)];intro z v hz;simp only[cond_true]at hz;rw[Qg]at hz
   cases e:z==u.d with
   | true=>
    rw[e]at hz;have hzd:z=u.d:=by simpa using e
    subst hzd;simp only[cond_true,Option.some.injEq]at hz;subst hz;exact⟨d1,HN ⟨d1,d2⟩⟩
   | false=>
    rw[e]at hz;obtain⟨g1,g2⟩:=hk z v hz;exact⟨g1,by rw[D8 d1 g1 (by simpa using e)];exact g2⟩
  | false=>
   intro z v hz;simp only[cond_false]at hz;rw[Qh _ _ hu]at hz
   cases e:z==u.d with
   | true=>rw[e]at hz;simp at hz
   | false=>
    rw[e]at hz;obtain⟨g1,g2⟩:=hk z v hz;refine⟨g1,?_⟩;rcases LU (call:=call) (s:=s) u regs m with h |⟨_,w,h⟩
    . rw[h];exact g2
    . rw[h,D8 d1 g1 (by simpa using e)];exact g2
theorem XV(K:CH)(t:Tac):(CZ K t).d=t.d:=by
 unfold CZ;cases (DL t K).2<;>rfl
theorem HY{K:CH}{t:Tac}(h:setsOp (CZ K t).op=true):setsOp t.op=true:=by
 unfold CZ at h
 cases hv:(DL t K).2 with
 | false=>rw[hv]at h;exact h
 | true=>
  unfold DL at hv
  cases e2:t.op==2 with
  | true=>simp[setsOp,e2]
  | false=>
   cases e3:t.op==3 with
   | true=>simp[setsOp,e3]
   | false=>rw[e2,e3]at hv;simp at hv
theorem mone_len(u:Tac)(regs:List Int)(m:Mach):(mone call s u regs m).1.length=regs.length:=by
 rcases LU (call:=call) (s:=s) u regs m with h |⟨_,v,h⟩
 . rw[h]
 . rw[h,BP]
theorem Ov: ∀(l:List Tac) (regs:List Int) (m:Mach),(A8 call s fuel l regs m).2.1.length=regs.length
 | [],_,_=>rfl
 | t::r,regs,m=>by
  unfold A8
  cases (Ax fuel m).1 with
  | false=>rfl
  | true=>
   simp only[cond_true]
   cases (mone call s t regs (Ax fuel m).2).2.fin==0 with
   | false=>exact mone_len _ _ _
   | true=>exact(Ov r _ _).trans (mone_len _ _ _)
theorem QB: ∀(l:List Tac) (K:CH) (regs:List Int) (m:Mach),(∀t∈l,setsOp t.op=true->0<=t.d/\t.d<regs.length)->Uq K regs->Ft K->A8 call s fuel (C2 K l) regs m=A8 call s fuel l regs m
 | [],_,_,_,_,_,_=>rfl
 | t::r,K,regs,m,hl,hk,hu=>by
  have h1:=Ot (call:=call) (s:=s) hk t (Ax fuel m).2;have hkn:=OJ (call:=call) (s:=s) hk hu (u:=CZ K t) (fun h=>by rw[XV];exact hl t (by simp) (HY h)) (Ax fuel m).2;rw[h1]at hkn;simp only[C2,A8,h1];rw[QB r (GZ K (CZ K t)) _ _ (fun u hu' hs=>by rw[mone_len];exact hl u (by simp[hu']) hs) hkn (Mp hu _)]
theorem QF{f:BFunc}(hf: ∀x∈f.blocks,∀t∈x.ins,setsOp t.op=true->0<=t.d/\t.d<f.regs.toNat): ∀(g:Nat) (i:Int) (regs:List Int) (m:Mach),regs.length=f.regs.toNat->mblk call s fuel f.fold g i regs m=mblk call s fuel f g i regs m
 | 0,_,_,_,_=>rfl
 | g+1,i,regs,m,hr=>by
  unfold mblk;have e:f.fold.blocks[i.toNat]?=(f.blocks[i.toNat]?).map Block.fold:=by simp[BFunc.fold]
  rw[e]
  cases hk:f.blocks[i.toNat]? with
  | none=>rfl
  | some k=>
   have hm:A8 call s fuel k.fold.ins regs m=A8 call s fuel k.ins regs m:=QB k.ins [] regs m (fun t ht hs=>by rw[hr];exact hf k (List.mem_of_getElem? hk) t ht hs) (fun z v h=>by cases h) (by simp[Ft]);simp only[Option.map_some];rw[hm];have ih:=QF hf g (k.next (A8 call s fuel k.ins regs m).2.1) (A8 call s fuel k.ins regs m).2.1 (Ax fuel (A8 call s fuel k.ins regs m).2.2).2 (by rw[Ov];exact hr);have hn:k.fold.next (A8 call s fuel k.ins regs m).2.1=k.next (A8 call s fuel k.ins regs m).2.1:=rfl;have hf3:k.fold.fin=k.fin:=rfl;rw[hn,hf3,ih]
end
theorem Wx{t:Tac}{f regs words:Int}(h:t.fits f regs words=true):setsOp t.op=true->AT t.d regs=true:=by
 grind[Tac.fits,setsOp,AT]
theorem Wp{d n f regs words:Int}(h:AT d regs=true):(KY d n).fits f regs words=true:=by
 have e:(KY d n).want=KY d n:=rfl
 grind[KY,Tac.same_iff,Tac.fits,Tac.uses,use1,use2,Tac.rest,baseOp,HG,AT]
theorem Wu{K:CH}{t:Tac}{f regs words:Int}(h:t.fits f regs words=true):(CZ K t).fits f regs words=true:=by
 cases hv:(DL t K).2 with
 | false=>simp only[CZ,hv,cond_false];exact h
 | true=>
  have e:CZ K t=KY t.d (DL t K).1:=by simp only[CZ,hv,cond_true]
  have hs:setsOp t.op=true:=HY (K:=K) (by rw[e];rfl);rw[e];exact Wp (Wx h hs)
theorem K5{f regs words:Int}: ∀(l:List Tac) (K:CH),(∀t∈l,t.fits f regs words=true)->∀t∈C2 K l,t.fits f regs words=true
 | [],_,_,t,ht=>by cases ht
 | u::r,K,h,t,ht=>by
  simp only[C2,List.mem_cons]at ht;rcases ht with rfl | ht
  . exact Wu (h u (by simp))
  . exact K5 r _ (fun v hv=>h v (by simp[hv])) t ht
theorem cG{f:BFunc}{n w:Int}(h:f.one n w=true):f.fold.one n w=true:=by
 obtain⟨h1,h2,h3,h4⟩:=CD h;have hb:f.fold.blocks.length≠0:=by
  grind[BFunc.fold,List.length_map]
 rw[KP (f:=f.fold) h1 h2 hb];rw[List.all_eq_true];intro x hx;simp only[BFunc.fold,List.mem_map]at hx;obtain⟨y,hy,rfl⟩:=hx;have hl:f.fold.blocks.length=f.blocks.length:=by simp[BFunc.fold]
 simp only[Block.ok,Bool.and_eq_true,List.all_eq_true];refine⟨?_,K5 y.ins [] (h4 y hy).2⟩;rw[hl];exact(h4 y hy).1
theorem gL{f:BFunc}{i w:Int}(h1:0<=f.regs)(h2:f.regs<=4000)(h3:f.blocks≠[])(h4: ∀x∈f.blocks,x.ends f.blocks.length f.regs=true/\∀t∈x.ins,t.fits i f.regs w=true):f.one i w=true:=by
 grind[BFunc.one,List.all_eq_true,Block.ok]
theorem want_same3{t:Tac}:t.same t.want=true↔t.want=t:=by
 grind[Tac.same_iff]
structure Mh(R:Nat)(fr:List Int):Prop where
  len:fr.length=R
  ran: ∀v:Int,0<=v->v<R->0<=rget fr v/\rget fr v<R
theorem R6(R:Nat):Mh R (Kr R):=⟨XR R,fun v h0 h1=>by
 obtain⟨u,rfl⟩: ∃u:Nat,v=u:=⟨v.toNat,by omega⟩
 rw[JG (by omega)];omega⟩
theorem NY{R:Nat}{fr:List Int}(h:Mh R fr)(d:Int):Mh R (Cn d fr):=⟨by rw[Dj,h.len],fun v h0 h1=>by
 obtain⟨u,rfl⟩: ∃u:Nat,v=u:=⟨v.toNat,by omega⟩
 rw[Dk (by rw[h.len];omega)]
 cases ((u:Int)==d||rget fr u==d)with
 | true=>exact⟨h0,h1⟩
 | false=>exact h.ran u h0 h1⟩
theorem ranF_set{R:Nat}{fr:List Int}(h:Mh R fr){d a:Int}(hd:0<=d/\d<R)(ha:0<=a/\a<R):Mh R (AS fr d a):=⟨by rw[C5,h.len],fun v h0 h1=>by
 obtain⟨u,rfl⟩: ∃u:Nat,v=u:=⟨v.toNat,by omega⟩
 obtain⟨e,rfl⟩: ∃e:Nat,d=e:=⟨d.toNat,by omega⟩
 rw[E3 (by rw[h.len];omega)];split
 . exact ha
 . exact h.ran u h0 h1⟩
theorem RI{t:Tac}{n w:Int}{R:Nat}{fr:List Int}(hr:Mh R fr)(h:t.fits n R w=true):(subT fr t).fits n R w=true:=by
 simp only[Tac.fits,Bool.and_eq_true]at h;obtain⟨h1,h2,h3,h4,h5,h6⟩:=h;have hw:=want_same3.1 h6;have e12:=Nu t.op;unfold subT
 cases e1:use1 t.op with
 | true=>
  rw[e1,Bool.true_and]at e12;have h4':AT t.a R=true:=by rw[Tac.uses,e1]at h4;simpa using h4
  simp only[AT,Bool.and_eq_true,decide_eq_true_eq]at h4';simp only[cond_true,Tac.fits,Bool.and_eq_true];refine⟨h1,h2,h3,?_,h5,want_same3.2 ?_⟩
  . show(Tac.uses _).all _=true;simp only[Tac.uses,e1,cond_true,List.all_cons,List.all_nil,Bool.and_true,AT,Bool.and_eq_true,decide_eq_true_eq];exact hr.ran _ h4'.1 h4'.2
  . have q:=congrArg Tac.b hw
    cases t
    simp only[Tac.want,e1,e12,Bool.true_or,cond_true,cond_false,Tac.mk.injEq]at hw |-;exact hw
 | false=>
  cases e2:use2 t.op with
  | true=>
   have h4':AT t.a R=true/\AT t.b R=true:=by rw[Tac.uses,e1,e2]at h4;simpa using h4
   simp only[AT,Bool.and_eq_true,decide_eq_true_eq]at h4';simp only[cond_true,cond_false,Tac.fits,Bool.and_eq_true];refine⟨h1,h2,h3,?_,h5,want_same3.2 ?_⟩
   . show(Tac.uses _).all _=true;simp only[Tac.uses,e1,e2,cond_true,cond_false,List.all_cons,List.all_nil,Bool.and_true,AT,Bool.and_eq_true,decide_eq_true_eq];exact⟨hr.ran _ h4'.1.1 h4'.1.2,hr.ran _ h4'.2.1 h4'.2.2⟩
   . cases t
     simp only[Tac.want,e1,e2,Bool.or_true,cond_true,cond_false,Tac.mk.injEq]at hw |-;exact hw
  | false=>
   simp only[cond_false,Tac.fits,Bool.and_eq_true];exact⟨h1,h2,h3,h4,h5,h6⟩
theorem fits_tacR{t:Tac}{n w:Int}{R:Nat}(h:t.fits n R w=true):fp R t:=by
 simp only[Tac.fits,Bool.and_eq_true,Bool.or_eq_true,Bool.not_eq_true']at h;obtain⟨h1,h2,h3,h4,h5,h6⟩:=h;refine⟨fun e=>?_,fun e=>?_,fun e=>?_⟩
 . rw[Tac.uses,e]at h4;simpa[AT]using h4
 . have e1:use1 t.op=false:=by have:=Nu t.op;rw[e,Bool.and_true]at this;exact this
   rw[Tac.uses,e1,e]at h4;simpa[AT]using h4
 . rw[e]at h3;rcases h3 with h3 | h3
   . cases h3
   . simpa[AT]using h3
theorem LD{t:Tac}{n w:Int}{R:Nat}{fr:List Int}(hr:Mh R fr)(h:t.fits n R w=true):Mh R (Dt fr t):=by
 have hT:=fits_tacR h;unfold Dt
 cases e:decide (t.sets>=0)with
 | false=>exact hr
 | true=>
  have hs:=ED e;have hd:t.sets=t.d:=by unfold Tac.sets;rw[hs];rfl
  cases e2:(t.op==2&&t.a !=t.sets)with
  | false=>exact NY hr _
  | true=>
   simp only[Bool.and_eq_true,beq_iff_eq]at e2;refine ranF_set (NY hr _) (by rw[hd];exact hT.d hs) (hT.u1 (by rw[e2.1];rfl))
theorem Q5{n w:Int}{R:Nat}: ∀(l:List Tac) (fr:List Int),Mh R fr->(∀t∈l,t.fits n R w=true)->(∀t∈(Db fr l).1,t.fits n R w=true)/\Mh R (Db fr l).2
 | [],fr,hr,h=>⟨fun t ht=>(by cases ht),hr⟩
 | u::l,fr,hr,h=>by
  have hu:=RI hr (h u (by simp));have ih:=Q5 l (Dt fr (subT fr u)) (LD hr hu) fun t ht=>h t (by simp[ht])
  grind[Db]
theorem T5{f:BFunc}{n w:Int}(h:f.one n w=true):f.forward.one n w=true:=by
 obtain⟨h1,h2,h3,h4⟩:=CD h;obtain⟨R,hR⟩: ∃R:Nat,f.regs=(R:Int):=⟨f.regs.toNat,by omega⟩
 refine gL (f:=f.forward) h1 h2 (fun e=>h3 (List.map_eq_nil_iff.1 e)) fun x hx=>?_
 obtain⟨y,hy,rfl⟩:=List.mem_map.1 hx;obtain⟨g1,g2⟩:=h4 y hy;show(y.forward _).ends (f.blocks.map _).length f.regs=true/\∀t∈(y.forward _).ins,t.fits n f.regs w=true
 rw[List.length_map];rw[hR]at g1 g2 |-;have hf:=Q5 (n:=n) (w:=w) y.ins (Kr R) (R6 R) g2;refine⟨?_,hf.1⟩;have g1':=g1;unfold Block.ends at g1 |-;show(bif y.fin==1 then AT y.to f.blocks.length&&((Block.forward _ y).v==0&&y.els==0)else bif y.fin==2 then AT y.to f.blocks.length&&(AT y.els f.blocks.length&&AT (Block.forward _ y).v R)else y.fin==3&&((Block.forward _ y).v==0&&(y.to==0&&y.els==0)))=true
 cases e2:y.fin==2 with
 | false=>
  have hv:(Block.forward R y).v=y.v:=by unfold Block.forward;rw[e2];rfl
  rw[show((R:Int)).toNat=R from rfl,hv,<-e2];exact g1
 | true=>
  have e3:y.fin=2:=by simpa using e2
  have hv:(Block.forward R y).v=rget (Db (Kr R) y.ins).2 y.v:=by unfold Block.forward;rw[e2];rfl
  rw[e3]at g1 |-;rw[show((R:Int)).toNat=R from rfl,hv];simp[AT]at g1 |-;exact⟨g1.1,g1.2.1,hf.2.ran _ g1.2.2.1 g1.2.2.2⟩
theorem ZA(R:Nat)(x:Block):(x.forward R).count=x.count:=by
 show 1+(Db (Kr R) x.ins).1.length=1+x.ins.length;rw[GA]
theorem JY(f:BFunc):f.forward.count=f.count:=by
 show((f.blocks.map _).map Block.count).sum=_;rw[List.map_map];exact congrArg List.sum (List.map_congr_left fun x _=>ZA _ x)
theorem kz(fr:List Int)(t:Tac):(subT fr t).n=t.n:=by
 grind[subT,use1,use2]
theorem Q4: ∀(l:List Tac) (fr:List Int),In l->In (Db fr l).1
 | [],fr,h=>h
 | u::l,fr,h=>fun t ht=>by
  rcases List.mem_cons.1 ht with rfl | ht
  . grind[kz,In,Db]
  . exact Q4 l _ (fun t ht=>h t (by simp[ht])) t ht
def isBeen(l:List Bool)(k:Int):Prop:=0<=k/\l[k.toNat]?=some true
structure Vg(next:List (List Int))(s:DS):Prop where
  seen: ∀p∈s.way,∀(j:Nat) (t:Int),(j:Int)<p.2->(Bs next p.1)[j]?=some t->isBeen s.been t
  all: ∀k,isBeen s.been k->(∀t∈Bs next k,isBeen s.been t)\/∃i,(k,i)∈s.way
theorem H7{b:Int}{s:DS}{k:Int}(h:isBeen s.been k):isBeen (BN b s).been k:=by
 grind[BN,notBeen,CQ,isBeen]
theorem Pe{b:Int}{s:DS}(h:0<=b/\b<s.been.length):isBeen (BN b s).been b:=by
 grind[BN,notBeen,Ae,isBeen]
theorem ZU{next:List (List Int)}{b:Int}{s:DS}(h:Vg next s):Vg next (BN b s):=by
 refine⟨fun p hp j t hj ht=>?_,fun k hk=>?_⟩
 . have hp':p∈s.way\/p=(b,0):=by
    grind[BN,notBeen]
   rcases hp' with hp' | rfl
   . exact H7 (h.seen p hp' j t hj ht)
   . simp only at hj;omega
 . by_cases hold:isBeen s.been k
   . rcases h.all k hold with h1 |⟨i,h1⟩
     . exact .inl fun t ht=>H7 (h1 t ht)
     . refine .inr ⟨i,?_⟩;unfold BN
       cases notBeen s.been b with
       | false=>exact h1
       | true=>simp only[cond_true];exact List.mem_append_left _ h1
   . right;unfold BN at hk |-
     cases e:notBeen s.been b with
     | false=>rw[e]at hk;exact absurd hk hold
     | true=>
      rw[e]at hk;simp only[cond_true]at hk |-;obtain⟨k1,k2⟩:=hk;obtain⟨h1,h2,h3⟩:=CQ e;rw[List.getElem?_set]at k2
      by_cases hh:b.toNat=k.toNat
      . have:k=b:=by omega
        subst this;exact⟨0,by simp⟩
      . rw[if_neg hh]at k2;exact absurd ⟨k1,k2⟩ hold
theorem ZQ{next:List (List Int)}{s:DS}(hok:s.ok next)(hlead: ∀l∈next,∀t∈l,0<=t/\t<next.length)(h:Vg next s):Vg next (EO next s):=by
 unfold EO;split
 . exact h
 . rename_i b i e;have hw:=Gj e;have hmem:(b,i)∈s.way:=by rw[hw];simp
   have hb:=hok.way (b,i) hmem;simp only at hb
   cases hi:decide (i<(Bs next b).length)with
   | false=>
    have hi': ¬i<(Bs next b).length:=by simpa using hi
    simp only[cond_false];refine⟨fun p hp=>h.seen p (List.dropLast_subset _ hp),fun k hk=>?_⟩;rcases h.all k hk with h1 |⟨j,h1⟩
    . exact .inl h1
    . rw[hw]at h1;rcases List.mem_append.1 h1 with h1 | h1
      . exact .inr ⟨j,h1⟩
      . simp only[List.mem_singleton,Prod.mk.injEq]at h1;obtain⟨rfl,rfl⟩:=h1;left;intro t ht;obtain⟨x,hx⟩:=List.getElem?_of_mem ht;have hxl:=(List.getElem?_eq_some_iff.1 hx).1;exact h.seen (k,j) hmem x t (by simp only;omega) hx
   | true=>
    have hi':i<(Bs next b).length:=by simpa using hi
    obtain⟨t0,ht0⟩:=Ae (l:=Bs next b) (k:=i.toNat) (by omega);have hrow:Bs next b∈next:=by
     obtain⟨l,hl⟩:=Ae (l:=next) (k:=b.toNat) (by omega);rw[Bs,hl];exact List.mem_of_getElem? hl
    have ht0r:=hlead _ hrow t0 (List.mem_of_getElem? ht0);simp only[cond_true,ht0,Option.getD_some]
    -- the way with one more looked at, where that one is been already
    have key:Vg next ⟨(BN t0 ⟨s.been,s.way.dropLast++[(b,i+1)]⟩).been,(BN t0 ⟨s.been,s.way.dropLast++[(b,i+1)]⟩).way⟩:=by
     have hself:isBeen (BN t0 ⟨s.been,s.way.dropLast++[(b,i+1)]⟩).been t0:=Pe (by show 0<=t0/\t0<s.been.length;rw[hok.len];exact ht0r);have hbeen: ∀{k},isBeen s.been k->isBeen (BN t0 ⟨s.been,s.way.dropLast++[(b,i+1)]⟩).been k:=fun hk=>H7 (s:=⟨s.been,s.way.dropLast++[(b,i+1)]⟩) hk
     have hway: ∀p∈(BN t0 ⟨s.been,s.way.dropLast++[(b,i+1)]⟩).way,p∈s.way.dropLast\/p=(b,i+1)\/p=(t0,0):=fun p hp=>by
      unfold BN at hp
      cases e2:notBeen s.been t0 with
      | false=>rw[e2]at hp;simp only[cond_false,List.mem_append,List.mem_singleton]at hp;rcases hp with hp | hp<;>simp[hp]
      | true=>rw[e2]at hp;simp only[cond_true,List.mem_append,List.mem_singleton]at hp;rcases hp with(hp | hp) | hp<;>simp[hp]
     have hway2: ∀p,p∈s.way.dropLast\/p=(b,i+1)->p∈(BN t0 ⟨s.been,s.way.dropLast++[(b,i+1)]⟩).way:=fun p hp=>by
      unfold BN
      cases notBeen s.been t0<;>simp only[cond_true,cond_false,List.mem_append,List.mem_singleton]<;>rcases hp with hp | hp<;>simp[hp]
     refine⟨fun p hp j t hj ht=>?_,fun k hk=>?_⟩
     . rcases hway p hp with hp | rfl | rfl
       . exact hbeen (h.seen p (List.dropLast_subset _ hp) j t hj ht)
       . simp only at hj ht
         by_cases hji:(j:Int)<i
         . exact hbeen (h.seen (b,i) hmem j t hji ht)
         . have:j=i.toNat:=by omega
           subst this;rw[ht0]at ht
           cases ht
           exact hself
       . simp only at hj;omega
     . by_cases hold:isBeen s.been k
       . rcases h.all k hold with h1 |⟨j,h1⟩
         . exact .inl fun t ht=>hbeen (h1 t ht)
         . right;rw[hw]at h1;rcases List.mem_append.1 h1 with h1 | h1
           . exact⟨j,hway2 _ (.inl h1)⟩
           . simp only[List.mem_singleton,Prod.mk.injEq]at h1;obtain⟨rfl,rfl⟩:=h1;exact⟨_,hway2 _ (.inr rfl)⟩
       . right;unfold BN at hk |-
         cases e2:notBeen s.been t0 with
         | false=>rw[e2]at hk;exact absurd hk hold
         | true=>
          rw[e2]at hk;simp only[cond_true]at hk |-;obtain⟨k1,k2⟩:=hk;rw[List.getElem?_set]at k2
          by_cases hh:t0.toNat=k.toNat
          . have:k=t0:=by omega
            subst this;exact⟨0,by simp⟩
          . rw[if_neg hh]at k2;exact absurd ⟨k1,k2⟩ hold
    exact key
theorem UX{next:List (List Int)}(hlead: ∀l∈next,∀t∈l,0<=t/\t<next.length): ∀(g:Nat) (s:DS),s.ok next->Vg next s->SL next s<g->Vg next (H6 next g s)/\(H6 next g s).way=[]
 | 0,_,_,_,h=>absurd h (by omega)
 | g+1,s,hok,h,hg=>by
  by_cases hne:s.way=[]
  . grind[UY,SL,H6]
  . rw[Re hne];have:=UV hok hne;exact UX hlead g _ (Pa hok) (ZQ hok hlead h) (by omega)
theorem Rg{next:List (List Int)}{k:Int}: ∀(g:Nat) (s:DS),isBeen s.been k->isBeen (H6 next g s).been k
 | 0,_,h=>h
 | g+1,s,h=>by
  unfold H6;split
  . exact h
  . refine Rg g _ ?_;unfold EO;split
    . exact h
    . rename_i b i e
      cases decide (i<((Bs next b).length:Int))with
      | true=>exact H7 (s:=⟨s.been,s.way.dropLast++[(b,i+1)]⟩) h
      | false=>exact h
theorem HP{next:List (List Int)}(hn:next≠[])(hlead: ∀l∈next,∀t∈l,0<=t/\t<next.length):
 isBeen (GD next (List.replicate next.length false)) 0/\∀k,isBeen (GD next (List.replicate next.length false)) k->∀t∈Bs next k,isBeen (GD next (List.replicate next.length false)) t:=by
 have hpos:=List.length_pos_iff.2 hn;have hok0:(DS.mk (List.replicate next.length false) []).ok next:=⟨by simp,fun p hp=>by cases hp⟩;have h0:Vg next (DS.mk (List.replicate next.length false) []):=⟨fun p hp=>(by cases hp),fun k hk=>by
  have h2:(List.replicate next.length false)[k.toNat]?=some true:=hk.2;have h3:(true:Bool)∈List.replicate next.length false:=List.mem_of_getElem? h2;have:=List.eq_of_mem_replicate h3
  cases this⟩
 have key:=UX hlead (SL next (Fg (List.replicate next.length false))+1) (Fg (List.replicate next.length false)) (dinto_ok hok0) (ZU h0) (Nat.lt_succ_self _);refine⟨Rg _ _ (Pe (by show(0:Int)<=0/\(0:Int)<((List.replicate next.length false).length:Int);simp;omega)),fun k hk t ht=>?_⟩;rcases key.1.all k hk with h1 |⟨i,h1⟩
 . exact h1 t ht
 . rw[key.2]at h1;cases h1
theorem QW{l:List Int}{z y v:Int}(hz:0<=z/\z<l.length)(hy:0<=y):iget (Sq l z v) y=bif y==z then v else iget l y:=by
 grind[iget,Sq]
theorem I7: ∀(l:List Int) (w:List Int) (k:Int),(∀t∈l,0<=t/\t<w.length)->0<=k->iget (l.foldl I8 w) k=iget w k+(l.count k:Int)
 | [],w,k,_,_=>by simp
 | t::r,w,k,h,hk=>by
  rw[List.foldl_cons,I7 r (I8 w t) k (fun x hx=>by rw[MJ];exact h x (by simp[hx])) hk,I8,QW (h t (by simp)) hk,List.count_cons]
  grind
theorem W2{next:List (List Int)}{reach:List Bool}(hlead: ∀l∈next,∀t∈l,0<=t/\t<next.length){k:Int}(hk:0<=k): ∀(m:Nat),m<=next.length->
 0<=iget (Bv next reach m) k/\(∀i,i<m->reach[i]?=some true->k∈(next[i]?).getD []->1<=iget (Bv next reach m) k)/\
 (∀i j,i<j->j<m->reach[i]?=some true->reach[j]?=some true->k∈(next[i]?).getD []->k∈(next[j]?).getD []->2<=iget (Bv next reach m) k)
 | 0,_=>by
  grind[Bv,iget]
 | m+1,hm=>by
  obtain⟨h0,h1,h2⟩:=W2 (reach:=reach) hlead hk m (by omega);obtain⟨l,hl⟩:=Ae (l:=next) (k:=m) (by omega);have hlen:=Bx next reach m;have hcount:=I7 l (Bv next reach m) k (fun t ht=>by rw[hlen];exact hlead l (List.mem_of_getElem? hl) t ht) hk;have e:Bv next reach (m+1)=bif (reach[m]?).getD false then l.foldl I8 (Bv next reach m)else Bv next reach m:=by
   rw[Bv,hl];rfl
  have hge:iget (Bv next reach m) k<=iget (Bv next reach (m+1)) k:=by
   rw[e]
   cases (reach[m]?).getD false with
   | true=>rw[cond_true,hcount];omega
   | false=>exact Int.le_refl _
  have hmk:reach[m]?=some true->k∈l->iget (Bv next reach (m+1)) k=iget (Bv next reach m) k+(l.count k:Int)/\1<=l.count k:=fun hr hkl=>by
   rw[e,hr];exact⟨hcount,List.count_pos_iff.2 hkl⟩
  refine⟨by omega,fun i hi hr hki=>?_,fun i j hij hj hri hrj hki hkj=>?_⟩
  . by_cases him:i=m
    . subst him;rw[hl]at hki;obtain⟨a,b⟩:=hmk hr hki;omega
    . have:=h1 i (by omega) hr hki;omega
  . by_cases hjm:j=m
    . subst hjm;rw[hl]at hkj;obtain⟨a,b⟩:=hmk hrj hkj;have:=h1 i (by omega) hri hki;omega
    . have:=h2 i j hij (by omega) hri hrj hki hkj;omega
theorem EI{f:BFunc}{n w:Int}(h:f.one n w=true):f.leads:=fun l hl k hk=>by
 simp only[BFunc.nexts,List.mem_map]at hl;obtain⟨x,hx,rfl⟩:=hl;have he:=((CD h).2.2.2 x hx).1
 grind[Block.ends,Block.nexts,AT]
section
variable {f : BFunc}
theorem Uj(hle:f.leads): ∀l∈f.nexts,∀t∈l,0<=t/\t<f.nexts.length:=fun l hl t ht=>by
 rw[AK];exact hle l hl t ht
theorem VY(hle:f.leads){i:Int}(hi:0<=i/\i<f.blocks.length):Bs f.nexts i=(f.blockAt i).nexts:=by
 grind[Bs,CL,Be]
theorem ER(hle:f.leads){k:Int}(h:isBeen f.reach k):0<=k/\k<f.blocks.length:=by
 grind[List.getElem?_eq_some_iff,KI,isBeen]
theorem Tl(hle:f.leads){i:Int}(hi:0<=i/\i<f.blocks.length):iget f.tk i=takeOf f.nexts f.reach i.toNat (f.blockAt i):=by
 rw[iget,BFunc.tk,Ls (Be hi)];rfl
theorem Fk(hle:f.leads){i:Int}(hi:0<=i/\i<f.blocks.length)(h:iget f.tk i≠ -1):iget f.tk i=(f.blockAt i).to/\isBeen f.reach i/\(f.blockAt i).fin=1/\(f.blockAt i).to≠0/\iget (waysF f.nexts f.reach) (f.blockAt i).to=1/\0<=(f.blockAt i).to/\(f.blockAt i).to<f.blocks.length:=by
 rw[Tl hle hi]at h |-;unfold takeOf at h |-
 cases e:(f.reach[i.toNat]?).getD false&&((f.blockAt i).fin==1&&((f.blockAt i).to !=0&&((f.blockAt i).to !=(i.toNat:Int)&&iget (waysF f.nexts f.reach) (f.blockAt i).to==1)))with
 | false=>rw[e]at h;exact absurd rfl h
 | true=>
  simp only[Bool.and_eq_true,beq_iff_eq,bne_iff_ne,ne_eq]at e;obtain⟨e1,e2,e3,e4,e5⟩:=e;have hto:=IQ hle (Be hi) (.inl e2);refine⟨rfl,⟨hi.1,?_⟩,e2,e3,e5,hto.1,hto.2⟩
  cases hr:f.reach[i.toNat]? with
  | none=>rw[hr]at e1;cases e1
  | some v=>rw[hr]at e1;simp at e1;rw[e1]
theorem RF(hle:f.leads){i l k:Int}(hi:0<=i/\i<f.blocks.length)(hk:iget f.tk i=k)(hne:k≠ -1)(hl:isBeen f.reach l)(hm:k∈(f.blockAt l).nexts):l=i:=by
 obtain⟨a1,a2,a3,a4,a5,a6,a7⟩:=Fk hle hi (by rw[hk];exact hne);rw[hk]at a1;have hlr:=ER hle hl;have hnl:=AK f;have hki:k∈(f.blockAt i).nexts:=by simp[Block.nexts,a3,a1]
 have gi:(f.nexts[i.toNat]?).getD []=(f.blockAt i).nexts:=by rw[CL (Be hi)];rfl
 have gl:(f.nexts[l.toNat]?).getD []=(f.blockAt l).nexts:=by rw[CL (Be hlr)];rfl
 have w:=(W2 (reach:=f.reach) (Uj hle) (k:=k) (by rw[a1];exact a6) f.nexts.length (Nat.le_refl _)).2.2;rw[<-a1]at a5;unfold waysF at a5
 by_cases h1:i.toNat<l.toNat
 . have:=w i.toNat l.toNat h1 (by omega) a2.2 hl.2 (by rw[gi];exact hki) (by rw[gl];exact hm);omega
 . by_cases h2:l.toNat<i.toNat
   . have:=w l.toNat i.toNat h2 (by omega) hl.2 a2.2 (by rw[gl];exact hm) (by rw[gi];exact hki);omega
   . omega
theorem NA(hle:f.leads): ∀(m:Nat),m<=f.blocks.length->∀(k:Nat),(f.takenAt f.reach m)[k]?=some true->∃i:Int,0<=i/\i<m/\iget f.tk i=k
 | 0,_,k,h=>by
  grind[BFunc.takenAt,List.mem_of_getElem?,iget]
 | m+1,hm,k,h=>by
  obtain⟨x,hx⟩:=Ae (l:=f.blocks) (k:=m) (by omega);rw[FY hx]at h;have hxm:f.blockAt m=x:=by simp[BFunc.blockAt,hx]
  have hi:0<=(m:Int)/\(m:Int)<f.blocks.length:=by omega
  have ht:=Tl hle hi;rw[Int.toNat_natCast,hxm]at ht
  cases e:takeOf f.nexts f.reach m x== -1 with
  | true=>
   rw[e]at h;obtain⟨i,i1,i2,i3⟩:=NA hle m (by omega) k h;exact⟨i,i1,by omega,i3⟩
  | false=>
   rw[e]at h;simp only[cond_false]at h;rw[List.getElem?_set]at h;have hne:takeOf f.nexts f.reach m x≠ -1:=by simpa using e
   have hs:=Fk hle hi (by rw[ht];exact hne);rw[hxm]at hs
   by_cases h2:x.to.toNat=k
   . exact⟨m,hi.1,by omega,by rw[hs.1];omega⟩
   . rw[if_neg h2]at h;obtain⟨i,i1,i2,i3⟩:=NA hle m (by omega) k h;exact⟨i,i1,by omega,i3⟩
theorem To(hle:f.leads): ∀(m:Nat),m<=f.blocks.length->∀(i:Int),0<=i->i<m->iget f.tk i≠ -1->(f.takenAt f.reach m)[(iget f.tk i).toNat]?=some true
 | 0,_,i,h1,h2,_=>absurd h2 (by omega)
 | m+1,hm,i,h1,h2,hne=>by
  obtain⟨x,hx⟩:=Ae (l:=f.blocks) (k:=m) (by omega);rw[FY hx];have hxm:f.blockAt m=x:=by simp[BFunc.blockAt,hx]
  have hi:0<=(m:Int)/\(m:Int)<f.blocks.length:=by omega
  have ht:=Tl hle hi;rw[Int.toNat_natCast,hxm]at ht;have hlen:=Cj f f.reach m
  by_cases him:i=m
  . subst him;rw[ht]at hne |-;have e:(takeOf f.nexts f.reach m x== -1)=false:=by simpa using hne
    have hs:=Fk hle hi (by rw[ht];exact hne);rw[hxm,ht]at hs;rw[e,cond_false,hs.1,List.getElem?_set_self (by omega)]
  . have ih:=To hle m (by omega) i h1 (by omega) hne
    cases e:takeOf f.nexts f.reach m x== -1 with
    | true=>exact ih
    | false=>
     simp only[cond_false];rw[List.getElem?_set]
     by_cases h3:x.to.toNat=(iget f.tk i).toNat
     . rw[if_pos h3,if_pos (by rw[h3];exact(List.getElem?_eq_some_iff.1 ih).1)]
     . rw[if_neg h3];exact ih
theorem Da(hle:f.leads){k:Nat}(h:f.headOf k=true):isBeen f.reach k/\∀i:Int,0<=i/\i<f.blocks.length->iget f.tk i≠(k:Int):=by
 grind[BFunc.headOf,To,isBeen,iget]
theorem Sz(hle:f.leads){t:Int}(h:isBeen f.reach t)(hn: ∀i:Int,0<=i/\i<f.blocks.length->iget f.tk i≠t):f.headOf t.toNat=true:=by
 have ht:=ER hle h;obtain⟨v,hv⟩:=Ae (l:=f.takenAt f.reach f.blocks.length) (k:=t.toNat) (by rw[Cj];omega);rw[Q2 h.2 hv]
 cases v with
 | false=>rfl
 | true=>
  obtain⟨i,i1,i2,i3⟩:=NA hle f.blocks.length (Nat.le_refl _) t.toNat hv;exact absurd (by rw[i3];omega) (hn i ⟨i1,i2⟩)
theorem d8(hle:f.leads){k:Int}(hk: ∀i:Int,0<=i/\i<f.blocks.length->iget f.tk i≠k): ∀(g:Nat) (c:Int) (marks:List Bool),marks.length=f.blocks.length->isBeen marks c->
 (∀w,isBeen marks w->w=k\/∃u,isBeen marks u/\u≠c/\iget f.tk u=w)->VD marks<=g->ends f.tk g c=true:=by
 have step: ∀(c:Int) (marks:List Bool),marks.length=f.blocks.length->isBeen marks c->(∀w,isBeen marks w->w=k\/∃u,isBeen marks u/\u≠c/\iget f.tk u=w)->iget f.tk c≠ -1->0<=iget f.tk c/\iget f.tk c<f.blocks.length/\marks[(iget f.tk c).toNat]?=some false:=fun c marks hl hc hw hne=>by
  have hin: ∀{u},isBeen marks u->0<=u/\u<f.blocks.length:=fun {u} hu=>by
   grind[List.getElem?_eq_some_iff,iget,isBeen,VD,ends]
  obtain⟨a1,a2,a3,a4,a5,a6,a7⟩:=Fk hle (hin hc) hne;rw[<-a1]at a6 a7;refine⟨a6,a7,?_⟩;obtain⟨v,hv⟩:=Ae (l:=marks) (k:=(iget f.tk c).toNat) (by omega)
  cases v with
  | false=>exact hv
  | true=>
   exfalso;rcases hw (iget f.tk c) ⟨a6,hv⟩with h |⟨u,u1,u2,u3⟩
   . exact hk c (hin hc) h
   . refine u2 ?_;have hs:=Fk hle (hin u1) (by rw[u3];exact hne);refine RF hle (hin hc) rfl hne hs.2.1 ?_;rw[<-u3,hs.1];simp[Block.nexts,hs.2.2.1]
 intro g
 induction g with
 | zero=>
  grind[iget,ends,Jj,isBeen,VD,Block.nexts]
 | succ g ih=>
  intro c marks hl hc hw hu
  by_cases hne:iget f.tk c= -1
  . simp[ends,hne]
  . obtain⟨a,b,e⟩:=step c marks hl hc hw hne;have hus:=Jj e;have hnew: ∀w,isBeen (marks.set (iget f.tk c).toNat true) w↔w=iget f.tk c\/isBeen marks w:=fun w=>by
     constructor
     . rintro⟨h1,h2⟩
       rw[List.getElem?_set]at h2
       by_cases h3:(iget f.tk c).toNat=w.toNat
       . exact .inl (by omega)
       . rw[if_neg h3]at h2;exact .inr ⟨h1,h2⟩
     . rintro(rfl |⟨h1,h2⟩)
       . exact⟨a,List.getElem?_set_self (by omega)⟩
       . refine⟨h1,?_⟩;rw[List.getElem?_set]
         by_cases h3:(iget f.tk c).toNat=w.toNat
         . rw[if_pos h3,if_pos (by omega)]
         . rw[if_neg h3];exact h2
    have hcc:c≠iget f.tk c:=fun h=>by
     have:=hc.2;rw[h,e]at this;cases this
    have:=ih (iget f.tk c) (marks.set (iget f.tk c).toNat true) (by simpa using hl) ((hnew _).2 (.inl rfl)) (fun w hw2=>?_) (by omega)
    . unfold ends;rw[this];simp
    . rcases(hnew w).1 hw2 with rfl | hw3
      . exact .inr ⟨c,(hnew c).2 (.inr hc),hcc,rfl⟩
      . rcases hw w hw3 with h |⟨u,u1,u2,u3⟩
        . exact .inl h
        . refine .inr ⟨u,(hnew u).2 (.inr u1),fun h=>?_,u3⟩;have:=u1.2;rw[h,e]at this;cases this
theorem Q1(hle:f.leads){k:Nat}(h:f.headOf k=true):ends f.tk f.tk.length k=true:=by
 obtain⟨h1,h2⟩:=Da hle h;have hk:=ER hle h1;have hl:f.tk.length=f.blocks.length:=AP f _;have hget:(List.replicate f.blocks.length false)[k]?=some false:=by
  rw[List.getElem?_replicate,if_pos (by omega)]
 have hu:=Jj hget;have hr:VD (List.replicate f.blocks.length false)=f.blocks.length:=by simp[VD]
 refine d8 hle h2 f.tk.length k ((List.replicate f.blocks.length false).set k true) (by simp) ⟨by omega,by rw[Int.toNat_natCast,List.getElem?_set_self (by simp;omega)]⟩ (fun w hw=>?_) (by omega);left;obtain⟨w1,w2⟩:=hw;rw[List.getElem?_set]at w2
 by_cases h3:k=w.toNat
 . omega
 . rw[if_neg h3]at w2;have:=List.eq_of_mem_replicate (List.mem_of_getElem? w2)
   cases this
theorem Q7(hle:f.leads): ∀(g:Nat) (c:Int),0<=c/\c<f.blocks.length->fol f (c::chain f.tk g c)
 | 0,c,_=>trivial
 | g+1,c,hc=>by
  unfold chain
  cases e:iget f.tk c== -1 with
  | true=>exact trivial
  | false=>
   have hne:iget f.tk c≠ -1:=by simpa using e
   obtain⟨a1,a2,a3,a4,a5,a6,a7⟩:=Fk hle hc hne;exact⟨a3,a1.symm,Q7 hle g _ (by rw[a1];exact⟨a6,a7⟩)⟩
theorem Po(hle:f.leads)(hR: ∀k,isBeen f.reach k->∀t∈Bs f.nexts k,isBeen f.reach t): ∀(g:Nat) (c:Int),isBeen f.reach c->∀x∈chain f.tk g c,isBeen f.reach x
 | 0,c,_=>fun x hx=>by cases hx
 | g+1,c,hc=>fun x hx=>by
  unfold chain at hx
  cases e:iget f.tk c== -1 with
  | true=>rw[e]at hx;cases hx
  | false=>
   rw[e]at hx;have hcr:=ER hle hc;obtain⟨a1,a2,a3,a4,a5,a6,a7⟩:=Fk hle hcr (by simpa using e);have hb:isBeen f.reach (iget f.tk c):=hR c hc _ (by rw[VY hle hcr,a1];simp[Block.nexts,a3]);simp only[cond_false,List.mem_cons]at hx;rcases hx with rfl | hx
   . exact hb
   . exact Po hle hR g _ hb x hx
theorem OH(hle:f.leads): ∀(g:Nat) (c:Int),ends f.tk g c=true->iget f.tk (AI (c::chain f.tk g c))= -1
 | 0,c,h=>by simpa[ends,chain,AI]using h
 | g+1,c,h=>by
  unfold ends at h;unfold chain
  cases e:iget f.tk c== -1 with
  | true=>simpa[AI]using e
  | false=>
   rw[e]at h;simp only[Bool.false_or]at h;have:=OH hle g _ h;simpa[AI]using this
theorem Ju(hle:f.leads): ∀(m:Nat) {p:List Int},p∈f.pathsTo m->∃k,k<m/\f.headOf k=true/\p=Bb f.tk k
 | 0,p,h=>by cases h
 | m+1,p,h=>by
  unfold BFunc.pathsTo at h
  cases e:f.headOf m with
  | false=>
   rw[e]at h;obtain⟨k,k1,k2⟩:=Ju hle m h;exact⟨k,by omega,k2⟩
  | true=>
   rw[e]at h;simp only[cond_true,List.mem_append,List.mem_singleton]at h;rcases h with h | rfl
   . obtain⟨k,k1,k2⟩:=Ju hle m h;exact⟨k,by omega,k2⟩
   . exact⟨m,by omega,e,rfl⟩
theorem LO(hle:f.leads): ∀(m:Nat),m<=f.blocks.length->∀k,k<m->f.headOf k=true->∃i:Nat,iget (f.numsTo m) k=i/\(f.pathsTo m)[i]?=some (Bb f.tk k)
 | 0,_,k,h,_=>absurd h (by omega)
 | m+1,hm,k,hk,hh=>by
  have hlen:=BX f m
  cases e:f.headOf m with
  | false=>
   have hkm:k≠m:=fun h=>by rw[h,e]at hh;cases hh
   rw[Qq e,E6 e];exact LO hle m (by omega) k (by omega) hh
  | true=>
   rw[Og e,DU e,QW (by rw[hlen];omega) (by omega)]
   by_cases hkm:k=m
   . subst hkm;refine⟨(f.pathsTo k).length,by simp,?_⟩;rw[List.getElem?_append_right (Nat.le_refl _),Nat.sub_self];rfl
   . obtain⟨i,i1,i2⟩:=LO hle m (by omega) k (by omega) hh;have hne:((k:Int)==(m:Int))=false:=by simp;omega
     rw[hne];exact⟨i,i1,by rw[List.getElem?_append_left (List.getElem?_eq_some_iff.1 i2).1];exact i2⟩
theorem Mx(hle:f.leads)(h0:f.headOf 0=true): ∀(m:Nat),0<m->(f.pathsTo m)[0]?=some (Bb f.tk 0)
 | 0,h=>absurd h (by omega)
 | 1,_=>by rw[DU h0];rfl
 | m+2,_=>by
  have ih:=Mx hle h0 (m+1) (by omega)
  cases e:f.headOf (m+1)with
  | false=>rw[E6 e];exact ih
  | true=>rw[DU e,List.getElem?_append_left (List.getElem?_eq_some_iff.1 ih).1];exact ih
theorem target(hle:f.leads){l t:Int}(hR: ∀k,isBeen f.reach k->∀t∈Bs f.nexts k,isBeen f.reach t)(hl:isBeen f.reach l)(hlast:iget f.tk l= -1)(ht:t∈(f.blockAt l).nexts):EQ f.tpaths (iget f.nums t) t=true:=by
 have hlr:=ER hle hl;have htb:isBeen f.reach t:=hR l hl t (by rw[VY hle hlr];exact ht);have htr:=ER hle htb;have hh:f.headOf t.toNat=true:=Sz hle htb (fun i hi e=>by
  have hne:t≠ -1:=by omega
  have:=RF hle hi e hne hl ht;subst this;rw[hlast]at e;omega)
 obtain⟨i,i1,i2⟩:=LO hle f.blocks.length (Nat.le_refl _) t.toNat (by omega) hh;have et:((t.toNat:Nat):Int)=t:=Int.toNat_of_nonneg htr.1;rw[et]at i1 i2;have hil:=(List.getElem?_eq_some_iff.1 i2).1;have hp:Ds f.tpaths (iget f.nums t)=Bb f.tk t:=by
  rw[show iget f.nums t=i from i1,Ds,Int.toNat_natCast];show((f.pathsTo f.blocks.length)[i]?).getD []=_;rw[i2];rfl
 refine WN (by rw[show iget f.nums t=i from i1];omega) (by rw[show iget f.nums t=i from i1];show(i:Int)<((f.pathsTo f.blocks.length).length:Int);omega) ?_;rw[hp];rfl
theorem J6(hle:f.leads)(hn:f.blocks≠[]):Vc f f.tidy f.tpaths:=by
 have hnn:f.nexts≠[]:=by simpa[BFunc.nexts]using hn
 obtain⟨r0,rc⟩:=HP hnn (Uj hle);have hR: ∀k,isBeen f.reach k->∀t∈Bs f.nexts k,isBeen f.reach t:=rc
 have hpos:=List.length_pos_iff.2 hn;have h0:f.headOf 0=true:=Sz hle (t:=0) r0 (fun i hi e=>by
  have:=Fk hle hi (by rw[e];decide);rw[e]at this;exact this.2.2.2.1 this.1.symm)
 have hfirst:=Mx hle h0 f.blocks.length hpos;have hmem: ∀(k:Nat) (p:List Int),f.tpaths[k]?=some p->∃c:Nat,f.headOf c=true/\p=Bb f.tk c:=fun k p hp=>by
  obtain⟨c,_,c2,c3⟩:=Ju hle _ (List.mem_of_getElem? hp);exact⟨c,c2,c3⟩
 have hblk: ∀(k:Nat) (p:List Int),f.tpaths[k]?=some p->f.tidy.blockAt k=f.newBlock p:=fun k p hp=>by
  simp[BFunc.blockAt,BFunc.tidy,hp]
 refine⟨fun h=>?_,by simp[BFunc.tidy],rfl,IH hle _ (Nat.le_refl _),?_,fun k p hp=>?_,fun k p hp=>?_,fun k p hp=>?_⟩
 . have:=(List.getElem?_eq_some_iff.1 hfirst).1;have h':(f.pathsTo f.blocks.length).length=0:=h;omega
 . have:Ds f.tpaths 0=Bb f.tk 0:=by
    show((f.pathsTo f.blocks.length)[0]?).getD []=_;rw[hfirst];rfl
   rw[this];rfl
 . obtain⟨c,c1,rfl⟩:=hmem k p hp;exact Q7 hle _ _ (ER hle (Da hle c1).1)
 . rw[hblk k p hp];rfl
 . obtain⟨c,c1,rfl⟩:=hmem k p hp;have hcb:=(Da hle c1).1;have hne:Bb f.tk c≠[]:=by simp[Bb]
   have hlb:isBeen f.reach (AI (Bb f.tk c)):=by
    have:=IU hne;simp only[Bb,List.mem_cons]at this;rcases this with h | h
    . show isBeen f.reach (AI (↑c::chain f.tk f.tk.length ↑c));rw[h];exact hcb
    . exact Po hle hR _ _ hcb _ h
   have hlast:iget f.tk (AI (Bb f.tk c))= -1:=OH hle _ _ (Q1 hle c1);rw[hblk k _ hp];refine Zr rfl rfl (fun e=>?_) (fun e=>?_) (fun e=>?_) (fun e=>?_)
   . have e':((f.blockAt (AI (Bb f.tk c))).fin==1||(f.blockAt (AI (Bb f.tk c))).fin==2)=true:=by
      have:(f.blockAt (AI (Bb f.tk c))).fin=1\/(f.blockAt (AI (Bb f.tk c))).fin=2:=e;simpa using this
     have hto:(f.newBlock (Bb f.tk c)).to=iget f.nums (f.blockAt (AI (Bb f.tk c))).to:=by simp only[BFunc.newBlock,e',cond_true]
     rw[hto];refine target hle hR hlb hlast ?_;have:(f.blockAt (AI (Bb f.tk c))).fin=1\/(f.blockAt (AI (Bb f.tk c))).fin=2:=e;rcases this with e | e<;>simp[Block.nexts,e]
   . have e':((f.blockAt (AI (Bb f.tk c))).fin==1||(f.blockAt (AI (Bb f.tk c))).fin==2)=false:=by
      have: ¬((f.blockAt (AI (Bb f.tk c))).fin=1\/(f.blockAt (AI (Bb f.tk c))).fin=2):=e;simpa using this
     simp only[BFunc.newBlock,e',cond_false]
   . have e':(f.blockAt (AI (Bb f.tk c))).fin=2:=e;have hel:(f.newBlock (Bb f.tk c)).els=iget f.nums (f.blockAt (AI (Bb f.tk c))).els:=by simp[BFunc.newBlock,e']
     rw[hel];exact target hle hR hlb hlast (by simp[Block.nexts,e'])
   . have e':((f.blockAt (AI (Bb f.tk c))).fin==2)=false:=by
      have:(f.blockAt (AI (Bb f.tk c))).fin≠2:=e;simpa using this
     simp only[BFunc.newBlock,e',cond_false]
end
inductive Es(next:List (List Int)):Int->Prop
  | zero:Es next 0
  | step (k t:Int):Es next k->t∈Bs next k->Es next t
structure Px(next:List (List Int))(s:DS):Prop where
  been: ∀k,isBeen s.been k->Es next k
  way: ∀p∈s.way,Es next p.1
theorem Pf{next:List (List Int)}{b:Int}{s:DS}(hb:Es next b)(h:Px next s):Px next (BN b s):=by
 unfold BN
 cases e:notBeen s.been b with
 | false=>exact h
 | true=>
  obtain⟨h1,h2,h3⟩:=CQ e;simp only[cond_true];refine⟨fun k hk=>?_,fun p hp=>?_⟩
  . obtain⟨k1,k2⟩:=hk;rw[List.getElem?_set]at k2
    by_cases hh:b.toNat=k.toNat
    . have:k=b:=by omega
      rw[this];exact hb
    . rw[if_neg hh]at k2;exact h.been k ⟨k1,k2⟩
  . simp only[List.mem_append,List.mem_singleton]at hp;rcases hp with hp | rfl
    . exact h.way p hp
    . exact hb
theorem WC{next:List (List Int)}{s:DS}(hok:s.ok next)(h:Px next s):Px next (EO next s):=by
 unfold EO;split
 . exact h
 . rename_i b i e;have hw:=Gj e;have hmem:(b,i)∈s.way:=by rw[hw];simp
   have hb:=hok.way (b,i) hmem;simp only at hb
   cases hi:decide (i<(Bs next b).length)with
   | false=>exact⟨h.been,fun p hp=>h.way p (List.dropLast_subset _ hp)⟩
   | true=>
    have hi':i<(Bs next b).length:=by simpa using hi
    obtain⟨t0,ht0⟩:=Ae (l:=Bs next b) (k:=i.toNat) (by omega);simp only[cond_true,ht0,Option.getD_some];refine Pf (.step b t0 (h.way _ hmem) (List.mem_of_getElem? ht0)) ⟨h.been,fun p hp=>?_⟩;simp only[List.mem_append,List.mem_singleton]at hp;rcases hp with hp | rfl
    . exact h.way p (List.dropLast_subset _ hp)
    . exact h.way (b,i) hmem
theorem Rf{next:List (List Int)}: ∀(g:Nat) (s:DS),s.ok next->Px next s->Px next (H6 next g s)
 | 0,_,_,h=>h
 | g+1,s,hok,h=>by
  unfold H6;split
  . exact h
  . exact Rf g _ (Pa hok) (WC hok h)
theorem Y0{next:List (List Int)}(hn:next≠[])(hlead: ∀l∈next,∀t∈l,0<=t/\t<next.length)(k:Int):isBeen (GD next (List.replicate next.length false)) k↔Es next k:=by
 obtain⟨r0,rc⟩:=HP hn hlead;constructor
 . intro hk;have hok0:(DS.mk (List.replicate next.length false) []).ok next:=⟨by simp,fun p hp=>by cases hp⟩;have h0:Px next (DS.mk (List.replicate next.length false) []):=⟨fun k hk=>(by
    have h2:(List.replicate next.length false)[k.toNat]?=some true:=hk.2;have:=List.eq_of_mem_replicate (List.mem_of_getElem? h2)
    cases this),fun p hp=>(by cases hp)⟩
   exact(Rf _ _ (dinto_ok hok0) (Pf .zero h0)).been k hk
 . intro hk
   induction hk with
   | zero=>exact r0
   | step k t _ ht ih=>exact rc k ih t ht
def Kb(next:List (List Int))(m:Nat):List Int:=(next[m]?).getD []
def cntTo(next:List (List Int))(reach:List Bool)(k:Int):Nat->Nat
  | 0=>0
  | m+1=>cntTo next reach k m+(bif (reach[m]?).getD false then(Kb next m).count k else 0)
theorem Th{next:List (List Int)}{reach:List Bool}(hlead: ∀l∈next,∀t∈l,0<=t/\t<next.length){k:Int}(hk:0<=k): ∀m,m<=next.length->iget (Bv next reach m) k=(cntTo next reach k m:Int)
 | 0,_=>by
  grind[Bv,iget,cntTo]
 | m+1,hm=>by
  have ih:=Th (reach:=reach) hlead hk m (by omega);obtain⟨l,hl⟩:=Ae (l:=next) (k:=m) (by omega);have hlen:=Bx next reach m;have e:Bv next reach (m+1)=bif (reach[m]?).getD false then l.foldl I8 (Bv next reach m)else Bv next reach m:=by
   rw[Bv,hl];rfl
  have e2:Kb next m=l:=by rw[Kb,hl];rfl
  rw[e,cntTo,e2]
  cases (reach[m]?).getD false with
  | true=>rw[cond_true,cond_true,I7 l _ k (fun t ht=>by rw[hlen];exact hlead l (List.mem_of_getElem? hl) t ht) hk,ih];omega
  | false=>rw[cond_false,cond_false,ih];omega
theorem eH{next:List (List Int)}{reach:List Bool}{k:Int}: ∀{m i:Nat},i<m->reach[i]?=some true->(Kb next i).count k<=cntTo next reach k m
 | 0,i,h,_=>absurd h (by omega)
 | m+1,i,h,hr=>by
  unfold cntTo
  by_cases him:i=m
  . grind
  . have:=eH (next:=next) (k:=k) (m:=m) (by omega) hr;omega
theorem X4{next:List (List Int)}{reach:List Bool}{k:Int}: ∀{m:Nat},1<=cntTo next reach k m->∃i,i<m/\reach[i]?=some true/\k∈Kb next i
 | 0,h=>by simp[cntTo]at h
 | m+1,h=>by
  unfold cntTo at h
  by_cases h1:1<=cntTo next reach k m
  . obtain⟨i,i1,i2,i3⟩:=X4 h1;exact⟨i,by omega,i2,i3⟩
  grind
theorem X0{next:List (List Int)}{reach:List Bool}{k:Int}: ∀{m:Nat},2<=cntTo next reach k m->
 (∃i j,i<j/\j<m/\reach[i]?=some true/\reach[j]?=some true/\k∈Kb next i/\k∈Kb next j)\/(∃i,i<m/\reach[i]?=some true/\2<=(Kb next i).count k)
 | 0,h=>by simp[cntTo]at h
 | m+1,h=>by
  unfold cntTo at h
  by_cases h2:2<=cntTo next reach k m
  . rcases X0 h2 with⟨i,j,a,b,c⟩ |⟨i,a,b⟩
    . exact .inl ⟨i,j,a,by omega,c⟩
    . exact .inr ⟨i,by omega,b⟩
  grind[cntTo,X4,Kb]
theorem I4{tk:List Int}: ∀(g:Nat) (c x:Int),x∈chain tk g c->∃u,u∈c::chain tk g c/\iget tk u=x/\x≠ -1
 | 0,c,x,hx=>by cases hx
 | g+1,c,x,hx=>by
  unfold chain at hx |-
  cases e:iget tk c== -1 with
  | true=>rw[e]at hx;cases hx
  | false=>
   rw[e]at hx;simp only[cond_false]at hx |-;rcases List.mem_cons.1 hx with rfl | hx
   . exact⟨c,by simp,rfl,by simpa using e⟩
   . obtain⟨u,u1,u2⟩:=I4 g _ x hx;exact⟨u,List.mem_cons_of_mem _ u1,u2⟩
section
variable {f : BFunc}
theorem bT(hle:f.leads)(hn:f.blocks≠[]):isBeen f.reach 0/\∀k,isBeen f.reach k->∀t∈Bs f.nexts k,isBeen f.reach t:=by
 have hnn:f.nexts≠[]:=by simpa[BFunc.nexts]using hn
 exact HP hnn (Uj hle)
theorem bS(hle:f.leads)(hn:f.blocks≠[])(k:Int):isBeen f.reach k↔Es f.nexts k:=by
 have hnn:f.nexts≠[]:=by simpa[BFunc.nexts]using hn
 exact Y0 hnn (Uj hle) k
theorem Zx(hle:f.leads)(hn:f.blocks≠[]):f.headOf 0=true:=Sz hle (t:=0) (bT hle hn).1 (fun i hi e=>by
 have:=Fk hle hi (by rw[e];decide);rw[e]at this;exact this.2.2.2.1 this.1.symm)
theorem ie{c d:Nat}(hle:f.leads)(hc:f.headOf c=true)(hd:f.headOf d=true)(h:(d:Int)∈Bb f.tk c):d=c:=by
 rcases List.mem_cons.1 h with h | h
 . omega
 . exfalso;obtain⟨u,u1,u2,u3⟩:=I4 _ _ _ h;have hcr:=ER hle (Da hle hc).1;have hur:0<=u/\u<f.blocks.length:=by
    have hl:f.tk.length=f.blocks.length:=AP f _;rcases List.mem_cons.1 u1 with rfl | hu
    . exact hcr
    . have hl':((f.takes f.reach).length:Int)=f.blocks.length:=by rw[AP]
      have:=Lf (Hn hle f.reach) f.tk.length c (by rw[hl'];exact hcr) u hu;rw[hl']at this;exact this
   exact(Da hle hd).2 u hur u2
end
section
variable {f : BFunc}
section
variable {g : BFunc}
end
end
section
variable {f : BFunc}
theorem bo(hle:f.leads){u v:Int}(hu:0<=u/\u<f.blocks.length)(hv:0<=v/\v<f.blocks.length)(h:iget f.tk u=iget f.tk v)(hne:iget f.tk u≠ -1):u=v:=by
 obtain⟨h1,h2,h3,h4⟩:=Fk hle hu hne;exact RF hle hv h.symm hne h2 (by rw[h1];simp[Block.nexts,h3])
theorem i5(hle:f.leads){u:Int}(hne:iget f.tk u≠ -1)(hu:0<=u/\u<f.blocks.length):0<=iget f.tk u/\iget f.tk u<f.blocks.length:=by
 have hl:f.tk.length=f.blocks.length:=AP f _;obtain⟨v,hv⟩:=Ae (l:=f.tk) (k:=u.toNat) (by omega);have hi:iget f.tk u=v:=by simp[iget,hv]
 rcases Hn hle f.reach v (List.mem_of_getElem? hv)with e | e
 . rw[hi]at hne;exact absurd e hne
 . rw[hi];have:(f.takes f.reach).length=f.blocks.length:=AP f _;omega
theorem XB(hle:f.leads){c:Nat}(hc:f.headOf c=true): ∀x∈Bb f.tk c,0<=x/\x<f.blocks.length:=fun x hx=>by
 have hl:f.tk.length=f.blocks.length:=AP f _;have hb:=ER hle (Da hle hc).1;rcases List.mem_cons.1 hx with rfl | hx
 . exact hb
 . have:=Lf (Hn hle f.reach) _ _ (by rw[show(f.takes f.reach).length=f.blocks.length from hl];exact hb) x hx;rw[show(f.takes f.reach).length=f.blocks.length from hl]at this;exact this
theorem path_disj(hle:f.leads){c d:Nat}(hc:f.headOf c=true)(hd:f.headOf d=true): ∀x,x∈Bb f.tk c->x∈Bb f.tk d->c=d:=by
 have gen: ∀(g:Nat) (a:Int),0<=a/\a<f.blocks.length->(a∈Bb f.tk d->c=d)->∀x∈a::chain f.tk g a,x∈Bb f.tk d->c=d:=by
  intro g
  induction g with
  | zero=>intro a ha h x hx;simp[chain]at hx;subst hx;exact h
  | succ g ih=>
   intro a ha h x hx;rcases List.mem_cons.1 hx with rfl | hx
   . exact h
   . unfold chain at hx
     by_cases e:iget f.tk a= -1
     . rw[show(iget f.tk a== -1)=true by simpa using e]at hx;cases hx
     . rw[show(iget f.tk a== -1)=false by simpa using e]at hx;refine ih (iget f.tk a) (i5 hle e ha) (fun h2=>?_) x hx;rcases List.mem_cons.1 h2 with e2 | h2
       . exact absurd e2 ((Da hle hd).2 a ha)
       . obtain⟨u,hu,hu2,_⟩:=I4 _ _ _ h2;have hur:=XB hle hd u hu;have:=bo hle hur ha hu2 (by rw[hu2];exact e);subst this;exact h hu
 grind[ER,Da,ie,Bb]
theorem We(hle:f.leads){c:Nat}(hc:f.headOf c=true):(Bb f.tk c).Nodup:=by
 have gen: ∀(g:Nat) (a:Int) (pre:List Int),(pre++[a]).Nodup->(∀y∈pre++[a],y=(c:Int)\/∃u∈pre,iget f.tk u=y)->(∀y∈pre++[a],0<=y/\y<f.blocks.length)->(pre++(a::chain f.tk g a)).Nodup:=by
  intro g
  induction g with
  | zero=>intro a pre h1 _ _;exact h1
  | succ g ih=>
   intro a pre h1 h2 h3;unfold chain
   by_cases e:iget f.tk a= -1
   . rw[show(iget f.tk a== -1)=true by simpa using e];exact h1
   . rw[show(iget f.tk a== -1)=false by simpa using e];have ha:=h3 a (by simp);have hy:iget f.tk a∉pre++[a]:=fun hm=>by
      rcases h2 _ hm with e2 |⟨u,hu,hu2⟩
      . exact(Da hle hc).2 a ha e2
      . have:=bo hle (h3 u (by simp[hu])) ha hu2 (by rw[hu2];exact e);subst this;rw[List.nodup_append]at h1;exact h1.2.2 u hu u (by simp) rfl
     have:=ih (iget f.tk a) (pre++[a]) (List.nodup_append.2 ⟨h1,by simp,fun x hx y hy2 e2=>by rw[List.mem_singleton.1 hy2]at e2;subst e2;exact hy hx⟩) (fun y hy2=>by
      rcases List.mem_append.1 hy2 with h | h
      . rcases h2 y h with e2 |⟨u,hu,hu2⟩
        . exact .inl e2
        . exact .inr ⟨u,by simp[hu],hu2⟩
      . rw[List.mem_singleton.1 h];exact .inr ⟨a,by simp,rfl⟩) (fun y hy2=>by
      rcases List.mem_append.1 hy2 with h | h
      . exact h3 y h
      . rw[List.mem_singleton.1 h];exact i5 hle e ha)
     rw[List.append_assoc]at this;exact this
 have:=gen f.tk.length c [] (by simp) (fun y hy=>.inl (by simpa using hy)) (fun y hy=>by rw[show y=(c:Int) by simpa using hy];exact ER hle (Da hle hc).1);exact this
theorem N8(hle:f.leads): ∀m,(f.pathsTo m).flatten.Nodup/\∀x∈(f.pathsTo m).flatten,∃k,k<m/\f.headOf k=true/\x∈Bb f.tk k
 | 0=>⟨by simp[BFunc.pathsTo],fun x hx=>by simp[BFunc.pathsTo]at hx⟩
 | m+1=>by
  obtain⟨i1,i2⟩:=N8 hle m
  cases e:f.headOf m with
  | false=>rw[E6 e];exact⟨i1,fun x hx=>by obtain⟨k,k1,k2,k3⟩:=i2 x hx;exact⟨k,by omega,k2,k3⟩⟩
  | true=>
   rw[DU e,List.flatten_append];refine⟨List.nodup_append.2 ⟨i1,by simpa using We hle e,fun x hx y hy e2=>?_⟩,fun x hx=>?_⟩
   . subst e2;obtain⟨k,k1,k2,k3⟩:=i2 x hx;have:=path_disj hle k2 e x k3 (by simpa using hy);omega
   . rcases List.mem_append.1 hx with hx | hx
     . obtain⟨k,k1,k2,k3⟩:=i2 x hx;exact⟨k,by omega,k2,k3⟩
     . exact⟨m,by omega,e,by simpa using hx⟩
def J3(w:Int->Nat)(l:List Int):Nat:=(l.map w).sum
theorem No{w:Int->Nat}{x:Int}: ∀{m:List Int},x∈m->w x+J3 w (m.erase x)=J3 w m
 | [],h=>by cases h
 | y::m,h=>by
  rw[List.erase_cons]
  by_cases e:y=x
  . subst e;simp[J3]
  . rw[show(y==x)=false by simpa using e];have hxm:x∈m:=(List.mem_cons.1 h).resolve_left (fun h=>e h.symm);have:=No (w:=w) hxm;simp only[J3,List.map_cons,List.sum_cons]at this |-;simp only[if_neg Bool.false_ne_true,List.map_cons,List.sum_cons];omega
theorem W0{w:Int->Nat}: ∀(l m:List Int),l.Nodup->(∀x∈l,x∈m)->J3 w l<=J3 w m
 | [],m,_,_=>Nat.zero_le _
 | x::l,m,h1,h2=>by
  obtain⟨g1,g2⟩:=List.nodup_cons.1 h1;have hx:=h2 x (by simp);have:=W0 (w:=w) l (m.erase x) g2 fun y hy=>(List.mem_erase_of_ne (fun e=>g1 (by subst e;exact hy))).2 (h2 y (by simp[hy]))
  grind[No,J3]
theorem PW{w:Int->Nat}: ∀(ps:List (List Int)),J3 w ps.flatten=(ps.map (J3 w)).sum
 | []=>rfl
 | p::ps=>by
  rw[List.flatten_cons,List.map_cons,List.sum_cons,<-PW ps];simp[J3]
theorem Uz(p:List Int):(f.joined p).length+p.length=J3 (fun i=>(f.blockAt i).count) p:=by
 induction p with
 | nil=>rfl
 | cons i r ih=>
  grind[BFunc.joined,List.length_append,J3,Block.count]
theorem V2(f:BFunc):J3 (fun i=>(f.blockAt i).count) ((List.range f.blocks.length).map fun(k:Nat)=>(k:Int))=f.count:=by
 unfold J3 BFunc.count;rw[List.map_map];congr 1;apply List.ext_getElem?;intro k;rw[List.getElem?_map,List.getElem?_map]
 by_cases hk:k<f.blocks.length
 . obtain⟨x,hx⟩:=Ae hk;rw[List.getElem?_range hk,hx];simp[BFunc.blockAt,hx]
 . rw[List.getElem?_eq_none (by simp;omega),List.getElem?_eq_none (by omega)];rfl
theorem Nz(hle:f.leads):f.tidy.count<=f.count:=by
 obtain⟨h1,h2⟩:=N8 hle f.blocks.length;rw[<-V2 f];refine Nat.le_trans ?_ (W0 (w:=fun i=>(f.blockAt i).count) f.tpaths.flatten _ h1 fun x hx=>?_)
 . rw[PW];show((f.tpaths.map f.newBlock).map Block.count).sum<=_;rw[List.map_map];have key: ∀(ps:List (List Int)),(∀p∈ps,p≠[])->(ps.map (Block.count∘f.newBlock)).sum<=(ps.map (J3 fun i=>(f.blockAt i).count)).sum:=by
    intro ps
    induction ps with
    | nil=>intro _;exact Nat.le_refl _
    | cons p ps ih=>
     intro hp;simp only[List.map_cons,List.sum_cons];have h3:=ih fun q hq=>hp q (by simp[hq])
     have h4:=Uz (f:=f) p;have h5:p.length≠0:=fun e=>hp p (by simp) (List.length_eq_zero_iff.1 e)
     have h6:(Block.count∘f.newBlock) p=1+(f.joined p).length:=rfl;omega
   refine key _ fun p hp=>?_
   obtain⟨k,_,_,rfl⟩:=Ju hle _ hp;exact List.cons_ne_nil _ _
 . obtain⟨k,k1,k2,k3⟩:=h2 x hx;have:=XB hle k2 x k3;exact List.mem_map.2 ⟨x.toNat,List.mem_range.2 (by omega),by omega⟩
end
def need(v:Nat):List Tac->Bool->Bool
  | [],z=>z
  | t::r,z=>t.uses.contains (v:Int)||(!(t.sets==(v:Int))&&need v r z)
theorem Hw(v:Nat)(l2:List Tac)(z:Bool): ∀l1,need v (l1++l2) z=need v l1 (need v l2 z)
 | []=>rfl
 | t::r=>by rw[List.cons_append,need,need,Hw v l2 z r]
theorem By{v:Nat}{z z':Bool}(h:z=true->z'=true): ∀{l},need v l z=true->need v l z'=true
 | [],e=>h e
 | t::r,e=>by
  have ih:=By (v:=v) h (l:=r)
  grind[need]
theorem XF(v:Nat)(a b:Bool): ∀l,need v l (a||b)=(need v l a||need v l b)
 | []=>rfl
 | t::r=>by
  unfold need;rw[XF v a b r]
  grind
theorem Om{v:Nat}{t:Tac}{l1 l2:List Tac}{z:Bool}(h:t.sets=(v:Int)->need v l2 z=false)(hn:need v (l1++l2) z=true):need v (l1++t::l2) z=true:=by
 grind[Hw,By,need]
theorem LS{v:Nat}{t:Tac}{l1 l2:List Tac}{z:Bool}(h:t.uses.contains (v:Int)=false)(hn:need v (l1++t::l2) z=true):need v (l1++l2) z=true:=by
 grind[Hw,By,need]
def Df(x:Block)(v:Nat):Bool:=x.fin==2&&x.v==(v:Int)
inductive Dq(f:BFunc)(v:Nat):Nat->Prop
  | here {c:Nat} {x:Block}:f.blocks[c]?=some x->need v x.ins (Df x v)=true->Dq f v c
  | thru {c:Nat} {d:Int} {x:Block}:f.blocks[c]?=some x->need v x.ins true=true->d∈x.nexts->Dq f v d.toNat->Dq f v c
open Classical in
noncomputable def UC(f:BFunc)(v c:Nat):Bool:=decide (Dq f v c)
noncomputable def outB(f:BFunc)(x:Block)(v:Nat):Bool:=x.nexts.any fun d=>UC f v d.toNat
noncomputable def endB(f:BFunc)(x:Block)(v:Nat):Bool:=Df x v||outB f x v
theorem inB_iff{f:BFunc}{v c:Nat}:UC f v c=true↔Dq f v c:=by unfold UC;simp
theorem outB_iff{f:BFunc}{x:Block}{v:Nat}:outB f x v=true↔ ∃d∈x.nexts,Dq f v d.toNat:=by
 grind[outB,List.any_eq_true,inB_iff]
theorem Wr{f:BFunc}{v c:Nat}{x:Block}(hx:f.blocks[c]?=some x):UC f v c=need v x.ins (endB f x v):=by
 rw[Bool.eq_iff_iff,inB_iff];constructor
 . intro h
   cases h with
   | here h1 h2=>rw[hx]at h1;cases h1;exact By (fun e=>by unfold endB;rw[e];rfl) h2
   | thru h1 h2 h3 h4=>rw[hx]at h1;cases h1;exact By (fun _=>by unfold endB;rw[outB_iff.2 ⟨_,h3,h4⟩,Bool.or_true]) h2
 . intro h;unfold endB at h;rw[XF,Bool.or_eq_true]at h;rcases h with h | h
   . exact .here hx h
   . cases ho:outB f x v with
     | true=>rw[ho]at h;obtain⟨d,h1,h2⟩:=outB_iff.1 ho;exact .thru hx h h1 h2
     | false=>rw[ho]at h;exact .here hx (By (fun e=>by cases e) h)
theorem OD{f:BFunc}{v:Nat}{I:Nat->Bool}(hc: ∀c x,f.blocks[c]?=some x->need v x.ins (Df x v||x.nexts.any fun d=>I d.toNat)=true->I c=true): ∀{c},Dq f v c->I c=true:=by
 intro c h
 induction h with
 | here h1 h2=>exact hc _ _ h1 (By (fun e=>by rw[e];rfl) h2)
 | @thru c d x h1 h2 h3 _ ih=>exact hc _ _ h1 (By (fun _=>by rw[List.any_eq_true.2 ⟨d,h3,ih⟩,Bool.or_true]) h2)
def Tac.pure(t:Tac):Bool:=t.op==1||(t.op==2||(t.op==4||(t.op==3&&(!(t.k==7)&& !(t.k==8)))))
def Block.mid(x:Block)(l:List Tac):Block:={x with ins:=l}
def BFunc.putB(f:BFunc)(c:Nat)(x:Block):BFunc:={f with blocks:=f.blocks.set c x}
structure EZ(f g:BFunc)(c:Nat)(x:Block)(l1:List Tac)(t:Tac)(l2:List Tac)(v:Nat):Prop where
  hx:f.blocks[c]?=some x
  hi:x.ins=l1++t::l2
  pure:t.pure=true
  hv:t.sets=(v:Int)
  dead:need v l2 (endB f x v)=false
  hg:g=f.putB c (x.mid (l1++l2))
def aH(f g:BFunc):Prop:=∃c x l1 t l2 v,EZ f g c x l1 t l2 v
theorem D9{f:BFunc}{c:Nat}{x y:Block}(hx:f.blocks[c]?=some x):(f.putB c y).blocks[c]?=some y:=by
 have hc:=(List.getElem?_eq_some_iff.1 hx).1;exact List.getElem?_set_self hc
theorem GV{f:BFunc}{c d:Nat}{y:Block}(h:c≠d):(f.putB c y).blocks[d]?=f.blocks[d]?:=List.getElem?_set_ne h
theorem IF(f:BFunc)(c:Nat)(y:Block):(f.putB c y).blocks.length=f.blocks.length:=List.length_set
theorem Pg{f g:BFunc}{c:Nat}{x:Block}{l1 l2:List Tac}{t:Tac}{v:Nat}(h:EZ f g c x l1 t l2 v){w:Nat}{z:Bool}(hz:z=true->endB f x w=true):t.sets=(w:Int)->need w l2 z=false:=by
 intro e;have hvw:v=w:=by have:=h.hv.symm.trans e;omega
 subst hvw
 cases hn:need v l2 z with
 | false=>rfl
 | true=>exact(h.dead.symm.trans (By hz hn)).symm▸rfl
theorem QJ{f g:BFunc}{c:Nat}{x:Block}{l1 l2:List Tac}{t:Tac}{v:Nat}(h:EZ f g c x l1 t l2 v){w d:Nat}(hl:Dq g w d):Dq f w d:=by
 have hg:=h.hg
 induction hl with
 | @here d y h1 h2=>
  by_cases hcd:c=d
  . subst hcd;rw[hg,D9 h.hx]at h1;cases h1;refine .here h.hx ?_;rw[h.hi];exact Om (Pg h (fun e=>by unfold endB;rw[show Df x w=true from e];rfl)) h2
  . rw[hg,GV hcd]at h1;exact .here h1 h2
 | @thru d e y h1 h2 h3 h4 ih=>
  by_cases hcd:c=d
  . subst hcd;rw[hg,D9 h.hx]at h1;cases h1;refine .thru h.hx ?_ h3 ih;rw[h.hi];have h3':e∈x.nexts:=h3;exact Om (Pg h (fun _=>by unfold endB;rw[outB_iff.2 ⟨_,h3',ih⟩,Bool.or_true])) h2
  . rw[hg,GV hcd]at h1;exact .thru h1 h2 h3 ih
theorem XI{f g:BFunc}{c:Nat}{x:Block}{l1 l2:List Tac}{t:Tac}{v:Nat}(h:EZ f g c x l1 t l2 v){w d:Nat}(hw:t.uses.contains (w:Int)=false)(hl:Dq f w d):Dq g w d:=by
 have hg:=h.hg
 induction hl with
 | @here d y h1 h2=>
  by_cases hcd:c=d
  . subst hcd;rw[h.hx]at h1;cases h1;rw[h.hi]at h2;exact .here (x:=x.mid (l1++l2)) (by rw[hg];exact D9 h.hx) (LS hw h2)
  . exact .here (by rw[hg,GV hcd];exact h1) h2
 | @thru d e y h1 h2 h3 h4 ih=>
  by_cases hcd:c=d
  . subst hcd;rw[h.hx]at h1;cases h1;rw[h.hi]at h2;exact .thru (x:=x.mid (l1++l2)) (by rw[hg];exact D9 h.hx) (LS hw h2) h3 ih
  . exact .thru (by rw[hg,GV hcd];exact h1) h2 h3 ih
theorem L8{f g:BFunc}{c:Nat}{x:Block}{l1 l2:List Tac}{t:Tac}{v:Nat}(h:EZ f g c x l1 t l2 v){y y':Block}(hy:y'.fin=y.fin/\y'.v=y.v/\y'.nexts=y.nexts){w:Nat}(e:endB g y' w=true):endB f y w=true:=by
 grind[endB,Df,outB_iff,QJ]
theorem Nf{f g:BFunc}{c:Nat}{x:Block}{l1 l2:List Tac}{t:Tac}{v:Nat}(h:EZ f g c x l1 t l2 v){y y':Block}(hy:y'.fin=y.fin/\y'.v=y.v/\y'.nexts=y.nexts){w:Nat}(hw:t.uses.contains (w:Int)=false)(e:endB f y w=true):endB g y' w=true:=by
 grind[endB,Df,outB_iff,XI]
theorem Uf(x:Block)(l:List Tac):(x.mid l).fin=x.fin/\(x.mid l).v=x.v/\(x.mid l).nexts=x.nexts:=⟨rfl,rfl,rfl⟩
theorem false_of{a b:Bool}(h:a=true->b=true)(hb:b=false):a=false:=by cases a with | false=>rfl | true=>rw[h rfl]at hb;cases hb
theorem Rk{f g1 g2:BFunc}{c1 c2:Nat}{x1 x2:Block}{l1 l2 m1 m2:List Tac}{t u:Tac}{v w:Nat}(h1:EZ f g1 c1 x1 l1 t l2 v)(h2:EZ f g2 c2 x2 m1 u m2 w)(hne:c1≠c2):
 EZ g1 (g1.putB c2 (x2.mid (m1++m2))) c2 x2 m1 u m2 w where
 hx:=by rw[h1.hg,GV hne];exact h2.hx
 hi:=h2.hi
 pure:=h2.pure
 hv:=h2.hv
 dead:=false_of (By (L8 h1 ⟨rfl,rfl,rfl⟩)) h2.dead
 hg:=rfl
theorem Ph{f g1 g2:BFunc}{c:Nat}{x:Block}{l1 k m2:List Tac}{t u:Tac}{v w:Nat}(h1:EZ f g1 c x l1 t (k++u::m2) v)(h2:EZ f g2 c x (l1++t::k) u m2 w):
 EZ g1 (f.putB c (x.mid (l1++k++m2))) c (x.mid (l1++(k++u::m2))) (l1++k) u m2 w/\EZ g2 (f.putB c (x.mid (l1++k++m2))) c (x.mid ((l1++t::k)++m2)) l1 t (k++m2) v:=by
 have hpp: ∀(y z:Block),(f.putB c y).putB c z=f.putB c z:=fun y z=>by unfold BFunc.putB;rw[List.set_set]
 constructor
 . exact {hx:=by rw[h1.hg];exact D9 h1.hx,hi:=by simp[Block.mid],pure:=h2.pure,hv:=h2.hv,dead:=false_of (By (L8 h1 (Uf _ _))) h2.dead,hg:=by rw[h1.hg,hpp];rfl}
 . refine {hx:=by rw[h2.hg];exact D9 h1.hx,hi:=by simp[Block.mid],pure:=h1.pure,hv:=h1.hv,dead:=?_,hg:=by rw[h2.hg,hpp];simp[Block.mid]};refine false_of (fun e=>?_) h1.dead
   grind[Om,Pg,By,L8,Uf,BFunc.putB,Block.mid]
theorem U4{f g1 g2:BFunc}(h1:aH f g1)(h2:aH f g2):g1=g2\/∃h,aH g1 h/\aH g2 h:=by
 obtain⟨c1,x1,l1,t,l2,v,h1⟩:=h1;obtain⟨c2,x2,m1,u,m2,w,h2⟩:=h2
 by_cases hc:c1=c2
 . subst hc;have hx:=h1.hx.symm.trans h2.hx;cases hx;have he:=h1.hi.symm.trans h2.hi;rcases List.append_eq_append_iff.1 he with⟨k,hk1,hk2⟩ |⟨k,hk1,hk2⟩
   . cases k with
     | nil=>
      exact iV
     | cons a k=>
      simp only[List.cons_append,List.cons.injEq]at hk2;obtain⟨e1,e2⟩:=hk2;subst e1;subst e2;subst hk1;have:=Ph h1 h2;exact .inr ⟨_,⟨_,_,_,_,_,_,this.1⟩,⟨_,_,_,_,_,_,this.2⟩⟩
   . cases k with
     | nil=>
      exact iV
     | cons a k=>
      simp only[List.cons_append,List.cons.injEq]at hk2;obtain⟨e1,e2⟩:=hk2;subst e1;subst e2;subst hk1;have:=Ph h2 h1;exact .inr ⟨_,⟨_,_,_,_,_,_,this.2⟩,⟨_,_,_,_,_,_,this.1⟩⟩
 . have a1:=Rk h1 h2 hc;have a2:=Rk h2 h1 (Ne.symm hc);refine .inr ⟨_,⟨_,_,_,_,_,_,a1⟩,?_⟩;have e:g1.putB c2 (x2.mid (m1++m2))=g2.putB c1 (x1.mid (l1++l2)):=by
    rw[h1.hg,h2.hg];unfold BFunc.putB;simp only;rw[List.set_comm _ _ hc]
   rw[e];exact⟨_,_,_,_,_,_,a2⟩
def dy(f:BFunc):Nat:=(f.blocks.map fun x=>x.ins.length).sum
theorem Xd{α:Type}{p:α->Nat}{y:α}: ∀{l:List α} {c:Nat} {x:α},l[c]?=some x->((l.set c y).map p).sum+p x=(l.map p).sum+p y
 | [],c,x,h=>by simp at h
 | a::l,0,x,h=>by simp at h;subst h;simp;omega
 | a::l,c+1,x,h=>by
  have ih:=Xd (p:=p) (y:=y) (l:=l) (c:=c) (x:=x) (by simpa using h)
  grind
theorem G2{f g:BFunc}(h:aH f g):dy g+1=dy f:=by
 obtain⟨c,x,l1,t,l2,v,h⟩:=h;have:=Xd (p:=fun(x:Block)=>x.ins.length) (y:=x.mid (l1++l2)) h.hx;have hl:=congrArg List.length h.hi;rw[h.hg];unfold dy BFunc.putB;simp only[Block.mid,List.length_append,List.length_cons]at this hl |-;omega
inductive Cuts:BFunc->BFunc->Prop
  | refl (f:BFunc):Cuts f f
  | step {f g h:BFunc}:aH f g->Cuts g h->Cuts f h
theorem Cuts.trans{f g h:BFunc}(h1:Cuts f g)(h2:Cuts g h):Cuts f h:=by
 induction h1 with
 | refl=>exact h2
 | step a _ ih=>exact .step a (ih h2)
theorem Cuts.one{f g:BFunc}(h:aH f g):Cuts f g:=.step h (.refl g)
def Clean(f:BFunc):Prop:=∀g,¬aH f g
theorem Kn: ∀(n:Nat) (f:BFunc),dy f<=n->∃g,Cuts f g/\Clean g
 | 0,f,h=>⟨f,.refl f,fun g hg=>by have:=G2 hg;omega⟩
 | n+1,f,h=>by
  by_cases hc:Clean f
  . exact⟨f,.refl f,hc⟩
  . have⟨g,hg⟩: ∃g,aH f g:=Classical.not_forall_not.1 hc
    obtain⟨k,h1,h2⟩:=Kn n g (by have:=G2 hg;omega);exact⟨k,.step hg h1,h2⟩
theorem SP: ∀(n:Nat) (f:BFunc),dy f<=n->∀{g h},Cuts f g->Clean g->Cuts f h->Clean h->g=h:=by
 intro n
 induction n with
 | zero=>
  intro f hn g h h1 c1 h2 c2
  cases h1 with
  | step a _=>have:=G2 a;omega
  | refl=>
   cases h2 with
   | refl=>rfl
   | step a _=>have:=G2 a;omega
 | succ n ih=>
  intro f hn g h h1 c1 h2 c2
  cases h1 with
  | refl=>
   cases h2 with
   | refl=>rfl
   | step a _=>exact absurd a (c1 _)
  | @step _ g' _ a1 b1=>
   cases h2 with
   | refl=>exact absurd a1 (c2 _)
   | @step _ h' _ a2 b2=>
    have i1:=G2 a1;have i2:=G2 a2;rcases U4 a1 a2 with e |⟨k,k1,k2⟩
    . subst e;exact ih g' (by omega) b1 c1 b2 c2
    . obtain⟨m,m1,m2⟩:=Kn _ k (Nat.le_refl _);exact(ih g' (by omega) b1 c1 (.step k1 m1) m2).trans (ih h' (by omega) (.step k2 m1) m2 b2 c2)
theorem WG(f:BFunc): ∃g,Cuts f g/\Clean g:=Kn _ f (Nat.le_refl _)
noncomputable def Vp(f:BFunc):BFunc:=Classical.choose (WG f)
theorem GE(f:BFunc):Cuts f (Vp f):=(Classical.choose_spec (WG f)).1
theorem ZS(f:BFunc):Clean (Vp f):=(Classical.choose_spec (WG f)).2
theorem lD{f g:BFunc}(h1:Cuts f g)(h2:Clean g):g=Vp f:=SP _ f (Nat.le_refl _) h1 h2 (GE f) (ZS f)
end Go.Proofs.YtbbfelelocccmaaGreat.Sv
