/-
  AN EVALUATOR FOR INPUTS THAT ARE KNOWN (8): maps whose keys are arrays of numbers, arrays, slices, strings of bytes. Own work, over no program.
-/
import Derived.Test.YtbbfelelocccmaaGreatPOptimizeSteps4
import Derived.Test.YtbbfelelocccmaaGreatPOptimizeSteps3
import Derived.Test.YtbbfelelocccmaaGreatPOptimizeSteps2
import Derived.Maps.RangeRun
set_option linter.unusedVariables false
set_option linter.unusedSimpArgs false
set_option maxRecDepth 100000
set_option maxHeartbeats 2000000
namespace Go.Proofs.YtbbfelelocccmaaGreat.Sv
open Go
def IJ(K:IntKind):List AV->Option (List Int)
  | []=>some []
  | .int K' z::r=>match decide (K'=K),IJ K r with
    |true,some l=>some (z::l)
    |_,_=>none
  |_::_=>none
theorem Ea{K:IntKind}:∀{l:List AV} {z:List Int},IJ K l=some z->l=arrAV K z
 | [],z,h=>by simp[IJ]at h;subst h;rfl
 |x::r,z,h=>by
  cases x with
  |int K' n=>
   unfold IJ at h;split at h
   . rename_i l h1 h2;simp only[q53]at h;subst h;have:=q58 h1;subst this;rw[Ea h2];rfl
   . cases h
  |_=>simp[IJ]at h
def unkvA(K:IntKind)(n:Nat):List (AV×AV)->Option IU
  | []=>some []
  |(.agg ks,v)::r=>match IJ K ks,unkvA K n r with
    |some z,some m=>match Nat.beq z.length n with
      |true=>some ((z,v)::m)
      |false=>none
    |_,_=>none
  |_::_=>none
theorem KF{K:IntKind}{n:Nat}:∀{l:List (AV×AV)} {m:IU},unkvA K n l=some m->l=GC K m/\∀p∈m,p.1.length=n
 | [],m,h=>by simp[unkvA]at h;subst h;exact⟨rfl,fun p hp=>by cases hp⟩
 |(k,v)::r,m,h=>by
  cases k with
  |agg ks=>
   unfold unkvA at h;split at h
   . rename_i z m' h1 h2;split at h
     . rename_i h3;simp only[q53]at h;subst h;obtain⟨a1,a2⟩:=KF h2;refine⟨by rw[a1,Ea h1];rfl,fun p hp=>?_⟩;rcases q99.1 hp with rfl|hp
       . exact q25 h3
       . exact a2 p hp
     . cases h
   . cases h
  |_=>simp[unkvA]at h
def arrTy(P:Program)(T:Nat->Option Av)(t:Nat):Option (Nat×IntKind):=match T t with
  |some i=>match i.k with
    | .array n e0=>match T e0,Nat.beq (P.cellsOf e0) 1 with
      |some j,true=>match intOf j.k with
        |some K=>some (n,K)
        |none=>none
      |_,_=>none
    |_=>none
  |none=>none
variable {P : Program} {T : Nat -> Option Av} {K : IntKind}
theorem ID{t n:Nat}(h:arrTy P T t=some (n,K)):∃i e0 j,T t=some i/\i.k=.array n e0/\T e0=some j/\j.k=.int K/\P.cellsOf e0=1:=by
 unfold arrTy at h;split at h
 . rename_i i hi;split at h
   . rename_i n' e0 hk;split at h
     . rename_i j hj hc;split at h
       . rename_i K' hK;simp only[q53,q98]at h;obtain⟨rfl,rfl⟩:=h;exact⟨i,e0,j,hi,hk,hj,KV hK,q25 hc⟩
       . cases h
     . cases h
   . cases h
 . cases h
def Tv(P:Program)(T:Nat->Option Av)(t:Nat):Option (Nat×IntKind×Nat):=match T t with
  |some i=>match i.k with
    | .map kt et=>match arrTy P T kt with
      |some (n,K)=>some (n,K,et)
      |none=>none
    |_=>none
  |none=>none
theorem NB{t n et:Nat}(h:Tv P T t=some (n,K,et)):∃i kt,T t=some i/\i.k=.map kt et/\arrTy P T kt=some (n,K):=by
 unfold Tv at h;split at h
 . rename_i i hi;split at h
   . rename_i kt et' hk;split at h
     . rename_i n' K' ha;simp only[q53,q98]at h;obtain⟨rfl,rfl,rfl⟩:=h;exact⟨i,kt,hi,hk,ha⟩
     . cases h
   . cases h
 . cases h
variable {o : Oper} {e : Ax} {h : Ad}
variable {t : TypeId} {x : Operand} {p : Bool} {sz : Nat}
theorem XG(hT:CE P T){y:Operand}{b n off len:Nat}{i j:Av}{u:Nat}{k:IntKind}(ho:o.op=.slice t x (some y) none none)(hx:An e x=some (.ref b n off len))(hy:An e y=some (.int k (len:Int)))(ht:T t=some i)(hk:i.k=.slice u)(hj:T u=some j)
 {es:List (List AV)} (hb:h b=some (.row p sz es)) (hn:n=es.length) (h0:0<es.length):QLoc P o e h [b] (.lst false []):=by
 intro H ι a w s hs g1 g2;have hx':An s.env x=some (.ref b n off len):=by rw[g1 x Bx,hx]
 have hy':An s.env y=some (.int k (len:Int)):=by rw[g1 y Bx,hy]
 have hb':s.h b=some (.row p sz es):=by rw[g2 b z145q,hb]
 obtain⟨info,d,e1,e2,e3,e4,e5,e6⟩:=Am (hT _ _ ht);obtain⟨info',d',e1',e2',e3',e4',e5',e6'⟩:=Am (hT _ _ hj);have hd:=BF (P:=P) (d:=d) (e3▸hk);subst hd;have hvx:=Ao hs hx';have hvy:=(Ao hs hy').int_inv;generalize hva:a.eval x=va at hvx;obtain⟨r,r1,⟨o1,o2,o3,o4,o5,o6⟩,_⟩:=hs.heap.obj b _ hb' rfl;have hcs:r.csz≠0:=by
  have:0<es.length*sz:=Nat.mul_pos h0 o2;omega
 obtain⟨hle,cap,rfl,c1,c2,c3⟩:=Rel.ref_live hvx r1 (by rw[hn,o3]) hcs;refine⟨.slice (if cap-len=0 then(some ⟨r.rb,off*r.sz,none⟩)else(some ⟨r.rb,off*r.sz,none⟩:Option Addr).map (·.add (len*j.size))) (len-len) (cap-len),?_,?_⟩
 . rw[Nat.sub_self];exact .lst0 _ _ _ _ EU z144q (fun hh=>by split at hh<;>cases hh) trivial
 . simp only[execOp,ho,hva,hvy,Instr.sliceAt,Instr.slice,Option.map_none,q80,qQ9,Aq e2,q57,Gx e1',e4',qX1];have hce:(cap=len)=(cap-len=0):=propext z144q;simp[Instr.sliceBounds,Instr.sliceBound,asIntOf,c1,hce]
theorem XI(hT:CE P T){u:TypeId}{l:List UInt8}{i j k:Av}{v:Nat}{b n:Nat}(ho:o.op=.convert t u x)(hx:An e x=some (.ref b n 0 n))(hb:h b=some (.row p 1 (E3 l)))(hn:n=l.length)(h0:0<l.length)
 (hi:T t=some i) (hik:i.k=.slice v) (hv:T v=some k) (hk:k.k=.int .u8) (hj:T u=some j) (hjk:j.k=.string):QLoc P o e h [b] (.str ⟨l.toArray⟩):=by
 intro H ι a w s hs g1 g2;have hx':An s.env x=some (.ref b n 0 n):=by rw[g1 x Bx,hx]
 have hb':s.h b=some (.row p 1 (E3 l)):=by rw[g2 b z145q,hb]
 obtain⟨info,d,e1,e2,e3,e4,e5,e6⟩:=Am (hT _ _ hi);obtain⟨info',d',e1',e2',e3',e4',e5',e6'⟩:=Am (hT _ _ hj);obtain⟨info'',d'',e1'',e2'',e3'',e4'',e5'',e6''⟩:=Am (hT _ _ hv);have hd:=BF (P:=P) (d:=d) (e3▸hik);subst hd;have hd:=Mo (P:=P) (d:=d') (e3'▸hjk);subst hd;have hd:=Hw (P:=P) (d:=d'') (e3''▸hk);subst hd;have hvx:=Ao hs hx';generalize hva:a.eval x=va at hvx;obtain⟨r,r1,⟨o1,o2,o3,o4,o5,o6⟩,_⟩:=hs.heap.obj b _ hb' rfl;have hlen:(E3 l).length=l.length:=by simp[E3]
 have hcs:r.csz≠0:=by omega
 obtain⟨hle,cap,rfl,c1,c2,c3⟩:=Rel.ref_live hvx r1 z144q hcs;obtain⟨c,TT,d1,d2,d3,d4⟩:=o6 hcs;refine⟨_,.str _ _,?_⟩;simp only[execOp,ho,hva,qQ9];have key:(Go.convert t u (.slice (some ⟨r.rb,0*r.sz,none⟩) n cap)).run P w=.ok (.string ⟨l.toArray⟩) w:=by
  rw[run_convert_bytes_string w t u v (some ⟨r.rb,0*r.sz,none⟩) n cap e2 e2'' e2'];rw[run_bytesToString w _ _ cap (l.map (fun b:UInt8=>((b.toNat:Nat):Int))) ?_,gz];have hld:=run_loadCells_list (P:=P) (w:=w) ⟨r.rb,0*r.sz,none⟩ (l.map (fun b:UInt8=>Value.int .u8 b.toNat)) (fun j y hj=>by
   rw[q54]at hj
   cases hlj:l[j]? with
   |none=>rw[hlj]at hj;cases hj
   |some m=>
    rw[hlj]at hj
    cases hj
    have hbc:(E3 l)[j]?=some [AV.int .u8 m.toNat]:=by simp[E3,hlj]
    obtain⟨v',q1,q2,q3⟩:=d4 j _ 0 _ hbc rfl;rw[Gl,d1.cell,Nat.zero_mul,qQ8];rw[q2.int_inv,Nat.mul_one,qX5]at q1;exact q1)
  rw[hn];simpa[List.map_map,Function.comp_def]using hld
 simp only[key,q57,qX1]
def Ld:List (List AV)->Option (List UInt8)
  | []=>some []
  | [.int .u8 z]::r=>match decide (((UInt8.ofNat z.toNat).toNat:Int)=z),Ld r with
    |true,some l=>some (UInt8.ofNat z.toNat::l)
    |_,_=>none
  |_::_=>none
theorem Lc:∀{es:List (List AV)} {l:List UInt8},Ld es=some l->es=E3 l
 | [],l,h=>by simp[Ld]at h;subst h;rfl
 |cs::r,l,h=>by
  unfold Ld at h;split at h
  . rename_i he;cases he
  . rename_i z r' he
    cases he
    split at h
    . rename_i l' h1 h2;simp only[q53]at h;subst h;have h1:=q58 h1;have:=Lc h2;rw[this];simp only[E3,qQ0,h1]
    . cases h
  . cases h
def qg(P:Program)(T:Nat->Option Av)(o:Op)(e:Ax)(h:Ad):Option (List Nat×AV):=
  match o with
  | .lookup t x y true=>match An e x,An e y,Tv P T t with
    |some (.map b),some (.agg ks),some (n,K,et)=>match h b,SH P et,IJ K ks with
      |some (.map l),some z0,some z=>match unkvA K n l,Nat.beq z.length n with
        |some m,true=>some ([b],.tup [(dA z m).getD z0,.bool (dA z m).isSome])
        |_,_=>none
      |_,_,_=>none
    |_,_,_=>none
  | .build t parts=>match BM e parts.toList,T t with
    |some ps,some i=>match i.k with
      | .array len u=>match T u with
        |some j=>match IW i,Fe T (SF len j.size u) ps,partCells (SF len j.size u) ps i.zero with
          |true,true,some r=>some ([],.agg r)
          |_,_,_=>none
        |none=>none
      |_=>none
    |_,_=>none
  | .binOp .eql t x y _=>match An e x,An e y,arrTy P T t with
    |some (.agg xs),some (.agg ys),some (n,K)=>match IJ K xs,IJ K ys,P.eqGuardType P.depth t with
      |some l1,some l2,false=>match Nat.beq l1.length n,Nat.beq l2.length n with
        |true,true=>some ([],.bool (decide (l1=l2)))
        |_,_=>none
      |_,_,_=>none
    |_,_,_=>none
  | .binOp .neq t x y _=>match An e x,An e y,arrTy P T t with
    |some (.agg xs),some (.agg ys),some (n,K)=>match IJ K xs,IJ K ys,P.eqGuardType P.depth t with
      |some l1,some l2,false=>match Nat.beq l1.length n,Nat.beq l2.length n with
        |true,true=>some ([],.bool (!decide (l1=l2)))
        |_,_=>none
      |_,_,_=>none
    |_,_,_=>none
  | .slice t x (some y) none none=>match An e x,An e y,FL T t with
    |some (.ref b n off len),some (.int k z),some j=>match h b,decide (z=(len:Int))with
      |some (.row p sz es),true=>match Nat.beq n es.length,Nat.blt 0 es.length with
        |true,true=>some ([b],.lst false [])
        |_,_=>none
      |_,_=>none
    |some (.lst ex es),some (.int k z),some j=>match decide (0<=z),decide (z.toNat<=es.length),es.all (fun cs=>Nat.beq cs.length j.size)with
      |true,true,true=>some ([],.lst (ex&&Nat.beq es.length es.length) ((es.take es.length).drop z.toNat))
      |_,_,_=>none
    |_,_,_=>none
  | .slice t x none (some y) (some y')=>match An e x,An e y,An e y',FL T t with
    |some (.lst ex es),some (.int k z),some (.int k' z'),some j=>match decide (z=(es.length:Int)),decide (z'=(es.length:Int))with
      |true,true=>some ([],.lst true es)
      |_,_=>none
    |_,_,_,_=>none
  | .convert t u x=>match An e x,FL T t,T u with
    |some (.ref b n 0 m),some k,some j=>match h b,intOf k.k,j.k with
      |some (.row p 1 es),some .u8,.string=>match Ld es with
        |some l=>match Nat.beq n m,Nat.beq n l.length,Nat.blt 0 l.length with
          |true,true,true=>some ([b],.str ⟨l.toArray⟩)
          |_,_,_=>none
        |none=>none
      |_,_,_=>none
    |_,_,_=>none
  |_=>none
variable {R : List Nat} {r : AV}
theorem bL(hT:CE P T)(hq:qg P T o.op e h=some (R,r)):QLoc P o e h R r:=by
 unfold qg at hq;split at hq
 . rename_i t x y ho;split at hq
   . rename_i b ks n K et hx hy ht;split at hq
     . rename_i l z0 z hb hz hks;split at hq
       . rename_i m hm hzn;simp only[q53,q98]at hq;obtain⟨rfl,rfl⟩:=hq;obtain⟨i,kt,a1,a2,a3⟩:=NB ht;obtain⟨j,e0,j0,b1,b2,b3,b4,b5⟩:=ID a3;obtain⟨m1,m2⟩:=KF hm;obtain⟨zv,z1,z2⟩:=Nh hz;exact U4 hT ho hx (by rw[hy,Ea hks]) (by rw[hb,m1]) a1 a2 b1 b2 b3 b4 b5 (q25 hzn) m2 z1 z2
       . cases hq
     . cases hq
   . cases hq
 . rename_i t parts ho;split at hq
   . rename_i ps i hp hi;split at hq
     . rename_i len u hk;split at hq
       . rename_i j hj;split at hq
         . rename_i r' hz hf hr;simp only[q53,q98]at hq;obtain⟨rfl,rfl⟩:=hq;obtain⟨z1,z2,z3⟩:=ET hz;exact U7 hT ho hp hi hk hj z1 z2 hf hr
         . cases hq
       . cases hq
     . cases hq
   . cases hq
 . rename_i t x y t' ho;split at hq
   . rename_i xs ys n K hx hy ha;split at hq
     . rename_i l1 l2 h1 h2 hg;split at hq
       . rename_i h3 h4;simp only[q53,q98]at hq;obtain⟨rfl,rfl⟩:=hq;obtain⟨j,e0,j0,b1,b2,b3,b4,b5⟩:=ID ha;exact U6 hT false ho (by rw[hx,Ea h1]) (by rw[hy,Ea h2]) hg b1 b2 b3 b4 (q25 h3) (q25 h4) b5
       . cases hq
     . cases hq
   . cases hq
 . rename_i t x y t' ho;split at hq
   . rename_i xs ys n K hx hy ha;split at hq
     . rename_i l1 l2 h1 h2 hg;split at hq
       . rename_i h3 h4;simp only[q53,q98]at hq;obtain⟨rfl,rfl⟩:=hq;obtain⟨j,e0,j0,b1,b2,b3,b4,b5⟩:=ID ha;exact U6 hT true ho (by rw[hx,Ea h1]) (by rw[hy,Ea h2]) hg b1 b2 b3 b4 (q25 h3) (q25 h4) b5
       . cases hq
     . cases hq
   . cases hq
 . rename_i t x y ho;split at hq
   . rename_i b n off len k z j hx hy hj;split at hq
     . rename_i p sz es hb hz;split at hq
       . rename_i h1 h2;simp only[q53,q98]at hq;obtain⟨rfl,rfl⟩:=hq;obtain⟨i,u,a1,a2,a3⟩:=Cd hj;exact XG hT ho hx (by rw[hy,q58 hz]) a1 a2 a3 hb (q25 h1) (by simpa[qZ6]using h2)
       . cases hq
     . cases hq
   . rename_i ex es k z j hx hy hj;split at hq
     . rename_i h0 hz h1;simp only[q53,q98]at hq;obtain⟨rfl,rfl⟩:=hq;obtain⟨i,u,a1,a2,a3⟩:=Cd hj;exact Jc hT z.toNat es.length ho hx a1 a2 a3 ⟨k,by rw[hy,q41 (q58 h0)]⟩ rfl (q58 hz) (qZ0 _) (fun cs hc=>q25 (q67.1 h1 cs hc))
     . cases hq
   . cases hq
 . rename_i t x y y' ho;split at hq
   . rename_i ex es k z k' z' j hx hy hy' hj;split at hq
     . rename_i h1 h2;simp only[q53,q98]at hq;obtain⟨rfl,rfl⟩:=hq;obtain⟨i,u,a1,a2,a3⟩:=Cd hj;exact U2 hT ho hx (by rw[hy,q58 h1]) (by rw[hy',q58 h2]) a1 a2 a3
     . cases hq
   . cases hq
 . rename_i t u x ho;split at hq
   . rename_i b n m k j hx hk hj;split at hq
     . rename_i p es hb hku hjk;split at hq
       . rename_i l hl;split at hq
         . rename_i h1 h2 h3;simp only[q53,q98]at hq;obtain⟨rfl,rfl⟩:=hq;obtain⟨i,v,a1,a2,a3⟩:=Cd hk;have h1:=q25 h1;subst h1;exact XI hT ho hx (by rw[hb,Lc hl]) (q25 h2) (by simpa[qZ6]using h3) a1 a2 a3 (KV hku) hj hjk
         . cases hq
       . cases hq
     . cases hq
   . cases hq
 . cases hq
def pF(P:Program)(T:Nat->Option Av)(dst:Option Nat)(o:Op)(e:Ax)(h:Ad)(k:Nat):Option jC:=
  match o with
  | .makeMap t none=>match GX h k with
    |true=>some ([k],[(k,.map (kvs .i64 []))],some (.map k),k+1)
    |false=>none
  | .mapUpdate t x y u=>match dst,An e x,An e y,An e u,Tv P T t with
    |none,some (.map b),some (.agg ks),some q,some (n,K,_)=>match h b,q.isPure,IJ K ks with
      |some (.map l),true,some z=>match unkvA K n l,Nat.beq z.length n with
        |some m,true=>some ([b],[(b,.map (GC K (QQ z q m)))],none,k)
        |_,_=>none
      |_,_,_=>none
    |_,_,_,_,_=>none
  |_=>none
variable {k k' : Nat} {W : List (Nat × AObj)}
theorem az(hT:CE P T){r:Option AV}(hv:pF P T o.dst o.op e h k=some (R,W,r,k')):OLoc P o e h R W r:=by
 unfold pF at hv;split at hv
 . rename_i t ho;split at hv
   . rename_i hf;simp only[q53,q98]at hv;obtain⟨rfl,rfl,rfl,rfl⟩:=hv;exact J1 .i64 k ho (C7 hf)
   . cases hv
 . rename_i t x y u ho;split at hv
   . rename_i b ks q n K et hd hx hy hu ht;split at hv
     . rename_i l z hb hp hks;split at hv
       . rename_i m hm hzn;simp only[q53,q98]at hv;obtain⟨rfl,rfl,rfl,rfl⟩:=hv;obtain⟨i,kt,a1,a2,a3⟩:=NB ht;obtain⟨j,e0,j0,b1,b2,b3,b4,b5⟩:=ID a3;obtain⟨m1,m2⟩:=KF hm;exact o_mapUpdateA hT ho hd hx (by rw[hy,Ea hks]) hu hp (by rw[hb,m1]) a1 a2 b1 b2 b3 b4 b5 (q25 hzn) m2
       . cases hv
     . cases hv
   . cases hv
 . cases hv
def lp(P:Program)(T:Nat->Option Av)(o:Op)(e:Ax)(h:Ad):Option (List Nat×AV):=match vW T o e h with
  |some r=>some r
  |none=>match qi P T o e h with
    |some r=>some r
    |none=>match qh P T o e h with
      |some r=>some r
      |none=>qg P T o e h
def aA(P:Program)(T:Nat->Option Av)(dst:Option Nat)(o:Op)(e:Ax)(h:Ad)(k:Nat):Option jC:=match wR T dst o e h k with
  |some r=>some r
  |none=>match pG T dst o e h k with
    |some r=>some r
    |none=>pF P T dst o e h k
theorem Rt(hT:CE P T)(hq:lp P T o.op e h=some (R,r)):QLoc P o e h R r:=by
 unfold lp at hq;split at hq
 . rename_i r' h1;rw[q53]at hq;subst hq;exact qEv_spec hT h1
 . split at hq
   . rename_i r' h1;rw[q53]at hq;subst hq;exact qEv2_spec hT h1
   . split at hq
     . rename_i r' h1;rw[q53]at hq;subst hq;exact qEv3_spec hT h1
     . exact bL hT hq
theorem JH(hT:CE P T){r:Option AV}(hv:aA P T o.dst o.op e h k=some (R,W,r,k')):OLoc P o e h R W r:=by
 unfold aA at hv;split at hv
 . rename_i r' h1;rw[q53]at hv;subst hv;exact xEv_spec hT h1
 . split at hv
   . rename_i r' h1;rw[q53]at hv;subst hv;exact xEv3_spec hT h1
   . exact az hT hv
def Pl:Value->Option AV
  | .int k n=>some (.int k n)
  | .bool b=>some (.bool b)
  | .string s=>some (.str s)
  | .func f a b=>some (.val (.func f a b))
  |_=>none
def Pj:List Value->Option (List AV)
  | []=>some []
  |v::vs=>match Pl v,Pj vs with
    |some x,some xs=>some (x::xs)
    |_,_=>none
def gP:Value->Option AV
  | .agg cs=>match Pj cs.toList with
    |some xs=>some (.agg xs)
    |none=>none
  |v=>Pl v
variable {x : AV} {v : Value}
theorem Pk(h:Pl v=some x)(H:AA):Rel H A7 x v:=by
 cases v<;>simp[Pl]at h<;>subst h
 . exact .bool _ _
 . exact .int _ _ _
 . exact .str _ _
 . exact .val _ _ rfl
theorem Pi:∀{l:List Value} {xs:List AV},Pj l=some xs->xs.length=l.length/\∀(j:Nat) (x:AV) (v:Value),xs[j]?=some x->l[j]?=some v->Pl v=some x
 | [],xs,h=>by simp[Pj]at h;subst h;exact⟨rfl,fun j x v h=>by simp at h⟩
 |v::vs,xs,h=>by
  unfold Pj at h;split at h
  . rename_i x ys h1 h2;simp at h;subst h;obtain⟨a1,a2⟩:=Pi h2;refine⟨by simp[a1],fun j y u e1 e2=>?_⟩
    cases j with
    |zero=>simp at e1 e2;subst e1;subst e2;exact h1
    |succ j=>exact a2 j y u (by simpa using e1) (by simpa using e2)
  . cases h
theorem HX(h:gP v=some x)(H:AA):Rel H A7 x v:=by
 unfold gP at h;split at h
 . rename_i cs;split at h
   . rename_i xs e;simp at h;subst h;obtain⟨a1,a2⟩:=Pi e;exact .agg _ _ _ (by simpa using a1) (fun j x v e1 e2=>Pk (a2 j x v e1 (by simpa using e2)) H)
   . cases h
 . exact Pk h H
def L8(mt:Nat->String->Option Nat)(o:Op)(e:Ax):Option (Nat×List AV):=
  match o with
  | .call ⟨.value x,args,_⟩=>match An e x,A8 e args.toList with
    |some (.fn (.func f) fs cs),some xs=>some (f,fs++xs++cs)
    |some (.val (.func (.func f) a b)),some xs=>match a.toList,b.toList with
      | [],[]=>some (f,xs)
      |_,_=>none
    |_,_=>none
  | .call ⟨.invoke recv name,args,_⟩=>match An e recv,A8 e args.toList with
    |some (.val (.iface t v)),some xs=>match mt t name,gP v with
      |some f,some x0=>some (f,x0::xs)
      |_,_=>none
    |_,_=>none
  |_=>none
def hZ(P:Program)(mt:Nat->String->Option Nat):Prop:=∀t name f v w,mt t name=some f->(method (P.types.size+Made.depth) t v name).run P w=.ok (f,v) w
def PP(P:Program)(f:Nat):Option (Func×Code):=match P.funcs[f]? with
  |some fn=>match fn.body,fn.name== "runtime.NumGoroutine" with
    |some c,false=>some (fn,c)
    |_,_=>none
  |none=>none
variable {f : Nat} {fn : Func}
theorem FK{c:Code}(h:PP P f=some (fn,c)):P.funcs[f]?=some fn/\fn.body=some c/\(fn.name== "runtime.NumGoroutine")=false:=by
 unfold PP at h;split at h
 . rename_i fn' hf;split at h
   . rename_i c' hb hn;simp only[q53,q98]at h;obtain⟨rfl,rfl⟩:=h;exact⟨hf,hb,hn⟩
   . cases h
 . cases h
variable {R : AV -> Ad -> Prop}
theorem Z7{α:Type}{a:Array α}(h:a.toList=[]):a= #[]:=Array.ext' h
theorem Kz{mt:Nat->String->Option Nat}(hmt:hZ P mt){xs:List AV}(hc:L8 mt o.op e=some (f,xs))(hf:P.funcs[f]?=some fn)(hnm:(fn.name== "runtime.NumGoroutine")=false)(hb:fn.body.isSome=true)(hcall:ACall P f xs h R):OCallR P o e h R:=by
 unfold L8 at hc;split at hc
 . rename_i x args tys ho;split at hc
   . rename_i f' fs cs ys hx hl;simp only[q53,q98]at hc;obtain⟨rfl,rfl⟩:=hc;exact v8 ho hx hf hnm hb hl hcall
   . rename_i f' a b ys hx hl;split at hc
     . rename_i ha hb';simp only[q53,q98]at hc;obtain⟨rfl,rfl⟩:=hc;exact vZ ho (by rw[hx,Z7 ha,Z7 hb']) hf hnm hb hl hcall
     . cases hc
   . cases hc
 . rename_i recv name args tys ho;split at hc
   . rename_i t v ys hx hl;split at hc
     . rename_i f' x0 hm hv;simp only[q53,q98]at hc;obtain⟨rfl,rfl⟩:=hc;exact v7 ho hx (fun w=>hmt t name f' v w hm) (HX hv) hf hnm hb hl hcall
     . cases hc
   . cases hc
 . cases hc
variable {K : Al -> Prop} {ops : Array Oper} {rest : List Oper}
theorem dG{n:Nat}(hd:o.dst=none)(hg:A0 ops o e=some true)
 (ho:OCallR P o e h (fun r hn=>AOps P ops rest ⟨n,e,hn⟩ K)):AOps P ops (o::rest) ⟨n,e,h⟩ K:=by
 intro H ι a w hs;unfold wpList;rw[DI hs hg];simp only[qZ8];refine .inl (qX8 (fun a' w' hx=>?_) (ho H ι a w n _ hs));obtain⟨v,r,hn,H',ι',hr,rfl,h1,h2,h3⟩:=hx;have hs':=hs.put (v:=v) (d:=o.dst) (r:=none) h2 h3 z126q (fun t e=>by rw[hd]at e;cases e);exact mO
theorem mG{n:Nat}(hd:o.dst=none)(hg:A0 ops o e=some false)(hr:AOps P ops rest ⟨n,e,h⟩ K):AOps P ops (o::rest) ⟨n,e,h⟩ K:=by
 have:=AOps.skip (P:=P) (ops:=ops) (s:=⟨n,e,h⟩) (K:=K) (o:=o) (rest:=rest) hg (fun t e=>by rw[hd]at e;cases e);rw[hd]at this;exact this hr
def frz1(b m:Nat)(es:List (List AV)):AV->AV
  | .ref b' n off len=>bif Nat.beq b' b&&Nat.beq n m then .lst false ((es.drop off).take len)else .ref b' n off len
  |x=>x
def wj(b m:Nat)(es:List (List AV)):AV->AV
  | .agg cs=>.agg (cs.map (frz1 b m es))
  |x=>frz1 b m es x
def wi(b m:Nat)(es:List (List AV)):AV->AV
  | .agg cs=>.agg (cs.map (frz1 b m es))
  | .tup cs=>.tup (cs.map (wj b m es))
  |x=>frz1 b m es x
def qB(b m:Nat)(es:List (List AV)):AObj->AObj
  | .row false sz rs=>.row false sz (rs.map fun cs=>cs.map (frz1 b m es))
  |o=>o
def qC(b m:Nat)(es:List (List AV))(e:Ax):Ax:=fun t=>match e t with
  |some x=>some (wi b m es x)
  |none=>none
def Yd(b m:Nat)(es:List (List AV))(h:Ad):Ad:=fun c=>bif Nat.beq c b then none else match h c with
  |some o=>some (qB b m es o)
  |none=>none
theorem cA(b m:Nat)(es:List (List AV))(x:AV)(h:x.cell1=true):(frz1 b m es x).cell1=true:=by
 cases x with
 |ref b' n off len=>
  show(bif Nat.beq b' b&&Nat.beq n m then AV.lst false ((es.drop off).take len)else .ref b' n off len).cell1=true
  cases Nat.beq b' b&&Nat.beq n m<;>rfl
 |_=>exact h
variable {H H' : AA} {b m : Nat} {es : List (List AV)}
variable {ι : Bp}
theorem LS(u3:KLe H H')(u4:∀(v:Value) (off len:Nat),Rel H ι (.ref b m off len) v->Rel H' ι (.lst false ((es.drop off).take len)) v)(h:Rel H ι x v):Rel H' ι (frz1 b m es x) v:=by
 cases x with
 |ref b' n off len=>
  show Rel H' ι (bif Nat.beq b' b&&Nat.beq n m then AV.lst false ((es.drop off).take len)else .ref b' n off len) v
  cases e:Nat.beq b' b&&Nat.beq n m with
  |false=>exact h.mono u3 (LLe.refl _)
  |true=>
   rw[q66]at e;have e1:=q25 e.1;have e2:=q25 e.2;subst e1;subst e2;exact u4 v off len h
 |_=>exact h.mono u3 (LLe.refl _)
theorem V2(u3:KLe H H')(u4:∀(v:Value) (off len:Nat),Rel H ι (.ref b m off len) v->Rel H' ι (.lst false ((es.drop off).take len)) v)(h:Rel H ι x v):Rel H' ι (wj b m es x) v:=by
 cases x with
 |agg cs=>
  obtain⟨us,rfl,hl,hr⟩:=h.agg_inv;refine .agg _ _ us (by simpa using hl) fun j x v h1 h2=>?_
  rw[q54]at h1
  cases e:cs[j]? with
  |none=>rw[e]at h1;cases h1
  |some y=>rw[e]at h1;cases h1;exact LS u3 u4 (hr j y v e h2)
 |_=>exact LS u3 u4 h
theorem iO(u3:KLe H H')(u4:∀(v:Value) (off len:Nat),Rel H ι (.ref b m off len) v->Rel H' ι (.lst false ((es.drop off).take len)) v)(h:Rel H ι x v):Rel H' ι (wi b m es x) v:=by
 cases x with
 |agg cs=>exact V2 (x:=.agg cs) u3 u4 h
 |tup cs=>
  obtain⟨us,rfl,hl,hr⟩:=h.tup_inv;refine .tup _ _ us (by simpa using hl) fun j x v h1 h2=>?_
  rw[q54]at h1
  cases e:cs[j]? with
  |none=>rw[e]at h1;cases h1
  |some y=>rw[e]at h1;cases h1;exact V2 u3 u4 (hr j y v e h2)
 |_=>exact LS u3 u4 h
theorem HeapRel.tight{w:World}(hr:HeapRel H ι h w)(hb:h b=some (.row false sz es))(hp:∀cs∈es,cs.all AV.isPure1=true):HeapRel H ι (hput h b (.row true sz es)) w:=by
 have old:∀c o,hput h b (.row true sz es) c=some o->o.alive=true->∃o',h c=some o'/\o'.alive=true:=fun c o h1 h2=>by
  by_cases hc:c=b
  . subst hc;exact⟨_,hb,rfl⟩
  . rw[AU _ _ hc]at h1;exact⟨o,h1,h2⟩
 refine⟨hr.know,fun c hc=>?_,fun c o h1 h2=>?_,fun c c' o o' r r' h1 h2 h3 h4 h5 h6 h7 h8 h9=>?_,hr.glob⟩
 . by_cases e:c=b
   . subst e;rw[At]at hc;cases hc
   . rw[AU _ _ e]at hc;exact hr.free c hc
 . by_cases e:c=b
   . subst e;rw[At]at h1
     cases h1
     obtain⟨r,r1,⟨o1,o2,o3,o4,o5,o6⟩,r3⟩:=hr.obj c _ hb rfl;refine⟨r,r1,⟨o1,o2,o3,o4,o5,fun hs=>?_⟩,r3⟩;obtain⟨cc,T,c1,c2,c3,c4⟩:=o6 hs;refine⟨cc,T,c1,c2,c3,fun i cs j x e1 e2=>?_⟩;obtain⟨v,v1,v2,v3⟩:=c4 i cs j x e1 e2;exact⟨v,v1,Dp (q67.1 (hp cs (q33 e1)) x (q33 e2)) v2,v3⟩
   . rw[AU _ _ e]at h1;exact hr.obj c o h1 h2
 . obtain⟨p1,q1,q2⟩:=old c o h1 h2;obtain⟨p2,q3,q4⟩:=old c' o' h3 h4;exact hr.inj c c' p1 p2 r r' q1 q2 q3 q4 h5 h6 h7 h8 h9
theorem dD{n:Nat}(hb:h b=some (.row false sz es))(hp:∀cs∈es,cs.all AV.isPure1=true):Ghost ⟨n,e,h⟩ ⟨n,qC b es.length es e,Yd b es.length es h⟩:=fun H ι a w hs=>by
 have hr:=hs.heap;have ht:=hr.tight hb hp;obtain⟨H',u1,u2,u3,u40⟩:=ht.freeze (At h b _);have u4:=u40 ι;have hst:Step H ι h w H ι (hput h b (.row true sz es)) w:=⟨qZ0 _,rfl,rfl,fun _ _ _=>rfl,KLe.refl _,fun _ h=>.inl h,LLe.refl _,fun _ _=>rfl,fun _ _ h _=>.inl h,fun c hc=>by
  by_cases hcb:c=b
  . subst hcb;rw[hb]at hc;cases hc
  . rw[AU _ _ hcb];exact hc⟩
 have back:∀c o,Yd b es.length es h c=some o->∃o',h c=some o'/\o=qB b es.length es o'/\c≠b:=fun c o hc=>by
  unfold Yd at hc
  cases ec:Nat.beq c b with
  |true=>rw[ec]at hc;cases hc
  |false=>
   rw[ec]at hc;simp only[qZ3]at hc;split at hc
   . rename_i o' ho
     cases hc
     exact⟨o',ho,rfl,fun hh=>by subst hh;rw[Nat.beq_refl]at ec;cases ec⟩
   . cases hc
 have al:∀o,(qB b es.length es o).alive=o.alive:=fun o=>by
  cases o with
  |row p sz rs=>cases p<;>rfl
  |_=>rfl
 have hrm_eq:∀c,c≠b->hrm (hput h b (.row true sz es)) b c=h c:=fun c hc=>by rw[FJ _ hc,AU _ _ hc]
 have hheap:HeapRel H' ι (Yd b es.length es h) w:=by
  refine⟨u1.know,fun c hc=>?_,fun c o h1 h2=>?_,fun c c' o o' r r' h1 h2 h3 h4 h5 h6 h7 h8 h9=>?_,u1.glob⟩
  . obtain⟨o',g1,g2,g3⟩:=back c _ hc
    cases o' with
    |free=>exact hr.free c g1
    |row p sz rs=>cases p<;>cases g2
    |_=>cases g2
  . obtain⟨o',g1,rfl,g3⟩:=back c o h1;rw[al]at h2;obtain⟨r,r1,r2,r3⟩:=u1.obj c o' (by rw[hrm_eq c g3];exact g1) h2;refine⟨r,r1,?_,r3⟩
    cases o' with
    |free=>cases h2
    |map kvs=>exact r2
    |iter0=>exact r2
    |row p sz' rs=>
     cases p with
     |true=>exact r2
     |false=>
      obtain⟨o1,o2,o3,o4,o5,o6⟩:=r2;refine⟨o1,o2,by simpa using o3,by simpa using o4,fun i cs hi=>?_,fun hsol=>?_⟩
      . rw[q54]at hi;exact zt156
      . obtain⟨cc,T,c1,c2,c3,c4⟩:=o6 hsol;refine⟨cc,T,c1,c2,?_,fun i cs j x e1 e2=>?_⟩
        . intro i cs hi;rw[q54]at hi;exact zt156
        . rw[q54]at e1
          cases ei:rs[i]? with
          |none=>rw[ei]at e1;cases e1
          |some ds=>
           rw[ei]at e1;cases e1;rw[q54]at e2
           cases ej:ds[j]? with
           |none=>rw[ej]at e2;cases e2
           |some y=>
            rw[ej]at e2;cases e2;obtain⟨r0,s1,⟨t1,t2,t3,t4,t5,t6⟩,s3⟩:=hr.obj c _ g1 rfl;rw[r1]at s1;cases s1;obtain⟨cc',T',d1,d2,d3,d4⟩:=t6 hsol;obtain⟨fr,f1,_⟩:=c1;obtain⟨fr',f1',_⟩:=d1;rw[f1]at f1'
            cases f1'
            obtain⟨v,v1,v2,v3⟩:=d4 i ds j y ei ej;exact⟨v,v1,LS u3 u4 v2,cA _ _ _ _ v3⟩
  . obtain⟨p1,g1,rfl,g3⟩:=back c o h1;obtain⟨p2,g4,rfl,g6⟩:=back c' o' h3;rw[al]at h2 h4;exact hr.inj c c' p1 p2 r r' g1 h2 g4 h4 h5 h6 h7 h8 h9
 refine⟨H',ι,⟨hs.n,hs.d,fun u y hy=>?_,hheap⟩,?_⟩
 . simp only[qC]at hy;split at hy
   . rename_i x hx
     cases hy
     obtain⟨v,h1,h2⟩:=hs.env u x hx;exact⟨v,h1,iO u3 u4 h2⟩
   . cases hy
 . have h2:=hst.trans hr ht u2;exact⟨h2.size,h2.os,h2.out,h2.keep,h2.kle,h2.knew,h2.lle,h2.lframe,h2.newrb,fun c hc=>by
    show Yd b es.length es h c=none;unfold Yd
    cases Nat.beq c b with
    |true=>rfl
    |false=>simp only[qZ3];rw[show h c=none from hc]⟩
def fU(b:Nat):AV->Bool
  | .ref b' _ _ _=>Nat.beq b' b
  |_=>false
def vR(b:Nat):AV->Bool
  | .agg cs=>cs.any (fU b)
  |x=>fU b x
def V0(n k:Nat):List Nat->Ax->Ad->Ax×Ad
  | [],e,h=>(e,h)
  |b::l,e,h=>match h b with
    |some (.row false sz es)=>match es.all (fun cs=>cs.all AV.isPure1),(List.range n).any (fun t=>match e t with
        |some x=>vR b x
        |none=>false)||(List.range k).any (fun c=>match h c with
        |some (.row _ _ rs)=>rs.any fun cs=>cs.any (fU b)
        |_=>false)with
      |true,true=>V0 n k l (qC b es.length es e) (Yd b es.length es h)
      |_,_=>V0 n k l e h
    |_=>V0 n k l e h
theorem G4{n k:Nat}:∀(l:List Nat) {e e':Ax} {h h':Ad},V0 n k l e h=(e',h')->Ghost ⟨n,e,h⟩ ⟨n,e',h'⟩
 | [],e,e',h,h',hx=>by
  cases hx
  exact Ghost.of_sub (Sub.mk' (ESub.refl _) (HSub.refl _))
 |b::l,e,e',h,h',hx=>by
  unfold V0 at hx;split at hx
  . rename_i sz es hb;split at hx
    . rename_i hp _;exact Ghost.trans (dD hb fun cs hc=>q67.1 hp cs hc) (G4 l hx)
    . exact G4 l hx
  . exact G4 l hx
def fT:AV->List Nat
  | .ref b _ _ _=>[b]
  | .ptr b _ _ _=>[b]
  |_=>[]
def Te:AV->List Nat
  | .agg cs=>cs.flatMap fT
  |x=>fT x
def Tg(h:Ad):Nat->List Nat->List Nat
  |0,l=>l
  |d+1,l=>Tg h d (l.flatMap fun b=>match h b with
    |some (.row _ _ rs)=>rs.flatMap fun cs=>cs.flatMap fT
    |_=>[])++l
def V1(fz:Nat->Nat->Option Nat)(n id k:Nat)(e:Ax)(h:Ad):Ax×Ad:=match fz n id with
  |some t=>match e t with
    |some x=>V0 n k (Tg h 3 (Te x)) e h
    |none=>(e,h)
  |none=>(e,h)
variable {e' : Ax} {h' : Ad}
theorem NL{fz:Nat->Nat->Option Nat}{n id:Nat}(hx:V1 fz n id k e h=(e',h')):Ghost ⟨n,e,h⟩ ⟨n,e',h'⟩:=by
 have h0:Ghost ⟨n,e,h⟩ ⟨n,e,h⟩:=Ghost.of_sub (Sub.mk' (ESub.refl _) (HSub.refl _));unfold V1 at hx;exact zt192
abbrev XLog:=List (Nat×List AV×AV)
def Gr(P:Program)(lg:XLog):Prop:=∀p∈lg,APure P p.1 p.2.1 (fun r=>r=p.2.2)
abbrev XCall:=Nat->List AV->Ad->Nat->XLog->Option (AV×Ad×Nat×XLog)
def XCall.Ok(P:Program)(cl:XCall):Prop:=∀f xs h k lg r h' k' lg',cl f xs h k lg=some (r,h',k',lg')->(∀p∈lg,p∈lg')/\(Gr P lg'->ACall P f xs h (fun r1 h1=>r1=r/\h1=h'))
def mm(mt:Nat->String->Option Nat)(ct:Nat->Option (List AV->Option AV))(o:Op)(e:Ax):Option (Nat×List AV×AV):=
  match o with
  | .call ⟨.value (.func f),args,_⟩=>match ct f with
    |some q=>match A8 e args.toList with
      |some xs=>match xs.all AV.isPure,q xs with
        |true,some r=>some (f,xs,r)
        |_,_=>none
      |none=>none
    |none=>none
  |_=>none
def Z8(e:Ax):List Operand->List Nat
  | []=>[]
  |x::l=>(match An e x with|some y=>Te y|none=>[])++Z8 e l
def ctFz(ct:Nat->Option (List AV->Option AV))(n k:Nat)(o:Op)(e:Ax)(h:Ad):Ax×Ad:=
  match o with
  | .call ⟨.value (.func f),args,_⟩=>match ct f with
    |some _=>V0 n k (Tg h 3 (Z8 e args.toList)) e h
    |none=>(e,h)
  |_=>(e,h)
theorem Yn{ct:Nat->Option (List AV->Option AV)}{n:Nat}{o:Op}(hx:ctFz ct n k o e h=(e',h')):Ghost ⟨n,e,h⟩ ⟨n,e',h'⟩:=by
 have h0:Ghost ⟨n,e,h⟩ ⟨n,e,h⟩:=Ghost.of_sub (Sub.mk' (ESub.refl _) (HSub.refl _));unfold ctFz at hx;exact zt192
theorem Wu{l:List Oper}{s s':Al}(hg:Ghost s s')(h:AOps P ops l s' K):AOps P ops l s K:=fun H ι a w hs=>by
 obtain⟨H',ι',h1,h2⟩:=hg H ι a w hs;have hpost:∀e a2 w2,Post H' ι' s'.h w (Ce K fun _ _=>False) e a2 w2->Post H ι s.h w (Ce K fun _ _=>False) e a2 w2:=fun e a2 w2 hp=>Post.step hs.heap h1.heap h2 hp
 have key:∀(l:List Oper) (a1:Act) (w1:World),wpList P ops (Post H' ι' s'.h w (Ce K fun _ _=>False)) l a1 w1->wpList P ops (Post H ι s.h w (Ce K fun _ _=>False)) l a1 w1:=by
  intro l
  induction l with
  |nil=>exact fun a1 w1 hp=>hpost _ _ _ hp
  |cons o' l ih=>
   intro a1 w1 hp;exact zt65
 exact key l a w (h H' ι' a w h1)
def NU(P:Program)(T:Nat->Option Av)(mt:Nat->String->Option Nat)(ct:Nat->Option (List AV->Option AV))(cl:XCall)(ops:Array Oper)(n:Nat):List Oper->Ax->Ad->Nat->XLog->Option (Ax×Ad×Nat×XLog)
  | [],e,h,k,lg=>some (e,h,k,lg)
  |o::l,e,h,k,lg=>match A0 ops o e with
    |some false=>match o.dst with
      |some d=>match Nat.blt d n with
        |true=>NU P T mt ct cl ops n l (Aa e d (.tup [])) h k lg
        |false=>none
      |none=>NU P T mt ct cl ops n l e h k lg
    |some true=>match o.dst with
      |some d=>match Nat.blt d n with
        |true=>match lp P T o.op e h with
          |some (_,r)=>NU P T mt ct cl ops n l (Aa e d r) h k lg
          |none=>match aA P T o.dst o.op e h k with
            |some (_,W,some r,k')=>NU P T mt ct cl ops n l (Aa e d r) (hputs h W) k' lg
            |some (_,_,none,_)=>none
            |none=>match ctFz ct n k o.op e h with
             |(e0,h0)=>match A0 ops o e0,mm mt ct o.op e0 with
              |some true,some (f,xs,r)=>match PP P f with
                |some _=>NU P T mt ct cl ops n l (Aa e0 d r) h0 k ((f,xs,r)::lg)
                |none=>none
              |_,_=>match L8 mt o.op e with
                |some (f,xs)=>match PP P f,cl f xs h k lg with
                  |some _,some (r,h',k',lg')=>NU P T mt ct cl ops n l (Aa e d r) h' k' lg'
                  |_,_=>none
                |none=>none
        |false=>none
      |none=>match aA P T o.dst o.op e h k with
        |some (_,W,none,k')=>NU P T mt ct cl ops n l e (hputs h W) k' lg
        |some (_,_,some _,_)=>none
        |none=>match L8 mt o.op e with
          |some (f,xs)=>match PP P f,cl f xs h k lg with
            |some _,some (r,h',k',lg')=>NU P T mt ct cl ops n l e h' k' lg'
            |_,_=>none
          |none=>none
    |none=>none
section
variable {P : Program} {T : Nat -> Option Av} {mt : Nat -> String -> Option Nat} {ct : Nat -> Option (List AV -> Option AV)} {cl : XCall} {ops : Array Oper} {n : Nat}
variable {o : Oper} {e : Ax} {h : Ad}
theorem OCallR.mono{R R':AV->Ad->Prop}(hc:OCallR P o e h R)(hr:∀r h',R r h'->R' r h'):OCallR P o e h R':=fun H ι a w n Q hs=>
 qX8 (fun a' w' ⟨v,r,h',H',ι',e1,e2⟩=>⟨v,r,h',H',ι',hr _ _ e1,e2⟩) (hc H ι a w n Q hs)
theorem Sz{f:Nat}{xs:List AV}{r:AV}{fn:Func}(hc:mm mt ct o.op e=some (f,xs,r))(hf:P.funcs[f]?=some fn)(hnm:(fn.name== "runtime.NumGoroutine")=false)(hb:fn.body.isSome=true)(hp:APure P f xs (fun r'=>r'=r)):OLoc P o e h [] [] (some r):=by
 unfold mm at hc;split at hc
 . rename_i f' args tys ho;split at hc
   . rename_i q h1;split at hc
     . rename_i ys h2;split at hc
       . rename_i r' h3 h4;simp only[q53,q98]at hc;obtain⟨rfl,rfl,rfl⟩:=hc;exact gS ho hf hnm hb h2 h3 hp
       . cases hc
     . cases hc
   . cases hc
 . cases hc
theorem Eo(hT:CE P T)(hmt:hZ P mt)(hcl:cl.Ok P):∀(l:List Oper) {e e':Ax} {h h':Ad} {k k':Nat} {lg lg':XLog},NU P T mt ct cl ops n l e h k lg=some (e',h',k',lg')->
 (∀p∈lg,p∈lg')/\(Gr P lg'->∀K:Al->Prop,K ⟨n,e',h'⟩->AOps P ops l ⟨n,e,h⟩ K)
 | [],e,e',h,h',k,k',lg,lg',hx=>by
  simp only[NU,q53,q98]at hx;obtain⟨rfl,rfl,rfl,rfl⟩:=hx;exact⟨fun p hp=>hp,fun _ K hK=>AOps.nil hK⟩
 |o::l,e,e',h,h',k,k',lg,lg',hx=>by
  unfold NU at hx;split at hx
  . rename_i hg;split at hx
    . rename_i d hd;split at hx
      . rename_i hb;obtain⟨a1,a2⟩:=Eo hT hmt hcl l hx;exact⟨a1,fun hl K hK=>AOps.k d hd hb hg (a2 hl K hK)⟩
      . cases hx
    . rename_i hd;obtain⟨a1,a2⟩:=Eo hT hmt hcl l hx;exact⟨a1,fun hl K hK=>mG hd hg (a2 hl K hK)⟩
  . rename_i hg;split at hx
    . rename_i d hd;split at hx
      . rename_i hb;split at hx
        . rename_i R r hq;obtain⟨a1,a2⟩:=Eo hT hmt hcl l hx;exact⟨a1,fun hl K hK=>AOps.s d hd hb hg (Rt hT hq) (a2 hl K hK)⟩
        . split at hx
          . rename_i R W r k1 hv;obtain⟨a1,a2⟩:=Eo hT hmt hcl l hx;exact⟨a1,fun hl K hK=>AOps.x d hd hb hg (JH hT hv) (a2 hl K hK)⟩
          . cases hx
          . generalize hfz:ctFz ct n k o.op e h=eh at hx;obtain⟨e0,h0⟩:=eh;have hgst:=Yn hfz;simp only at hx;split at hx
            . rename_i f xs r hg0 hc;split at hx
              . rename_i fc hfn;obtain⟨fn,c⟩:=fc;obtain⟨f1,f2,f3⟩:=FK hfn;obtain⟨a1,a2⟩:=Eo hT hmt hcl l hx;refine⟨fun p hp=>a1 p (by simp[hp]),fun hl K hK=>Wu hgst (AOps.x d hd hb hg0 (Sz hc f1 f3 (by rw[f2];rfl) (hl (f,xs,r) (a1 _ z145q))) (a2 hl K hK))⟩
              . cases hx
            . split at hx
              . rename_i f xs hc;split at hx
                . rename_i fc r h1 k1 lg1 hfn hcall;obtain⟨fn,c⟩:=fc;obtain⟨f1,f2,f3⟩:=FK hfn;obtain⟨a1,a2⟩:=Eo hT hmt hcl l hx;obtain⟨b1,b2⟩:=hcl _ _ _ _ _ _ _ _ _ hcall;refine⟨fun p hp=>a1 p (b1 p hp),fun hl K hK=>AOps.inn d hd hb hg (OCallR.mono (Kz hmt hc f1 f3 (by rw[f2];rfl) (b2 (fun p hp=>hl p (a1 p hp)))) fun r' h'' hh=>?_)⟩;obtain⟨rfl,rfl⟩:=hh;exact a2 hl K hK
                . cases hx
              . cases hx
      . cases hx
    . rename_i hd;split at hx
      . rename_i R W k1 hv;obtain⟨a1,a2⟩:=Eo hT hmt hcl l hx;exact⟨a1,fun hl K hK=>AOps.w hd hg (JH hT hv) (a2 hl K hK)⟩
      . cases hx
      . split at hx
        . rename_i f xs hc;split at hx
          . rename_i fc r h1 k1 lg1 hfn hcall;obtain⟨fn,c⟩:=fc;obtain⟨f1,f2,f3⟩:=FK hfn;obtain⟨a1,a2⟩:=Eo hT hmt hcl l hx;obtain⟨b1,b2⟩:=hcl _ _ _ _ _ _ _ _ _ hcall;refine⟨fun p hp=>a1 p (b1 p hp),fun hl K hK=>dG hd hg (OCallR.mono (Kz hmt hc f1 f3 (by rw[f2];rfl) (b2 (fun p hp=>hl p (a1 p hp)))) fun r' h'' hh=>?_)⟩;obtain⟨rfl,rfl⟩:=hh;exact a2 hl K hK
          . cases hx
        . cases hx
  . cases hx
end
def AV.eqS:AV->AV->Bool
  | .bool a,.bool b=>a==b
  | .int k a,.int k' b=>decide (k=k')&&decide (a=b)
  | .nil,.nil=>true
  | .nilp,.nilp=>true
  | .ref b n o l,.ref b' n' o' l'=>Nat.beq b b'&&(Nat.beq n n'&&(Nat.beq o o'&&Nat.beq l l'))
  | .ptr b n o l,.ptr b' n' o' l'=>Nat.beq b b'&&(Nat.beq n n'&&(Nat.beq o o'&&Nat.beq l l'))
  | .map b,.map b'=>Nat.beq b b'
  |_,_=>false
theorem iS{x y:AV}(h:x.eqS y=true):x=y:=by
 unfold AV.eqS at h;split at h
 . rw[qZ4]at h;rw[h]
 . rw[q66,q56,q56]at h;rw[h.1,h.2]
 . rfl
 . rfl
 . rw[q66,q66,q66]at h;exact zt169
 . rw[q66,q66,q66]at h;exact zt169
 . rw[q25 h]
 . cases h
def mb:List AV->List AV->Bool
  | [],[]=>true
  |x::xs,y::ys=>x.eqS y&&mb xs ys
  |_,_=>false
theorem Sp:∀{xs ys:List AV},mb xs ys=true->xs=ys
 | [],[],_=>rfl
 |x::xs,y::ys,h=>by
  simp only[mb,q66]at h;rw[iS h.1,Sp h.2]
 | [],_::_,h=>by cases h
 |_::_,[],h=>by cases h
def mc:List (List AV)->List (List AV)->Bool
  | [],[]=>true
  |x::xs,y::ys=>mb x y&&mc xs ys
  |_,_=>false
theorem Sq:∀{xs ys:List (List AV)},mc xs ys=true->xs=ys
 | [],[],_=>rfl
 |x::xs,y::ys,h=>by
  simp only[mc,q66]at h;rw[Sp h.1,Sq h.2]
 | [],_::_,h=>by cases h
 |_::_,[],h=>by cases h
def sameAt(h h':Ad)(b:Nat):Bool:=match h b,h' b with
  |some (.row p sz es),some (.row p' sz' es')=>p==p'&&(Nat.beq sz sz'&&mc es es')
  |some .free,some .free=>true
  |_,_=>false
variable {h h' : Ad}
theorem UN{b:Nat}(e:sameAt h h' b=true):h b=h' b:=by
 unfold sameAt at e;split at e
 . rename_i h1 h2;rw[q66,q66,qZ4]at e;rw[h1,h2,e.1,q25 e.2.1,Sq e.2.2]
 . rename_i h1 h2;rw[h1,h2]
 . cases e
def jR(h h':Ad):List Nat->List (Nat×AObj)
  | []=>[]
  |b::l=>match sameAt h h' b,h' b with
    |false,some q=>(b,q)::jR h h' l
    |_,_=>jR h h' l
theorem ST{h h':Ad}{L0:List Nat}:∀{l:List Nat},(∀b∈l,b∈L0)->(jR h h' l).all (fun p=>mem L0 p.1)=true
 | [],_=>rfl
 |b::l,hh=>by
  unfold jR;split
  . rw[qQ1,q66];exact⟨mem_iff.2 (hh b z145q),ST fun c hc=>hh c K4⟩
  . exact ST fun c hc=>hh c K4
theorem wOf_put{h h':Ad}{b:Nat}{q:AObj}(hq:h' b=some q):∀(l:List Nat) (h0:Ad),h0 b=h b\/h0 b=some q->b∈l\/h0 b=some q->hputs h0 (jR h h' l) b=some q
 | [],h0,_,hh=>by
  rcases hh with hh|hh
  . simp at hh
  . exact hh
 |c::l,h0,ha,hh=>by
  unfold jR;split
  . rename_i q' hs hq';show hputs (hput h0 c q') (jR h h' l) b=some q
    by_cases hb:b=c
    . subst hb;rw[hq]at hq'
      cases hq'
      exact wOf_put hq l _ (.inr (At _ _ _)) (.inr (At _ _ _))
    . refine wOf_put hq l _ (by rw[AU _ _ hb];exact ha) ?_;rcases hh with hh|hh
      . simp[hb]at hh;exact .inl hh
      . exact .inr (by rw[AU _ _ hb];exact hh)
  . rename_i hn;refine wOf_put hq l _ ha ?_
    by_cases hb:b=c
    . subst hb;refine .inr ?_;rcases ha with ha|ha
      . cases e:sameAt h h' b with
        |true=>rw[ha,UN e,hq]
        |false=>exact absurd hq (hn _ e)
      . exact ha
    . rcases hh with hh|hh
      . simp[hb]at hh;exact .inl hh
      . exact .inr hh
theorem Qs{p:Nat->Prop}:∀{L:List Nat},(∀b∈L,p b)->AllL L p
 | [],_=>trivial
 |b::L,h=>⟨h b z145q,Qs fun c hc=>h c K4⟩
def JB(h:Ad)(L:List Nat):List Nat->Bool
  | []=>true
  |b::l=>match h b with
    |some q=>q.avoid (mem L)&&JB h L l
    |none=>false
theorem HF{h:Ad}{L:List Nat}:∀{l:List Nat},JB h L l=true->∀b∈l,∃q,h b=some q/\q.avoid (mem L)=true
 |c::l,hh,b,hb=>by
  unfold JB at hh;split at hh
  . rename_i q hq;rw[q66]at hh;rcases q99.1 hb with rfl|hb
    . exact⟨q,hq,hh.1⟩
    . exact HF hh.2 b hb
  . cases hh
theorem cv{L0 F:List Nat}(hf:∀b∈F,h b=some .free):hres h (L0++F)=hres h L0:=by
 funext b;unfold hres
 cases e0:mem L0 b with
 |true=>
  have:mem (L0++F) b=true:=mem_iff.2 (q78.2 (.inl (mem_iff.1 e0)));rw[this]
 |false=>
  cases e1:mem (L0++F) b with
  |false=>rfl
  |true=>
   rcases q78.1 (mem_iff.1 e1)with h1|h1
   . rw[mem_iff.2 h1]at e0;cases e0
   . rw[qZ7,qZ3];exact hf b h1
def Hi(h:Ad)(k:Nat)(xs:List AV):List Nat:=bif xs.all AV.isPure then []else(List.range k).filter fun b=>(h b).isSome
def Gj(k k':Nat)(h':Ad):List Nat:=(List.range' k (k'-k)).filter fun b=>(h' b).isSome
def T1(h h':Ad)(k k':Nat)(xs:List AV)(r:AV):Bool:=
  (Gj k k' h').all (GX h)&&(xs.all (AV.avoid (mem (Hi h k xs++Gj k k' h')))&&(JB h (Hi h k xs++Gj k k' h') (Hi h k xs++Gj k k' h')&&
    (JB h' (Hi h k xs++Gj k k' h') (Hi h k xs++Gj k k' h')&&r.avoid (mem (Hi h k xs++Gj k k' h')))))
def P6(o:Op)(e:Ax):Option (Nat×List AV):=
  match o with
  | .call ⟨.value (.func f),args,_⟩=>match A8 e args.toList with
    |some xs=>some (f,xs)
    |none=>none
  |_=>none
variable {P : Program} {o : Oper} {e : Ax}
theorem Wg{f:Nat}{xs:List AV}{fn:Func}{k k':Nat}{r:AV}(hc:P6 o.op e=some (f,xs))(hf:P.funcs[f]?=some fn)(hnm:(fn.name== "runtime.NumGoroutine")=false)(hb:fn.body.isSome=true)
 (hfit:T1 h h' k k' xs r=true) (hcall:ACall P f xs (hres h (Hi h k xs)) (fun r1 h1=>r1=r/\h1=h')):
 OLoc P o e h (Hi h k xs++Gj k k' h') (jR h h' (Hi h k xs++Gj k k' h')) (some r):=by
 unfold T1 at hfit;rw[q66,q66,q66,q66]at hfit;obtain⟨c1,c2,c3,c4,c5⟩:=hfit;unfold P6 at hc;split at hc
 . rename_i f' args tys ho;split at hc
   . rename_i ys hx;simp only[q53,q98]at hc;obtain⟨rfl,rfl⟩:=hc;refine Jf (hc:=hres h (Hi h k ys)) (hw:=h') _ _ ho hf hnm hb hx c2 (Qs (HF c3)) (ST fun b hb=>hb) (cv fun b hb=>C7 (q67.1 c1 b hb)) (Qs fun b hb=>?_) c5 (hcall.mono fun r1 h1 hh=>?_)
     . obtain⟨q,q1,q2⟩:=HF c4 b hb;exact⟨q,q1,wOf_put q1 _ _ (.inl rfl) (.inl hb),q2⟩
     . obtain⟨rfl,rfl⟩:=hh;exact⟨rfl,HSub.refl _⟩
   . cases hc
 . cases hc
def IZ(P:Program)(T:Nat->Option Av)(mt:Nat->String->Option Nat)(ct:Nat->Option (List AV->Option AV))(cl:XCall)(ops:Array Oper)(n:Nat):List Oper->Ax->Ad->Nat->XLog->List (List Nat×List Nat)->Option (Ax×Ad×Nat×XLog)
  | [],e,h,k,lg,acc=>match jT ops acc with
    |true=>some (e,h,k,lg)
    |false=>none
  |o::l,e,h,k,lg,acc=>match A0 ops o e with
    |some false=>match o.dst with
      |some d=>match Nat.blt d n with
        |true=>IZ P T mt ct cl ops n l (Aa e d (.tup [])) h k lg (acc++[([],[])])
        |false=>none
      |none=>IZ P T mt ct cl ops n l e h k lg (acc++[([],[])])
    |some true=>match o.dst with
      |some d=>match Nat.blt d n with
        |true=>match lp P T o.op e h with
          |some (R,r)=>IZ P T mt ct cl ops n l (Aa e d r) h k lg (acc++[(R,[])])
          |none=>match aA P T o.dst o.op e h k with
            |some (R,W,some r,k')=>IZ P T mt ct cl ops n l (Aa e d r) (hputs h W) k' lg (acc++[(R,W.map (·.1))])
            |some (_,_,none,_)=>none
            |none=>match mm mt ct o.op e with
              |some (f,xs,r)=>match PP P f with
                |some _=>IZ P T mt ct cl ops n l (Aa e d r) h k ((f,xs,r)::lg) (acc++[([],[])])
                |none=>none
              |none=>match P6 o.op e with
                |some (f,xs)=>match PP P f,cl f xs (hres h (Hi h k xs)) k lg with
                  |some _,some (r,h',k',lg')=>match T1 h h' k k' xs r with
                    |true=>IZ P T mt ct cl ops n l (Aa e d r) (hputs h (jR h h' (Hi h k xs++Gj k k' h'))) k' lg' (acc++[(Hi h k xs++Gj k k' h',(jR h h' (Hi h k xs++Gj k k' h')).map (·.1))])
                    |false=>none
                  |_,_=>none
                |none=>none
        |false=>none
      |none=>match aA P T o.dst o.op e h k with
        |some (R,W,none,k')=>IZ P T mt ct cl ops n l e (hputs h W) k' lg (acc++[(R,W.map (·.1))])
        |_=>none
    |none=>none
section
variable {P : Program} {T : Nat -> Option Av} {mt : Nat -> String -> Option Nat} {ct : Nat -> Option (List AV -> Option AV)} {cl : XCall} {ops : Array Oper} {n : Nat}
theorem mD{o:Oper}{rest:List Oper}{e:Ax}{h:Ad}{acc:List (List Nat×List Nat)}{K:Al->Prop}(hd:o.dst=none)(hg:A0 ops o e=some false)(hr:DOps P ops n rest e h (acc++[([],[])]) K):DOps P ops n (o::rest) e h acc K:=by
 have:=YG (P:=P) (ops:=ops) (n:=n) (e:=e) (h:=h) (acc:=acc) (K:=K) (o:=o) (rest:=rest) hg (fun t e=>by rw[hd]at e;cases e);rw[hd]at this;exact this hr
theorem xDops_spec(hT:CE P T)(hcl:cl.Ok P):∀(l:List Oper) {e e':Ax} {h h':Ad} {k k':Nat} {lg lg':XLog} {acc:List (List Nat×List Nat)},IZ P T mt ct cl ops n l e h k lg acc=some (e',h',k',lg')->
 (∀p∈lg,p∈lg')/\(Gr P lg'->∀K:Al->Prop,K ⟨n,e',h'⟩->DOps P ops n l e h acc K)
 | [],e,e',h,h',k,k',lg,lg',acc,hx=>by
  unfold IZ at hx;split at hx
  . rename_i hc;simp only[q53,q98]at hx;obtain⟨rfl,rfl,rfl,rfl⟩:=hx;exact⟨fun p hp=>hp,fun _ K hK=>DOps.nil hc hK⟩
  . cases hx
 |o::l,e,e',h,h',k,k',lg,lg',acc,hx=>by
  unfold IZ at hx;split at hx
  . rename_i hg;split at hx
    . rename_i d hd;split at hx
      . rename_i hb;obtain⟨a1,a2⟩:=xDops_spec hT hcl l hx;exact⟨a1,fun hl K hK=>YF d hd hb hg (a2 hl K hK)⟩
      . cases hx
    . rename_i hd;obtain⟨a1,a2⟩:=xDops_spec hT hcl l hx;exact⟨a1,fun hl K hK=>mD hd hg (a2 hl K hK)⟩
  . rename_i hg;split at hx
    . rename_i d hd;split at hx
      . rename_i hb;split at hx
        . rename_i R r hq;obtain⟨a1,a2⟩:=xDops_spec hT hcl l hx;exact⟨a1,fun hl K hK=>DOps.s d hd hb hg (Rt hT hq) (a2 hl K hK)⟩
        . split at hx
          . rename_i R W r k1 hv;obtain⟨a1,a2⟩:=xDops_spec hT hcl l hx;exact⟨a1,fun hl K hK=>DOps.x d hd hb hg (JH hT hv) (a2 hl K hK)⟩
          . cases hx
          . split at hx
            . rename_i f xs r hc;split at hx
              . rename_i fc hfn;obtain⟨fn,c⟩:=fc;obtain⟨f1,f2,f3⟩:=FK hfn;obtain⟨a1,a2⟩:=xDops_spec hT hcl l hx;refine⟨fun p hp=>a1 p (by simp[hp]),fun hl K hK=>DOps.x d hd hb hg (Sz hc f1 f3 (by rw[f2];rfl) (hl (f,xs,r) (a1 _ z145q))) (a2 hl K hK)⟩
              . cases hx
            . split at hx
              . rename_i f xs hc;split at hx
                . rename_i fc r h1 k1 lg1 hfn hcall;obtain⟨fn,c⟩:=fc;obtain⟨f1,f2,f3⟩:=FK hfn;split at hx
                  . rename_i hfit;obtain⟨a1,a2⟩:=xDops_spec hT hcl l hx;obtain⟨b1,b2⟩:=hcl _ _ _ _ _ _ _ _ _ hcall;exact⟨fun p hp=>a1 p (b1 p hp),fun hl K hK=>DOps.x d hd hb hg (Wg hc f1 f3 (by rw[f2];rfl) hfit (b2 (fun p hp=>hl p (a1 p hp)))) (a2 hl K hK)⟩
                  . cases hx
                . cases hx
              . cases hx
      . cases hx
    . rename_i hd;split at hx
      . rename_i R W k1 hv;obtain⟨a1,a2⟩:=xDops_spec hT hcl l hx;exact⟨a1,fun hl K hK=>DOps.w hd hg (JH hT hv) (a2 hl K hK)⟩
      . cases hx
  . cases hx
end
def Kr(T:Nat->Option Av)(e:Ax)(h:Ad):List ResultVar->Option (List AV)
  | []=>some []
  | .tmp t::rs=>match e t,Kr T e h rs with
    |some x,some xs=>some (x::xs)
    |_,_=>none
  | .cell a t::rs=>match e a,T t with
    |some p,some i=>match ZG h p with
      |some (_,cs)=>match Jk i cs,Kr T e h rs with
        |some x,some xs=>some (x::xs)
        |_,_=>none
      |none=>none
    |_,_=>none
theorem FA{T:Nat->Option Av}{n:Nat}{e:Ax}{h:Ad}:∀{rs:List ResultVar} {xs:List AV},Kr T e h rs=some xs->Hy T ⟨n,e,h⟩ rs xs
 | [],xs,hx=>by simp[Kr]at hx;subst hx;trivial
 | .tmp t::rs,xs,hx=>by
  unfold Kr at hx;split at hx
  . rename_i x ys h1 h2;simp only[q53]at hx;subst hx;exact⟨h1,FA h2⟩
  . cases hx
 | .cell a t::rs,xs,hx=>by
  unfold Kr at hx;split at hx
  . rename_i p i h1 h2;split at hx
    . rename_i R cs h3;split at hx
      . rename_i x ys h4 h5;simp only[q53]at hx;subst hx;exact⟨⟨p,i,R,cs,h1,h2,Pd h3,h4⟩,FA h5⟩
      . cases hx
    . cases hx
  . cases hx
def M4:Exit->Bool
  | .normal| .ret=>true
  |_=>false
abbrev yM:=Option (Exit×Ax×Ad×Nat×XLog)
def Mg(P:Program)(T:Nat->Option Av)(mt:Nat->String->Option Nat)(ct:Nat->Option (List AV->Option AV))(fz:Nat->Nat->Option Nat):Nat->Nat->Code->Ax->Ad->Nat->XLog->yM
  |0,_,_,_,_,_,_=>none
  |g+1,n,c,e,h,k,lg=>match c with
    | .skip=>some (.normal,e,h,k,lg)
    | .label _=>some (.normal,e,h,k,lg)
    | .exit id=>some (.exit id,e,h,k,lg)
    | .ret=>some (.ret,e,h,k,lg)
    | .seq a b=>match Mg P T mt ct fz g n a e h k lg with
      |some (x,e1,h1,k1,lg1)=>match x with
        | .normal=>Mg P T mt ct fz g n b e1 h1 k1 lg1
        |x=>some (x,e1,h1,k1,lg1)
      |none=>none
    | .cond (.tmp t) a b=>match e t with
      |some (.bool true)=>Mg P T mt ct fz g n a e h k lg
      |some (.bool false)=>Mg P T mt ct fz g n b e h k lg
      |_=>none
    | .block id b=>match Mg P T mt ct fz g n b e h k lg with
      |some (x,e1,h1,k1,lg1)=>match x with
        | .exit id'=>match Nat.beq id' id with
          |true=>some (.normal,e1,h1,k1,lg1)
          |false=>some (.exit id',e1,h1,k1,lg1)
        |x=>some (x,e1,h1,k1,lg1)
      |none=>none
    | .loop b=>match Mg P T mt ct fz g n b e h k lg with
      |some (x,e1,h1,k1,lg1)=>match x with
        | .normal=>Mg P T mt ct fz g n (.loop b) e1 h1 k1 lg1
        |x=>some (x,e1,h1,k1,lg1)
      |none=>none
    | .scope b=>match Mg P T mt ct fz g n b e h k lg with
      |some (x,e1,h1,k1,lg1)=>match x with
        | .goto _=>none
        |x=>some (x,e1,h1,k1,lg1)
      |none=>none
    | .region id ops dr=>(match V1 fz n id k e h with
      |(e0,h0)=>match dr with
      |false=>match NU P T mt ct (fun f xs h k lg=>match PP P f with
          |some (fn,c)=>match Mg P T mt ct fz g (xs.length+(fn.ntmps-xs.length)) c (HH xs) h k lg with
            |some (x,e1,h1,k1,lg1)=>match M4 x,Kr T e1 h1 fn.results.toList with
              |true,some ys=>some (Gg ys,h1,k1,lg1)
              |_,_=>none
            |none=>none
          |none=>none) ops n ops.toList e0 h0 k lg with
        |some (e1,h1,k1,lg1)=>some (.normal,e1,h1,k1,lg1)
        |none=>none
      |true=>match IZ P T mt ct (fun f xs h k lg=>match PP P f with
          |some (fn,c)=>match Mg P T mt ct fz g (xs.length+(fn.ntmps-xs.length)) c (HH xs) h k lg with
            |some (x,e1,h1,k1,lg1)=>match M4 x,Kr T e1 h1 fn.results.toList with
              |true,some ys=>some (Gg ys,h1,k1,lg1)
              |_,_=>none
            |none=>none
          |none=>none) ops n ops.toList e0 h0 k lg []with
        |some (e1,h1,k1,lg1)=>some (.normal,e1,h1,k1,lg1)
        |none=>none)
    |_=>none
def xCl(P:Program)(T:Nat->Option Av)(mt:Nat->String->Option Nat)(ct:Nat->Option (List AV->Option AV))(fz:Nat->Nat->Option Nat)(g:Nat):XCall:=fun f xs h k lg=>match PP P f with
  |some (fn,c)=>match Mg P T mt ct fz g (xs.length+(fn.ntmps-xs.length)) c (HH xs) h k lg with
    |some (x,e1,h1,k1,lg1)=>match M4 x,Kr T e1 h1 fn.results.toList with
      |true,some ys=>some (Gg ys,h1,k1,lg1)
      |_,_=>none
    |none=>none
  |none=>none
def IF(x:Exit)(s:Al):Exit->Al->Prop:=fun x1 s1=>x1=x/\s1=s
variable {P : Program} {T : Nat -> Option Av} {mt : Nat -> String -> Option Nat} {ct : Nat -> Option (List AV -> Option AV)} {fz : Nat -> Nat -> Option Nat}
variable {x : Exit}
theorem N0{s s1:Al}{x1:Exit}{K:Al->Prop}{Q:Exit->Al->Prop}(h:IF x s x1 s1)(hn:x=.normal->K s)(ho:x≠ .normal->Q x s):Ce K Q x1 s1:=by
 obtain⟨rfl,rfl⟩:=h
 cases x1 with
 |normal=>exact hn rfl
 |_=>exact ho EU
theorem pH(hT:CE P T){g:Nat}(ih:∀n c e h k lg x e' h' k' lg',Mg P T mt ct fz g n c e h k lg=some (x,e',h',k',lg')->(∀p∈lg,p∈lg')/\(Gr P lg'->AGo P c ⟨n,e,h⟩ (IF x ⟨n,e',h'⟩))):(xCl P T mt ct fz g).Ok P:=by
 intro f xs h k lg r h' k' lg' hx;unfold xCl at hx;split at hx
 . rename_i fn c hfn;obtain⟨f1,f2,f3⟩:=FK hfn;split at hx
   . rename_i x e1 h1 k1 lg1 hg;split at hx
     . rename_i ys hend hres;simp only[q53,q98]at hx;obtain⟨rfl,rfl,rfl,rfl⟩:=hx;obtain⟨a1,a2⟩:=ih _ _ _ _ _ _ _ _ _ _ _ hg;refine⟨a1,fun hl=>ACall.of_body hT f1 f2 rfl (AGo.mono (a2 hl) fun x1 s1 hh=>?_)⟩;obtain⟨rfl,rfl⟩:=hh
       cases x1<;>simp[M4]at hend
       . exact⟨ys,FA hres,rfl,rfl⟩
       . exact⟨ys,FA hres,rfl,rfl⟩
     . cases hx
   . cases hx
 . cases hx
theorem Uo(hT:CE P T)(hmt:hZ P mt)(hmx:P.follows .mixedOrders=true):∀(g n:Nat) (c:Code) (e:Ax) (h:Ad) (k:Nat) (lg:XLog) (x:Exit) (e':Ax) (h':Ad) (k':Nat) (lg':XLog),Mg P T mt ct fz g n c e h k lg=some (x,e',h',k',lg')->
 (∀p∈lg,p∈lg')/\(Gr P lg'->AGo P c ⟨n,e,h⟩ (IF x ⟨n,e',h'⟩)/\∀b,c=.loop b->∃m,Un P b (IF x ⟨n,e',h'⟩) m ⟨n,e,h⟩)
 |0,_,_,_,_,_,_,_,_,_,_,_,hx=>by cases hx
 |g+1,n,c,e,h,k,lg,x,e',h',k',lg',hx=>by
  have ih:=Uo hT hmt hmx g;have ih1:∀n c e h k lg x e' h' k' lg',Mg P T mt ct fz g n c e h k lg=some (x,e',h',k',lg')->(∀p∈lg,p∈lg')/\(Gr P lg'->AGo P c ⟨n,e,h⟩ (IF x ⟨n,e',h'⟩)):=
   fun n c e h k lg x e' h' k' lg' hg=>⟨(ih n c e h k lg x e' h' k' lg' hg).1,fun hl=>((ih n c e h k lg x e' h' k' lg' hg).2 hl).1⟩
  have hcl:=pH (P:=P) (mt:=mt) (ct:=ct) (fz:=fz) hT ih1
  cases c with
  |skip=>
   simp only[Mg,q53,q98]at hx;obtain⟨rfl,rfl,rfl,rfl,rfl⟩:=hx;exact⟨fun p hp=>hp,fun _=>⟨AGo.skip ⟨rfl,rfl⟩,fun b hb=>by cases hb⟩⟩
  |label l=>
   simp only[Mg,q53,q98]at hx;obtain⟨rfl,rfl,rfl,rfl,rfl⟩:=hx;exact⟨fun p hp=>hp,fun _=>⟨AGo.label ⟨rfl,rfl⟩,fun b hb=>by cases hb⟩⟩
  |exit id=>
   simp only[Mg,q53,q98]at hx;obtain⟨rfl,rfl,rfl,rfl,rfl⟩:=hx;exact⟨fun p hp=>hp,fun _=>⟨AGo.exit ⟨rfl,rfl⟩,fun b hb=>by cases hb⟩⟩
  |ret=>
   simp only[Mg,q53,q98]at hx;obtain⟨rfl,rfl,rfl,rfl,rfl⟩:=hx;exact⟨fun p hp=>hp,fun _=>⟨AGo.ret ⟨rfl,rfl⟩,fun b hb=>by cases hb⟩⟩
  |seq a b=>
   simp only[Mg]at hx;split at hx
   . rename_i x1 e1 h1 k1 lg1 hg;obtain⟨a1,a2⟩:=ih1 _ _ _ _ _ _ _ _ _ _ _ hg;split at hx
     . obtain⟨b1,b2⟩:=ih1 _ _ _ _ _ _ _ _ _ _ _ hx;exact⟨fun p hp=>b1 p (a1 p hp),fun hl=>⟨AGo.seq (AGo.mono (a2 fun p hp=>hl p (b1 p hp)) fun x2 s2 hh=>N0 hh (fun _=>b2 hl) (fun hn=>absurd rfl hn)),fun b hb=>by cases hb⟩⟩
     . rename_i hne;simp only[q53,q98]at hx;obtain⟨rfl,rfl,rfl,rfl,rfl⟩:=hx;exact⟨a1,fun hl=>⟨AGo.seq (AGo.mono (a2 hl) fun x2 s2 hh=>N0 hh (fun hn=>absurd hn hne) (fun _=>⟨rfl,rfl⟩)),fun b hb=>by cases hb⟩⟩
   . cases hx
  |cond o a b=>
   cases o with
   |tmp t=>
    simp only[Mg]at hx;split at hx
    . rename_i ht;obtain⟨a1,a2⟩:=ih1 _ _ _ _ _ _ _ _ _ _ _ hx;exact⟨a1,fun hl=>⟨AGo.cond_true true ht rfl (a2 hl),fun b hb=>by cases hb⟩⟩
    . rename_i ht;obtain⟨a1,a2⟩:=ih1 _ _ _ _ _ _ _ _ _ _ _ hx;exact⟨a1,fun hl=>⟨AGo.cond_false false ht rfl (a2 hl),fun b hb=>by cases hb⟩⟩
    . cases hx
   |_=>simp only[Mg]at hx;cases hx
  |block id b=>
   simp only[Mg]at hx;split at hx
   . rename_i x1 e1 h1 k1 lg1 hg;obtain⟨a1,a2⟩:=ih1 _ _ _ _ _ _ _ _ _ _ _ hg;split at hx
     . rename_i id';split at hx
       . rename_i hid;exact zt88
       . rename_i hid;exact zt88
     . rename_i hne;simp only[q53,q98]at hx;obtain⟨rfl,rfl,rfl,rfl,rfl⟩:=hx;refine⟨a1,fun hl=>⟨AGo.block (AGo.mono (a2 hl) fun x2 s2 hh=>?_),fun b hb=>by cases hb⟩⟩;obtain⟨rfl,rfl⟩:=hh
       cases x2 with
       |exit i=>exact absurd rfl (hne i)
       |_=>exact⟨rfl,rfl⟩
   . cases hx
  |loop b=>
   simp only[Mg]at hx;split at hx
   . rename_i x1 e1 h1 k1 lg1 hg;obtain⟨a1,a2⟩:=ih1 _ _ _ _ _ _ _ _ _ _ _ hg;split at hx
     . obtain⟨b1,b2⟩:=ih _ _ _ _ _ _ _ _ _ _ _ hx;refine⟨fun p hp=>b1 p (a1 p hp),fun hl=>?_⟩;obtain⟨m,hm⟩:=(b2 hl).2 b rfl;have hu:Un P b (IF x ⟨n,e',h'⟩) (m+1) ⟨n,e,h⟩:=Ww (AGo.mono (a2 fun p hp=>hl p (b1 p hp)) fun x2 s2 hh=>N0 hh (fun _=>hm) (fun hn=>absurd rfl hn));exact⟨Qu _ hu,fun b' hb=>by cases hb;exact⟨_,hu⟩⟩
     . rename_i hne;simp only[q53,q98]at hx;obtain⟨rfl,rfl,rfl,rfl,rfl⟩:=hx;refine⟨a1,fun hl=>?_⟩;have hu:Un P b (IF x1 ⟨n,e1,h1⟩) 0 ⟨n,e,h⟩:=Wv (AGo.mono (a2 hl) fun x2 s2 hh=>N0 hh (fun hn=>absurd hn hne) (fun _=>⟨rfl,rfl⟩));exact⟨Qu _ hu,fun b' hb=>by cases hb;exact⟨_,hu⟩⟩
   . cases hx
  |scope b=>
   simp only[Mg]at hx;split at hx
   . rename_i x1 e1 h1 k1 lg1 hg;obtain⟨a1,a2⟩:=ih1 _ _ _ _ _ _ _ _ _ _ _ hg;split at hx
     . cases hx
     . rename_i hne;simp only[q53,q98]at hx;obtain⟨rfl,rfl,rfl,rfl,rfl⟩:=hx;refine⟨a1,fun hl=>⟨AGo.scope (AGo.mono (a2 hl) fun x2 s2 hh=>?_),fun b hb=>by cases hb⟩⟩;obtain⟨rfl,rfl⟩:=hh
       cases x2 with
       |goto i=>exact absurd rfl (hne i)
       |_=>exact⟨rfl,rfl⟩
   . cases hx
  |region id ops dr=>
   cases dr with
   |false=>
    simp only[Mg]at hx;generalize hfz:V1 fz n id k e h=eh at hx;obtain⟨e0,h0⟩:=eh;have hgst:=NL hfz;simp only at hx;split at hx
    . rename_i e1 h1 k1 lg1 hg;simp only[q53,q98]at hx;obtain⟨rfl,rfl,rfl,rfl,rfl⟩:=hx;obtain⟨a1,a2⟩:=Eo hT hmt hcl _ hg;exact⟨a1,fun hl=>⟨AGo.ghost hgst (AGo.region (a2 hl _ ⟨rfl,rfl⟩)),fun b hb=>by cases hb⟩⟩
    . cases hx
   |true=>
    simp only[Mg]at hx;generalize hfz:V1 fz n id k e h=eh at hx;obtain⟨e0,h0⟩:=eh;have hgst:=NL hfz;simp only at hx;split at hx
    . rename_i e1 h1 k1 lg1 hg;simp only[q53,q98]at hx;obtain⟨rfl,rfl,rfl,rfl,rfl⟩:=hx;obtain⟨a1,a2⟩:=xDops_spec hT hcl _ hg;exact⟨a1,fun hl=>⟨AGo.ghost hgst (Wx hmx (a2 hl _ ⟨rfl,rfl⟩)),fun b hb=>by cases hb⟩⟩
    . cases hx
  |_=>simp only[Mg]at hx;cases hx
theorem QT{c:Code}{s s1 s2:Al}(h:AGo P c s (IF x s1))(hg:Ghost s1 s2):AGo P c s (IF x s2):=fun H ι a w hs=>
 wp_mono (h H ι a w hs) fun e a' w' hp=>by
  obtain⟨s',H',ι',⟨rfl,rfl⟩,h1,h2⟩:=hp;obtain⟨H2,ι2,h3,h4⟩:=hg H' ι' a' w' h1;exact⟨s2,H2,ι2,⟨rfl,rfl⟩,h3,h2.trans hs.heap h1.heap h4⟩
def Td(e:Ax):List ResultVar->List Nat
  | []=>[]
  | .tmp t::rs=>(match e t with|some x=>Te x|none=>[])++Td e rs
  | .cell t _::rs=>(match e t with|some x=>Te x|none=>[])++Td e rs
def vO(P:Program)(T:Nat->Option Av)(mt:Nat->String->Option Nat)(ct:Nat->Option (List AV->Option AV))(fz:Nat->Nat->Option Nat)(g f:Nat)(xs:List AV):Option (AV×XLog):=match PP P f with
  |some (fn,c)=>match Mg P T mt ct fz g (xs.length+(fn.ntmps-xs.length)) c (HH xs) hNew 0 []with
    |some (x,e1,h1,k1,lg1)=>match V0 (xs.length+(fn.ntmps-xs.length)) k1 (Tg h1 4 (Td e1 fn.results.toList)) e1 h1 with
      |(e2,h2)=>match M4 x,Kr T e2 h2 fn.results.toList with
        |true,some ys=>match(Gg ys).isPure with
          |true=>some (Gg ys,lg1)
          |false=>none
        |_,_=>none
    |none=>none
  |none=>none
variable {r : AV} {f : Nat} {xs : List AV} {lg : XLog}
theorem DZ(hT:CE P T)(hmt:hZ P mt)(hmx:P.follows .mixedOrders=true)(g:Nat)
 (hx:vO P T mt ct fz g f xs=some (r,lg)) (hl:Gr P lg):APure P f xs (fun r'=>r'=r):=by
 unfold vO at hx;split at hx
 . rename_i fn c hfn;obtain⟨f1,f2,f3⟩:=FK hfn;split at hx
   . rename_i x e1 h1 k1 lg1 hg;split at hx;rename_i e2 h2 hfz;split at hx
     . rename_i ys hend hres;split at hx
       . rename_i hp;simp only[q53,q98]at hx;obtain⟨rfl,rfl⟩:=hx;have ha:=((Uo hT hmt hmx g _ _ _ _ _ _ _ _ _ _ _ hg).2 hl).1;refine APure.of_body hT f1 f2 rfl (AGo.mono (QT ha (G4 _ hfz)) fun x1 s1 hh=>?_);obtain⟨rfl,rfl⟩:=hh
         cases x1<;>simp[M4]at hend
         . exact⟨ys,FA hres,rfl,hp⟩
         . exact⟨ys,FA hres,rfl,hp⟩
       . cases hx
     . cases hx
   . cases hx
 . cases hx
theorem FF(P:Program):Gr P []:=fun p hp=>by cases hp
theorem FI(h:APure P f xs (fun r'=>r'=r))(hl:Gr P lg):Gr P ((f,xs,r)::lg):=fun p hp=>by
 cases hp with
 |head=>exact h
 |tail _ hp=>exact hl p hp
theorem J4{a b:XLog}(h1:Gr P a)(h2:Gr P b):Gr P (a++b):=fun p hp=>(q78.1 hp).elim (h1 p) (h2 p)
def tinyA:BFunc:=⟨3,[⟨[⟨1,0,0,0,0,0,0,60⟩,⟨1,1,0,0,0,0,0,5⟩,⟨3,2,0,1,4,0,0,0⟩,⟨9,0,2,0,0,0,0,0⟩],3,0,0,0⟩]⟩
def tinyB:BFunc:=⟨3,[⟨[⟨1,0,0,0,0,0,0,60⟩,⟨1,1,0,0,0,0,0,5⟩,⟨1,2,0,0,0,0,0,65⟩,⟨9,0,2,0,0,0,0,0⟩],3,0,0,0⟩]⟩
def tinyC:BFunc:=⟨3,[⟨[⟨1,2,0,0,0,0,0,65⟩,⟨9,0,2,0,0,0,0,0⟩],3,0,0,0⟩]⟩
def Zf(f:BFunc):Blocks:=⟨0,[f]⟩
theorem QS{args:List AV}{h0:Ad}(hp:r.isPure=true)(hc:ACall P f args hNew (fun r' h'=>r'=r/\HSub h0 h')):APure P f args (fun r'=>r'=r):=by
 intro H w vs ha hk;refine(hc H A7 w vs ha (NK hk)).mono fun e w' hx=>?_
 obtain⟨v,r',h',H',ι',rfl,⟨rfl,_⟩,h3,h4,h5⟩:=hx;have hno:∀rb,¬DP hNew A7 rb:=fun rb ho=>by obtain⟨b,o,r,e1,e2,e3,_⟩:=ho;cases e3
 exact⟨v,r',H',rfl,rfl,GQ hp h3,⟨h5.size,h5.os,h5.out,fun rb hlt=>h5.keep rb hlt (hno rb),h5.kle,fun b hb=>(h5.knew b hb).imp id fun h=>h.resolve_right (hno b),h4.know⟩⟩
def wa:Nat->String->Option Nat:=fun t s=>bif Nat.beq t 97 then(bif s== "seedcorn/optimize.run" then some 128 else bif s== "seedcorn/optimize.holds" then some 127 else none)else bif Nat.beq t 99 then(bif s== "seedcorn/optimize.run" then some 142 else bif s== "seedcorn/optimize.holds" then some 141 else none)else none
theorem mt_cr(v:Value)(w:World):(method (Tryz.prog.types.size+Made.depth) 97 v "seedcorn/optimize.run").run Tryz.prog w=.ok (128,v) w:=by kernel_rfl
theorem mt_ch(v:Value)(w:World):(method (Tryz.prog.types.size+Made.depth) 97 v "seedcorn/optimize.holds").run Tryz.prog w=.ok (127,v) w:=by kernel_rfl
theorem mt_jr(v:Value)(w:World):(method (Tryz.prog.types.size+Made.depth) 99 v "seedcorn/optimize.run").run Tryz.prog w=.ok (142,v) w:=by kernel_rfl
theorem mt_jh(v:Value)(w:World):(method (Tryz.prog.types.size+Made.depth) 99 v "seedcorn/optimize.holds").run Tryz.prog w=.ok (141,v) w:=by kernel_rfl
theorem RJ:hZ Tryz.prog wa:=fun t name f v w h=>by
 unfold wa at h
 cases ht:Nat.beq t 97 with
 |true=>
  obtain rfl:=q25 ht;rw[ht]at h;simp only[qZ7]at h
  cases h1:name== "seedcorn/optimize.run" with
  |true=>
   rw[h1]at h;obtain rfl:=eq_of_beq h1;simp only[qZ7,q53]at h;subst h;exact mt_cr v w
  |false=>
   rw[h1]at h
   cases h2:name== "seedcorn/optimize.holds" with
   |true=>
    rw[h2]at h;obtain rfl:=eq_of_beq h2;simp only[qZ7,qZ3,q53]at h;subst h;exact mt_ch v w
   |false=>rw[h2]at h;cases h
 |false=>
  rw[ht]at h
  cases ht2:Nat.beq t 99 with
  |true=>
   obtain rfl:=q25 ht2;rw[ht2]at h;simp only[qZ7,qZ3]at h
   cases h1:name== "seedcorn/optimize.run" with
   |true=>
    rw[h1]at h;obtain rfl:=eq_of_beq h1;simp only[qZ7,q53]at h;subst h;exact mt_jr v w
   |false=>
    rw[h1]at h
    cases h2:name== "seedcorn/optimize.holds" with
    |true=>
     rw[h2]at h;obtain rfl:=eq_of_beq h2;simp only[qZ7,qZ3,q53]at h;subst h;exact mt_jh v w
    |false=>rw[h2]at h;cases h
  |false=>rw[ht2]at h;cases h
def cx:Nat->Nat->Option Nat:=fun n i=>bif Nat.beq n 83&&Nat.beq i 14 then some 6 else bif Nat.beq n 90&&Nat.beq i 19 then some 14 else none
def tinyBl:Block:=⟨[⟨1,2,0,0,0,0,0,65⟩,⟨9,0,2,0,0,0,0,0⟩],3,0,0,0⟩
def SX:AV:=.tup [.lst false [[.int .u64 0]],.lst false [[.int .u64 4]]]
def yK:Nat->Option (List AV->Option AV):=fun f=>bif Nat.beq f 97 then some (fun _=>some SX)else none
def T0:AV:=.lst false [[.lst false [[.bool true],[.bool true],[.bool true]]]]
def jl:AV:=.lst false [[.lst false [[.bool false],[.bool false],[.bool false]]]]
def fh:List AV:=[.int .i64 3,.lst false [[.lst true (tinyBl.ins.map Tac.cells),.int .i64 3,.int .i64 0,.int .i64 0,.int .i64 0]]]
def pX:AV:=.lst false [
  [.int .i64 1,T0,.nil]++tinyB.cells,
  [.int .i64 2,T0,.nil]++tinyB.cells,
  [.int .i64 3,jl,.nil]++tinyC.cells,
  [.int .i64 4,.nil,.lst false [[.lst false [[.int .i64 0]]]]]++fh]
def Ze:AV:=.tup [.agg [.int .i64 0,.lst false [fh]],.lst false [[pX]],.int .i64 0]
def WZ:List AV:=[.agg (Zf tinyA).cells,.lst false [[.int .i64 1],[.int .i64 2],[.int .i64 3],[.int .i64 4]]]
def zg:Nat->Option (List AV->Option AV):=fun f=>bif Nat.beq f 129 then some (fun _=>some (.bool true))else bif Nat.beq f 30 then some (fun _=>some (.agg (Zf tinyA).cells))else bif Nat.beq f 15 then some (fun xs=>match xs with| [_,.lst _ (_::_::_)]=>some Ze|_=>none)else none
def lG:Nat->Option (List AV->Option AV):=fun _=>none
def I2:XLog:=[(30,[],.agg (Zf tinyA).cells)]
def pV:XLog:=[(129,[.agg tinyB.cells,.agg tinyC.cells,.agg [jl]],.bool true),(129,[.agg tinyB.cells,.agg tinyB.cells,.agg [T0]],.bool true),(129,[.agg tinyA.cells,.agg tinyB.cells,.agg [T0]],.bool true)]
variable {o : Oper} {e : Ax} {h : Ad}
variable {α : Type}
theorem LW{F:List α}{f:α->List AV}{z y:List AV}{k n i:Nat}(hF:F.length=n)(hk:k<=n):n=(((F.take k).map f++List.replicate (n-k) z).set i y).length:=by
 rw[q83];exact AG hF hk
theorem LX{F:List α}{f:α->List AV}{z y:List AV}{k n:Nat}(hF:F.length=n)(hk:k<n):(((F.take k).map f++List.replicate (n-k) z).set (0+((k:Nat):Int).toNat) y)[0+((k:Nat):Int).toNat]?=some y:=by
 have:=AG (f:=f) (z:=z) hF (qX0 hk);rw[q21 z144q]
theorem Xj{l:List α}{i:Nat}{x y:α}:(l.set i x).set i y=l.set i y:=by
 apply q62;intro j;simp only[q60];split<;>simp_all
theorem Tq(l:List (List OPass)):∀cs∈l.map (fun x=>[Ds x]),cs.all AV.isPure1=true:=fun cs h=>by
 obtain⟨x,_,rfl⟩:=qX3.1 h;rfl
variable {l : List (List OPass)} {m : Nat} {q : Nat -> Bool}
theorem KK:(AObj.row false 1 (l.map (fun x=>[Ds x])++List.replicate m [AV.nil])).avoid q=true:=by
 show List.all _ _=true;rw[q92,q66];refine⟨q67.2 fun cs h=>?_,q67.2 fun cs h=>?_⟩
 . obtain⟨x,_,rfl⟩:=qX3.1 h;rfl
 . rw[(List.mem_replicate.1 h).2];rfl
theorem Nt{i b n:Nat}(hb:q b=true):(AObj.row false 1 ((l.map (fun x=>[Ds x])++List.replicate m [AV.nil]).set i [.ref b n 0 n])).avoid q=true:=by
 show List.all _ _=true;refine q67.2 fun cs h=>?_
 rcases q08 h with h|rfl
 . exact q67.1 (KK (q:=q) (l:=l) (m:=m)) cs h
 . simp[AV.avoid,AV.flat,hb]
structure I35(f:BFunc):Prop where
  c:f.count<=300
  w:f.words
variable {f : BFunc}
theorem I35.n(h:I35 f):f.blocks.length<=10000:=by have:=E2 f;have:=h.c;omega
theorem I35.i(h:I35 f):∀x∈f.blocks,x.ins.length<=10000/\H6 x.ins:=fun x hx=>by
 have h1:x.count<=f.count:=PE hx;have:=h.c;simp only[Block.count]at h1;exact⟨by omega,h.w x hx⟩
structure y4(p:OPass):Prop where
  f:I35 p.f
  n:p.paths.length<=1048576
  q:∀r∈p.paths,r.length<=1048576
end Go.Proofs.YtbbfelelocccmaaGreat.Sv
namespace Go.Proofs.YtbbfelelocccmaaGreat
open Go Go.ChangeShapes Go.WideShapes Go.ChangeAt Go.RowKit Sv
variable {H : Type} {enc : TypeId × Value -> H} {W : World}
theorem decIntsR:DecR enc Tryz.prog W 25 (fun l:List Int=>[AS l]) (fun l n=>(∀x∈l,Ue x)/\l.length+1<=n):=fun fuel cs x h hw=>by
 obtain⟨l,h1,_,h2⟩:=DecR.slice' (j:=yZ) Ai rfl rfl rfl (q68 _) (DecR.of (Cb Ai rfl rfl)) fuel cs x h hw;refine⟨l,h1,fun y hy=>?_,h2.len (fun a m h=>h.2)⟩;obtain⟨m,hm,_⟩:=h2.all y hy;exact DC hm.1
theorem words_row{b:Blocks}(h:b.Ok):∀f∈b.funcs,f.words:=fun f hf x hx=>BFunc.Ok.insW (h.funcs f hf) hx
end Go.Proofs.YtbbfelelocccmaaGreat
namespace Go.Proofs.YtbbfelelocccmaaGreat
open Go Go.ChangeShapes Go.WideShapes Go.ChangeAt Go.RowKit Sv
variable {H : Type} {enc : TypeId × Value -> H} {W : World}
theorem blocksI_row{b:Blocks}{n:Nat}(h:b.Ok/\b.count+b.funcs.length<=n)(hn:n<=1048576):b.Lim/\b.insW:=⟨lim_row h hn,words_row h.1⟩
theorem ints23_row{l:List Int}{n:Nat}(h:(∀x∈l,Ue x)/\l.length+1<=n)(hn:n<=1048576):l.length<=1048576:=by omega
end Go.Proofs.YtbbfelelocccmaaGreat
namespace Go.Proofs.YtbbfelelocccmaaGreat.Sv
open Go
def Ck(d:Int)(fr:List Int):List Int:=fr.mapIdx fun v s=>bif ((v:Int)==d||s==d)then(v:Int)else s
def subT(fr:List Int)(t:Tac):Tac:=bif use1 t.op then {t with a:=rget fr t.a}else bif use2 t.op then {t with a:=rget fr t.a,b:=rget fr t.b}else t
def Dh(fr:List Int)(t:Tac):List Int:=
  bif decide (t.sets>=0)then(bif (t.op==2&&t.a !=t.sets)then A5 (Ck t.sets fr) t.sets t.a else Ck t.sets fr)else fr
def Di:List Int->List Tac->List Tac×List Int
  |fr,[]=>([],fr)
  |fr,t::l=>(subT fr t::(Di (Dh fr (subT fr t)) l).1,(Di (Dh fr (subT fr t)) l).2)
def Ku(R:Nat):List Int:=(List.range R).map fun(v:Nat)=>(v:Int)
def Block.forward(R:Nat)(x:Block):Block:=
  {x with ins:=(Di (Ku R) x.ins).1,v:=bif x.fin==2 then rget (Di (Ku R) x.ins).2 x.v else x.v}
def BFunc.forward(f:BFunc):BFunc:=⟨f.regs,f.blocks.map (Block.forward f.regs.toNat)⟩
def BFunc.fcert(f:BFunc):Cert:=⟨List.replicate f.blocks.length (List.replicate f.regs.toNat true)⟩
theorem Dc(d:Int)(fr:List Int):(Ck d fr).length=fr.length:=by simp[Ck]
variable {l : List Int} {v : Nat}
theorem UV(h:v<l.length):l[v]?=some (rget l v):=by
 unfold rget;rw[show(v:Int).toNat=v from rfl,q13 h];rfl
theorem Lq{l':List Int}(h:l.length=l'.length)(hv:∀v:Nat,v<l.length->rget l v=rget l' v):l=l':=by
 apply q62;intro v
 by_cases hl:v<l.length
 . rw[UV hl,UV z144q,hv v hl]
 . rw[q26 z144q,q26 z144q]
theorem Dd{d:Int}{fr:List Int}(h:v<fr.length):rget (Ck d fr) v=bif ((v:Int)==d||rget fr v==d)then(v:Int)else rget fr v:=by
 unfold rget Ck;rw[show(v:Int).toNat=v from rfl,List.getElem?_mapIdx,q13 h];rfl
theorem ZX(R:Nat):(Ku R).length=R:=by simp[Ku]
theorem Iw{R:Nat}(h:v<R):rget (Ku R) v=v:=by simp[rget,Ku,h]
theorem Dn(l:List Int)(i v:Int):(A5 l i v).length=l.length:=by unfold A5;simp
variable {d : Nat}
theorem EW{x:Int}(hd:d<l.length):rget (A5 l (d:Int) x) (v:Int)=if v=d then x else rget l v:=by
 unfold rget A5;rw[show(v:Int).toNat=v from rfl,show(d:Int).toNat=d from rfl,q60]
 by_cases h:d=v
 . subst h;simp[hd]
 . rw[qZ9 h,qZ9 (Ne.symm h)]
def Ud(ks:List Int):Ft:=ks.map fun z=>(z,.bool true)
theorem PH{z:Int}:∀{ks:List Int},z∉ks->Kj z (.bool true) (Ud ks)=Ud (ks++[z])
 | [],_=>rfl
 |k::ks,h=>by
  show(bif z==k then _ else(k,_)::Kj z _ (Ud ks))=_;rw[show(z==k)=false by simpa using fun e=>h (by rw[e];exact q99.2 (.inl rfl)),PH (fun e=>h (q99.2 (.inr e)))];rfl
theorem VC{z:Int}:∀{ks:List Int},kdel z (Ud ks)=Ud (ks.erase z)
 | []=>rfl
 |k::ks=>by
  show(bif z==k then _ else(k,_)::kdel z (Ud ks))=_;rw[List.erase_cons]
  by_cases h:z=k
  . subst h;simp[Ud]
  . rw[show(z==k)=false by simpa using h,show(k==z)=false by simpa using Ne.symm h,VC];rfl
theorem gA(ks:List Int):(Ud ks).map (·.1)=ks:=by simp[Ud,Function.comp_def]
structure FwI(R:Nat)(fr:List Int)(to:List (Option Nat))(maps:List (List Int)):Prop where
  lenF:fr.length=R
  lenT:to.length=R
  ran:∀v:Nat,v<R->0<=rget fr v/\rget fr v<R
  root:∀v:Nat,v<R->rget fr (rget fr v)=rget fr v
  sm:∀a j:Nat,to[a]?=some (some j)->∃ks,maps[j]?=some ks/\ks.Nodup/\∀v:Int,v∈ks↔(0<=v/\v<R/\v≠a/\rget fr v=a)
  nn:∀a:Nat,to[a]?=some none->∀v:Nat,v<R->rget fr v=a->v=a
  inj:∀a b j:Nat,to[a]?=some (some j)->to[b]?=some (some j)->a=b
theorem qy(R:Nat):FwI R (Ku R) (List.replicate R none) [] where
 lenF:=ZX R
 lenT:=by simp
 ran:=fun v hv=>by rw[Iw hv];omega
 root:=fun v hv=>by rw[Iw hv,Iw hv]
 sm:=fun a j h=>by rw[q19]at h;split at h<;>simp at h
 nn:=fun a h v hv e=>by rw[Iw hv]at e;omega
 inj:=fun a b j h=>by rw[q19]at h;split at h<;>simp at h
variable {R : Nat} {fr : List Int} {to : List (Option Nat)} {maps : List (List Int)}
variable {a : Nat}
theorem FwI.to_of(h:FwI R fr to maps)(ha:a<R):∃o,to[a]?=some o:=⟨_,q13 (by rw[h.lenT];exact ha)⟩
theorem FwI.off(h:FwI R fr to maps){s:Nat}(hd:d<R)(hs:rget fr d=s)(hne:s≠d):∃j ks,to[s]?=some (some j)/\maps[j]?=some ks/\FwI R (A5 fr (d:Int) d) to (maps.set j (ks.erase (d:Int))):=by
 have hsR:s<R:=by have:=(h.ran d hd).2;omega
 obtain⟨o,ho⟩:=h.to_of hsR
 cases o with
 |none=>exact absurd (h.nn s ho d hd hs) (Ne.symm hne)
 |some j=>
  obtain⟨ks,k1,k2,k3⟩:=h.sm s j ho;have hg:∀v:Nat,rget (A5 fr (d:Int) d) v=if v=d then(d:Int)else rget fr v:=fun v=>EW (by rw[h.lenF];exact hd)
  refine⟨j,ks,ho,k1,⟨by rw[Dn,h.lenF],h.lenT,fun v hv=>?_,fun v hv=>?_,fun a j' ha=>?_,fun a ha v hv e=>?_,h.inj⟩⟩
  . rw[hg];split
    . omega
    . exact h.ran v hv
  . rw[hg v];split
    . rw[hg d,qK0 rfl]
    . obtain⟨r0,r1⟩:=h.ran v hv;obtain⟨u,hu⟩:∃u:Nat,rget fr v=u:=⟨(rget fr v).toNat,by omega⟩
      rw[hu,hg u];split
      . rename_i e;rw[e]
      . have:=h.root v hv;rw[hu]at this;exact this
  . have hlt:j<maps.length:=(q05.1 k1).1
    by_cases hj:j'=j
    . subst hj;have:=h.inj a s j' ha ho;subst this;refine⟨ks.erase d,by rw[q21 hlt],k2.erase _,fun v=>?_⟩;rw[k2.mem_erase_iff,k3];constructor
      . rintro⟨e1,e2,e3,e4,e5⟩
        obtain⟨u,rfl⟩:∃u:Nat,v=u:=⟨v.toNat,by omega⟩
        refine⟨e2,e3,e4,?_⟩;rw[hg,qZ9 (by intro e;exact e1 (by rw[e]))];exact e5
      . rintro⟨e2,e3,e4,e5⟩
        obtain⟨u,rfl⟩:∃u:Nat,v=u:=⟨v.toNat,by omega⟩
        rw[hg]at e5
        by_cases hu:u=d
        . rw[qK0 hu]at e5;omega
        . rw[qZ9 hu]at e5;exact⟨by omega,e2,e3,e4,e5⟩
    . obtain⟨ks',q1,q2,q3⟩:=h.sm a j' ha;refine⟨ks',by rw[q36 (Ne.symm hj)];exact q1,q2,fun v=>?_⟩;rw[q3];have has:a≠s:=fun e=>hj (by subst e;rw[ho]at ha;cases ha;rfl)
      constructor
      . rintro⟨e2,e3,e4,e5⟩
        obtain⟨u,rfl⟩:∃u:Nat,v=u:=⟨v.toNat,by omega⟩
        exact dZ
      . rintro⟨e2,e3,e4,e5⟩
        obtain⟨u,rfl⟩:∃u:Nat,v=u:=⟨v.toNat,by omega⟩
        rw[hg]at e5
        by_cases hu:u=d
        . rw[qK0 hu]at e5;omega
        . rw[qZ9 hu]at e5;exact⟨e2,e3,e4,e5⟩
  . rw[hg]at e
    by_cases hv':v=d
    . rw[qK0 hv']at e;omega
    . rw[qZ9 hv']at e;exact h.nn a ha v hv e
theorem FwI.off0(h:FwI R fr to maps)(hd:d<R)(hs:rget fr d=d):A5 fr (d:Int) d=fr:=
 Lq (Dn _ _ _) fun v hv=>by
  rw[Dn]at hv;rw[EW (by rw[h.lenF];exact hd)]
  by_cases e:v=d
  . rw[qK0 e,e,hs]
  . rw[qZ9 e]
theorem FwI.clear(h:FwI R fr to maps)(hd:d<R)(hs:rget fr d=d):FwI R (Ck d fr) (to.set d none) maps:=by
 have hg:∀v:Nat,v<R->rget (Ck d fr) v=if rget fr v=d then(v:Int)else rget fr v:=fun v hv=>by
  rw[Dd (by rw[h.lenF];exact hv)]
  by_cases e:rget fr v=d
  . rw[qK0 e];simp[e]
  . rw[qZ9 e]
    by_cases e2:v=d
    . subst e2;exact absurd hs e
    . rw[show((v:Int)==d)=false from q40.2 z144q,show(rget fr v==(d:Int))=false from q40.2 e];rfl
 refine⟨by rw[Dc,h.lenF],by simp[h.lenT],fun v hv=>?_,fun v hv=>?_,fun a j ha=>?_,fun a ha v hv e=>?_,fun a b j ha hb=>?_⟩
 . rw[hg v hv];split
   . omega
   . exact h.ran v hv
 . rw[hg v hv];split
   . rename_i e;rw[hg v hv,qK0 e]
   . rename_i e;obtain⟨r0,r1⟩:=h.ran v hv;obtain⟨u,hu⟩:∃u:Nat,rget fr v=u:=⟨(rget fr v).toNat,by omega⟩
     have hr:=h.root v hv;rw[hu]at hr e|-;rw[hg u z144q,qZ9 (by rw[hr];exact e)];exact hr
 . rw[q60]at ha;split at ha
   . split at ha<;>simp at ha
   . rename_i hda;obtain⟨ks,q1,q2,q3⟩:=h.sm a j ha;refine⟨ks,q1,q2,fun v=>?_⟩;rw[q3];constructor
     . rintro⟨e2,e3,e4,e5⟩
       obtain⟨u,rfl⟩:∃u:Nat,v=u:=⟨v.toNat,by omega⟩
       refine⟨e2,e3,e4,?_⟩;rw[hg u z144q,qZ9 (by rw[e5];omega)];exact e5
     . rintro⟨e2,e3,e4,e5⟩
       obtain⟨u,rfl⟩:∃u:Nat,v=u:=⟨v.toNat,by omega⟩
       rw[hg u z144q]at e5
       by_cases e:rget fr u=d
       . rw[qK0 e]at e5;exact absurd e5 e4
       . rw[qZ9 e]at e5;exact⟨e2,e3,e4,e5⟩
 . rw[hg v hv]at e;rw[q60]at ha
   by_cases e1:rget fr v=d
   . rw[qK0 e1]at e;omega
   . rw[qZ9 e1]at e
     by_cases hda:d=a
     . subst hda;exact absurd e e1
     . rw[qZ9 hda]at ha;exact h.nn a ha v hv e
 . rw[q60]at ha hb
   by_cases e1:d=a
   . rw[qK0 e1]at ha;split at ha<;>simp at ha
   . by_cases e2:d=b
     . rw[qK0 e2]at hb;split at hb<;>simp at hb
     . rw[qZ9 e1]at ha;rw[qZ9 e2]at hb;exact h.inj a b j ha hb
theorem MA(h:FwI R fr to maps)(hd:d<R):Ck d (A5 fr (d:Int) d)=Ck d fr:=
 Lq (by rw[Dc,Dc,Dn]) fun v hv=>by
  rw[Dc,Dn,h.lenF]at hv;rw[Dd (by rw[Dn,h.lenF];exact hv),Dd (by rw[h.lenF];exact hv),EW (by rw[h.lenF];exact hd)]
  by_cases e:v=d
  . subst e;simp
  . rw[qZ9 e]
theorem FwI.copied(h:FwI R fr to maps)(hd:d<R)(ha:a<R)(hne:a≠d)(hs:rget fr d=d)(hn:to[d]?=some none)(hra:rget fr a=a):
 (∃j ks,to[a]?=some (some j)/\maps[j]?=some ks/\(d:Int)∉ks/\FwI R (A5 fr (d:Int) a) to (maps.set j (ks++[(d:Int)])))\/(to[a]?=some none/\FwI R (A5 fr (d:Int) a) (to.set a (some maps.length)) (maps++[[(d:Int)]])):=by
 have hg:∀v:Nat,rget (A5 fr (d:Int) a) v=if v=d then(a:Int)else rget fr v:=fun v=>EW (by rw[h.lenF];exact hd)
 have hno:∀v:Nat,v<R->rget fr v=d->v=d:=h.nn d hn
 have ran:∀v:Nat,v<R->0<=rget (A5 fr (d:Int) a) v/\rget (A5 fr (d:Int) a) v<R:=fun v hv=>by
  rw[hg];split
  . omega
  . exact h.ran v hv
 have root:∀v:Nat,v<R->rget (A5 fr (d:Int) a) (rget (A5 fr (d:Int) a) v)=rget (A5 fr (d:Int) a) v:=fun v hv=>by
  rw[hg v];split
  . rw[hg a,qZ9 hne];exact hra
  . rename_i e;obtain⟨r0,r1⟩:=h.ran v hv;obtain⟨u,hu⟩:∃u:Nat,rget fr v=u:=⟨(rget fr v).toNat,by omega⟩
    have hr:=h.root v hv;rw[hu]at hr|-;rw[hg u,qZ9 (fun e2=>by subst e2;exact e (hno v hv hu))];exact hr
 have keys:∀(b:Nat) (ks:List Int),b≠a->(∀v:Int,v∈ks↔(0<=v/\v<R/\v≠b/\rget fr v=b))->b≠d->∀v:Int,v∈ks↔(0<=v/\v<R/\v≠b/\rget (A5 fr (d:Int) a) v=b):=fun b ks hba hk hbd v=>by
  rw[hk];constructor
  . rintro⟨e2,e3,e4,e5⟩
    obtain⟨u,rfl⟩:∃u:Nat,v=u:=⟨v.toNat,by omega⟩
    exact dZ
  . rintro⟨e2,e3,e4,e5⟩
    obtain⟨u,rfl⟩:∃u:Nat,v=u:=⟨v.toNat,by omega⟩
    rw[hg]at e5
    by_cases e:u=d
    . rw[qK0 e]at e5;omega
    . rw[qZ9 e]at e5;exact⟨e2,e3,e4,e5⟩
 have nones:∀b:Nat,b≠a->to[b]?=some none->∀v:Nat,v<R->rget (A5 fr (d:Int) a) v=b->v=b:=fun b hba hb v hv e=>by
  rw[hg]at e
  by_cases e2:v=d
  . rw[qK0 e2]at e;omega
  . rw[qZ9 e2]at e;exact h.nn b hb v hv e
 obtain⟨o,ho⟩:=h.to_of ha
 cases o with
 |some j=>
  left;obtain⟨ks,k1,k2,k3⟩:=h.sm a j ho;have hlt:j<maps.length:=(q05.1 k1).1;have hdk:(d:Int)∉ks:=fun e=>by have:=((k3 d).1 e).2.2.2;rw[hs]at this;omega
  refine⟨j,ks,ho,k1,hdk,⟨by rw[Dn,h.lenF],h.lenT,ran,root,fun b j' hb=>?_,fun b hb=>nones b (fun e=>by subst e;rw[ho]at hb;cases hb) hb,h.inj⟩⟩
  by_cases hj:j'=j
  . subst hj;have:=h.inj b a j' hb ho;subst this;refine⟨ks++[(d:Int)],by rw[q21 hlt],q65.2 ⟨k2,by simp,fun x hx y hy e=>by rw[q47.1 hy]at e;subst e;exact hdk hx⟩,fun v=>?_⟩;rw[q78,q47,k3];constructor
    . rintro(⟨e2,e3,e4,e5⟩|rfl)
      . obtain⟨u,rfl⟩:∃u:Nat,v=u:=⟨v.toNat,by omega⟩
        exact dZ
      . exact⟨by omega,by omega,by omega,by rw[hg,qK0 rfl]⟩
    . rintro⟨e2,e3,e4,e5⟩
      obtain⟨u,rfl⟩:∃u:Nat,v=u:=⟨v.toNat,by omega⟩
      rw[hg]at e5
      by_cases e:u=d
      . right;rw[e]
      . rw[qZ9 e]at e5;exact .inl ⟨e2,e3,e4,e5⟩
  . obtain⟨ks',q1,q2,q3⟩:=h.sm b j' hb;have hba:b≠a:=fun e=>hj (by subst e;rw[ho]at hb;cases hb;rfl)
    have hbd:b≠d:=fun e=>by subst e;rw[hn]at hb;cases hb
    exact⟨ks',by rw[q36 (Ne.symm hj)];exact q1,q2,keys b ks' hba q3 hbd⟩
 |none=>
  right;have hlen:a<to.length:=by rw[h.lenT];exact ha
  have hmj:∀b j',to[b]?=some (some j')->j'<maps.length:=fun b j' hb=>by
   obtain⟨ks',q1,_⟩:=h.sm b j' hb;exact(q05.1 q1).1
  refine⟨ho,⟨by rw[Dn,h.lenF],by simp[h.lenT],ran,root,fun b j' hb=>?_,fun b hb=>?_,fun b c j' hb hc=>?_⟩⟩
  . rw[q60]at hb
    by_cases hab:a=b
    . subst hab;rw[qK0 rfl,qK0 hlen]at hb
      cases hb
      refine⟨[(d:Int)],by rw[q02 (qZ0 _)];simp,by simp,fun v=>?_⟩;rw[q47];constructor
      . rintro rfl
        exact⟨by omega,by omega,by omega,by rw[hg,qK0 rfl]⟩
      . rintro⟨e2,e3,e4,e5⟩
        obtain⟨u,rfl⟩:∃u:Nat,v=u:=⟨v.toNat,by omega⟩
        rw[hg]at e5
        by_cases e:u=d
        . rw[e]
        . rw[qZ9 e]at e5;exact absurd (h.nn a ho u z144q e5) z144q
    . rw[qZ9 hab]at hb;obtain⟨ks',q1,q2,q3⟩:=h.sm b j' hb;have hbd:b≠d:=fun e=>by subst e;rw[hn]at hb;cases hb
      exact⟨ks',by rw[q06 (hmj b j' hb)];exact q1,q2,keys b ks' (Ne.symm hab) q3 hbd⟩
  . rw[q60]at hb
    by_cases hab:a=b
    . rw[qK0 hab,qK0 hlen]at hb;cases hb
    . rw[qZ9 hab]at hb;exact nones b (Ne.symm hab) hb
  . rw[q60]at hb hc
    by_cases h1:a=b
    . rw[qK0 h1,qK0 hlen]at hb
      cases hb
      by_cases h2:a=c
      . omega
      . rw[qZ9 h2]at hc;have:=hmj c _ hc;omega
    . rw[qZ9 h1]at hb
      by_cases h2:a=c
      . rw[qK0 h2,qK0 hlen]at hc;cases hc;have:=hmj b _ hb;omega
      . rw[qZ9 h2]at hc;exact h.inj b c j' hb hc
variable {h : Ad} {H : AA} {ι : Bp} {w w' : World} {rb : Nat}
theorem Step.unowned{H':AA}{ι':Bp}{h':Ad}(hr:HeapRel H ι h w)(hr':HeapRel H' ι' h' w')(st:Step H ι h w H' ι' h' w')(hlt:rb<w.heap.size)(hu:¬DP h ι rb):¬DP h' ι' rb:=by
 rintro⟨b,o,r',h1,h2,h3,h4,rfl⟩
 rcases st.newrb b r' h3 h4 with e|e|⟨r,e1,e2,e3⟩
 . cases hb:h b with
   |none=>have:=st.dom b hb;rw[h1]at this;cases this
   |some o'=>
    cases ho:o'.alive with
    |true=>exact hu ⟨b,o',r',hb,ho,e,h4,rfl⟩
    |false=>
     have:o'=.free:=by cases o'<;>first|rfl|cases ho
     subst this;rw[hr.free b hb]at e;cases e
 . omega
 . cases hb:h b with
   |none=>have:=st.dom b hb;rw[h1]at this;cases this
   |some o'=>
    cases ho:o'.alive with
    |true=>exact hu ⟨b,o',r,hb,ho,e1,e2,e3⟩
    |false=>
     have:o'=.free:=by cases o'<;>first|rfl|cases ho
     subst this;rw[hr.free b hb]at e1;cases e1
theorem HeapRel.away(hr:HeapRel H ι h w)(hk:∀b,b<w.heap.size->b≠rb->w'.heap[b]?=w.heap[b]?)(hu:¬DP h ι rb)(hn:H rb=none):HeapRel H ι h w' where
 know:=fun b c hc=>by
  obtain⟨T,fr,e⟩:=hr.know b c hc;exact⟨T,fr,by rw[hk b (hr.knowlt hc) (fun e=>by subst e;rw[hn]at hc;cases hc)];exact e⟩
 free:=hr.free
 obj:=fun b o h1 h2=>by
  obtain⟨r,e1,e2,e3⟩:=hr.obj b o h1 h2;exact⟨r,e1,e2.mono (KLe.refl _) (LLe.refl _) fun hs=>hk r.rb (hr.lt ⟨b,o,r,h1,h2,e1,hs,rfl⟩) fun e=>hu ⟨b,o,r,h1,h2,e1,hs,e⟩,e3⟩
 inj:=hr.inj
 glob:=hr.glob
variable {h0 : Ad} {H0 : AA}
theorem Step.away{ι0:Bp}{w0:World}(st:Step H0 ι0 h0 w0 H ι h w)(hrb:w0.heap.size<=rb)(hk:∀b,b<w.heap.size->b≠rb->w'.heap[b]?=w.heap[b]?)(hs:w.heap.size<=w'.heap.size)(ho:w'.os=w.os)(hu:w'.output=w.output):Step H0 ι0 h0 w0 H ι h w' where
 size:=qX2 st.size hs
 os:=ho.trans st.os
 out:=hu.trans st.out
 keep:=fun b hlt hno=>(hk b (q51 hlt st.size) z144q).trans (st.keep b hlt hno)
 kle:=st.kle
 knew:=st.knew
 lle:=st.lle
 lframe:=st.lframe
 newrb:=st.newrb
 dom:=st.dom
variable {o : AObj} {b : Nat} {r : Ent}
theorem HeapRel.back(hr:HeapRel H ι h w)(ha:o.alive=true)(hl:ι b=some r)(ho:ObjOk H ι w r o)(hk:r.solid->H r.rb=none)(hu:r.solid->¬DP h ι r.rb):HeapRel H ι (hput h b o) w where
 know:=hr.know
 free:=fun x e=>by
  by_cases hx:x=b
  . subst hx;rw[At]at e;cases e;cases ha
  . rw[AU _ _ hx]at e;exact hr.free x e
 obj:=fun x o' e h2=>by
  by_cases hx:x=b
  . subst hx;rw[At]at e;cases e;exact⟨r,hl,ho,hk⟩
  . rw[AU _ _ hx]at e;exact hr.obj x o' e h2
 inj:=fun x x' o1 o2 r1 r2 e1 a1 e2 a2 l1 l2 s1 s2 hne heq=>by
  by_cases hx:x=b
  . subst hx;rw[hl]at l1;cases l1;rw[AU _ _ (Ne.symm hne)]at e2;exact hu s1 ⟨x',o2,r2,e2,a2,l2,s2,heq.symm⟩
  . rw[AU _ _ hx]at e1
    by_cases hx':x'=b
    . subst hx';rw[hl]at l2;cases l2;exact hu s2 ⟨x,o1,r1,e1,a1,l1,s1,heq⟩
    . rw[AU _ _ hx']at e2;exact hr.inj x x' o1 o2 r1 r2 e1 a1 e2 a2 l1 l2 s1 s2 hne heq
 glob:=hr.glob
theorem Step.back{ι0:Bp}{w0:World}(st:Step H0 ι0 h0 w0 H ι h w)(hb:h0 b≠none):Step H0 ι0 h0 w0 H ι (hput h b o) w:=
 ⟨st.size,st.os,st.out,st.keep,st.kle,st.knew,st.lle,st.lframe,st.newrb,fun x hx=>by
  by_cases hxb:x=b
  . subst hxb;exact absurd hx hb
  . rw[AU _ _ hxb];exact st.dom x hx⟩
theorem lL{ι':Bp}(h:LLe ι ι')(hr:ι b=some r)(h0:r.sz=0):ι' b=some r:=by
 obtain⟨r',e1,e2⟩:=h b r hr;rcases e2 with rfl|⟨_,e2,_⟩
 . exact e1
 . omega
theorem cm{es:Array MapEntry}{seen:Array Nat}{e:MapEntry}:(leftOf es (seen.push e.born)).toList=(leftOf es seen).toList.filter (fun x=> !(x.born==e.born)):=by
 unfold leftOf;rw[Array.toList_filter,Array.toList_filter,List.filter_filter];congr 1;funext x;rw[Array.contains_push,Bool.not_or,Bool.and_comm,Bool.and_comm]
theorem PX{e:MapEntry}:∀{l:List MapEntry},(l.map (·.born)).Nodup->e∈l->∃l1 l2,l=l1++e::l2/\l.filter (fun x=> !(x.born==e.born))=l1++l2
 | [],_,h=>by cases h
 |x::l,hn,h=>by
  have hn':=q93.1 hn;rcases q99.1 h with rfl|h
  . refine⟨[],l,rfl,?_⟩;rw[List.filter_cons_of_neg z145q];exact List.filter_eq_self.2 fun y hy=>by
     have:y.born≠e.born:=fun e2=>hn'.1 (by show e.born∈_;rw[<-e2];exact qX3.2 ⟨y,hy,rfl⟩)
     simpa using this
  . obtain⟨l1,l2,e1,e2⟩:=PX hn'.2 h;have:x.born≠e.born:=fun e3=>hn'.1 (by show x.born∈_;rw[e3];exact qX3.2 ⟨e,h,rfl⟩)
    refine⟨x::l1,l2,by rw[e1];rfl,?_⟩;rw[List.filter_cons_of_pos (by simpa using this),e2];rfl
def NF(e:MapEntry):Int:=match e.key with| .int _ z=>z|_=>0
variable {m : Ft}
theorem EntRel.keys{K:IntKind}{es:List MapEntry}(h:EntRel H K m es):es.map NF=m.map (·.1)/\∀e∈es,e.key=.int K (NF e):=by
 induction h with
 |nil=>exact⟨rfl,fun e h=>by cases h⟩
 |cons z v m e es hk hv h ih=>
  refine⟨by simp[NF,hk,ih.1],fun x hx=>?_⟩;rcases q99.1 hx with rfl|hx
  . simp[NF,hk]
  . exact ih.2 x hx
structure mz(w:World)(rb mrb since:Nat)(seen:Array Nat)(es:Array MapEntry):Prop where
  it:w.heap[rb]?=some (.mapIter (some mrb) since seen since)
  mp:w.heap[mrb]?=some (.map es since)
theorem Fk{a:Act}{v:Value}(h:d<a.tmps.size):(a.put (some d) v).eval (.tmp d)=v:=by
 simp[Act.put,Act.eval,h]
variable {e : Ax}
theorem Kd(h:e d=none):QP e d=e:=by
 funext x
 by_cases hx:x=d
 . subst hx;rw[M5,h]
 . rw[TS _ hx]
variable {P : Program} {K : IntKind}
theorem SP{n:Nat}{γ:Type}{S:γ->Al}{J:List Int->γ->Prop}{rb mrb since:Nat}{es:Array MapEntry}{tI dN dX dE dY d bid bid2 id5 id6:Nat}{oN oX oE oY oA:Oper}{body:Code}{Q:Exit->Al->Prop}{tN:TypeId}
 (hN:oN.op=.next (.tmp tI) false/\oN.dst=some dN/\oN.guard=none) (hX:oX.op=.extract (.tmp dN) 0/\oX.dst=some dX/\oX.guard=none) (hE:oE.op=.entry (.tmp tI)/\oE.dst=some dE/\oE.guard=none)
 (hY:oY.op=.extract (.tmp dE) 0/\oY.dst=some dY/\oY.guard=none) (hA:oA.op=.assign (.tmp dY)/\oA.dst=some d/\oA.guard=none) (hlt:dN<n/\dX<n/\dE<n/\dY<n/\d<n) (hne:tI≠dN/\tI≠dX/\tI≠dE/\tI≠dY)
 (hS:∀g,(S g).n=n/\(S g).env tI=some (.val (.pointer (some ⟨rb,0,none⟩)))/\(S g).env dN=none/\(S g).env dX=none/\(S g).env dE=none/\(S g).env dY=none/\(S g).env d=none)
 (hbo:BornOk since (es.toList.map (·.born))) (hk:∀e∈es.toList,e.key=.int K (NF e))
 (hround:∀l1 z l2 g,J (l1++z::l2) g->AGo P body ⟨n,Aa (S g).env d (.int K z),(S g).h⟩ (fun e s'=>e=.normal/\∃g',J (l1++l2) g'/\Sub (S g') s'))
 {b:Nat} {m:Ft} {r:Ent} (hend:∀g,J [] g->Q .normal ⟨(S g).n,(S g).env,hput (S g).h b (.map (kvs K m))⟩) (hr1:r.sz=0) (hr2:r.solid) (hr3:r.rb=mrb)
 {H0:AA} {ι0:Bp} {h0:Ad} {w0:World} (hr0:HeapRel H0 ι0 h0 w0) (hb0:h0 b≠none) (hrb0:w0.heap.size<=rb) (hrm:rb≠mrb) {H:AA} {ι:Bp} {a:Act} {w:World} {seen:Array Nat} {g:γ} (hs:Sim H ι (S g) a w) (hst:Step H0 ι0 h0 w0 H ι (S g).h w) (hit:mz w rb mrb since seen es)
 (hu1:¬DP (S g).h ι rb) (hu2:¬DP (S g).h ι mrb) (hJ:J ((leftOf es seen).toList.map NF) g) (hl:ι b=some r) (hob:ObjOk H ι w r (.map (kvs K m))):
 (Code.block bid (.loop (.seq (.region id5 #[oN,oX] false) (.seq (.cond (.tmp dX) .skip (.exit bid)) (.block bid2 (.seq (.region id6 #[oE,oY,oA] false) body)))))).wp P (Post H0 ι0 h0 w0 Q) a w:=by
 have hnd:(es.toList.map (·.born)).Nodup:=hbo.1.imp (fun h=>Nat.ne_of_lt h);have hsub:∀seen,(leftOf es seen).toList.Sublist es.toList:=fun seen=>by unfold leftOf;rw[Array.toList_filter];exact List.filter_sublist
 refine wp_block (wp_loop (fun a w=>∃H ι seen g,Sim H ι (S g) a w/\Step H0 ι0 h0 w0 H ι (S g).h w/\mz w rb mrb since seen es/\¬DP (S g).h ι rb/\¬DP (S g).h ι mrb/\J ((leftOf es seen).toList.map NF) g/\ι b=some r/\ObjOk H ι w r (.map (kvs K m)))
  (fun a w=>match w.heap[rb]? with|some (.mapIter _ _ seen _)=>(leftOf es seen).size|_=>0) ⟨H,ι,seen,g,hs,hst,hit,hu1,hu2,hJ,hl,hob⟩ ?_)
 clear hs hst hit hu1 hu2 hJ hl hob H ι seen g a w
 rintro a w ⟨H,ι,seen,g,hs,hst,hit,hu1,hu2,hJ,hl,hob⟩
 obtain⟨s1,s2,s3,s4,s5,s6,s7⟩:=hS g;have hsz:a.tmps.size=n:=by rw[hs.n,s1]
 have hI:a.eval (.tmp tI)=.pointer (some ⟨rb,0,none⟩):=by
  have:=Ao hs (o:=.tmp tI) s2;generalize a.eval (.tmp tI)=v at this
  cases this;rfl
 have wN:∀(ops:Array Oper) (o:Oper) (t:Array Value),o.guard=none->Region.wanted o (yielded ops t)=true:=fun ops o t ho=>by unfold Region.wanted;rw[ho]
 have hrblt:rb<w.heap.size:=(q03.1 hit.it).1;have hmlt:mrb<w.heap.size:=(q03.1 hit.mp).1;have hHn:H rb=none:=by
  cases e:H rb with
  |none=>rfl
  |some c=>obtain⟨T,fr,e2⟩:=hs.heap.know rb c e;rw[hit.it]at e2;cases e2
 have hold:∀x∈es.toList,x.born<since:=fun x hx=>hbo.2 _ (qX3.2 ⟨x,hx,rfl⟩)
 have hHm:H mrb=none:=by
  cases e:H mrb with
  |none=>rfl
  |some c=>obtain⟨T,fr,e2⟩:=hs.heap.know mrb c e;rw[hit.mp]at e2;cases e2
 have hexit:∀(v:Value),((leftOf es seen).toList=[])->Post H0 ι0 h0 w0 Q .normal ((a.put (some dN) v).put (some dX) (.bool false)) w:=fun v hz=>by
  rw[hz]at hJ;have k3:=hs.put (d:=some dN) (r:=none) (v:=v) hs.heap (Step.refl _ _ _ _) (fun x e=>by cases e) (fun t e=>by cases e;rw[s1];exact hlt.1);have e1:(⟨(S g).n,HC (S g).env (some dN) none,(S g).h⟩:Al)=S g:=by
   show(⟨(S g).n,QP (S g).env dN,(S g).h⟩:Al)=S g;rw[Kd s3]
  rw[e1]at k3;have k4:=k3.put (d:=some dX) (r:=none) (v:=.bool false) k3.heap (Step.refl _ _ _ _) (fun x e=>by cases e) (fun t e=>by cases e;rw[s1];exact hlt.2.1);have e2:(⟨(S g).n,HC (S g).env (some dX) none,(S g).h⟩:Al)=S g:=by
   show(⟨(S g).n,QP (S g).env dX,(S g).h⟩:Al)=S g;rw[Kd s4]
  rw[e2]at k4;exact⟨_,H,ι,hend g hJ,⟨k4.n,k4.d,k4.env,k4.heap.back rfl hl hob (fun _=>by rw[hr3];exact hHm) (fun _=>by rw[hr3];exact hu2)⟩,hst.back hb0⟩
 rcases run_next_at (P:=P) w oN.type rb mrb since since seen es since hit.it hit.mp hold (qZ0 _)with⟨hz,hrun⟩|⟨en,hen,w1,hw1,hrun⟩
 . -- none is left
   have hlz:(leftOf es seen).toList=[]:=q01 (by simpa using hz);refine wp_seq (wp_region_list ?_);unfold wpList;rw[wN _ _ _ hN.2.2,qK0 rfl];refine .inl ?_;unfold Oper.wp;rw[show(execOp a.eval oN).run P w=.ok (.value (.tuple #[.bool false])) w by simp[execOp,hN.1,hI,hrun]];show wpList P _ _ [oX] (a.put oN.dst _) w;rw[hN.2.1];unfold wpList;rw[wN _ _ _ hX.2.2,qK0 rfl];refine .inl ?_;unfold Oper.wp;rw[show(execOp (a.put (some dN) (.tuple #[.bool false])).eval oX).run P w=.ok (.value (.bool false)) w by simp[execOp,hX.1,Fk (by rw[hsz];exact hlt.1),Instr.extract]];rw[Oper.upon_value,hX.2.1];unfold wpList;show(Code.seq _ _).wp P _ _ w;refine wp_seq (wp_cond_false (Fk (by simp[Act.put,hsz];exact hlt.2.1)) (wp_exit ?_));show Exit.inBlock bid (Post H0 ι0 h0 w0 Q) (.exit bid) _ w;simp only[Exit.inBlock,qZ8];exact hexit _ hlz
 . have hmem:=(hsub seen).subset hen;have hkey:=hk en hmem;have hns:((leftOf es seen).toList.map (·.born)).Nodup:=hnd.sublist ((hsub seen).map _);obtain⟨l1,l2,q1,q2⟩:=PX hns hen;have hlp:(leftOf es (seen.push en.born)).toList=l1++l2:=by rw[cm,q2]
   refine wp_seq (wp_region_list ?_);unfold wpList;rw[wN _ _ _ hN.2.2,qK0 rfl];refine .inl ?_;unfold Oper.wp
   let w2:=ChangeMaps.setBlock w1 rb (.mapIter (some mrb) since (seen.push en.born) since)
   rw[show(execOp a.eval oN).run P w=.ok (.value (.tuple #[.bool true,en.key,en.val])) w2 by simp[execOp,hN.1,hI,hrun];rfl];have hw1h:w1.heap=w.heap/\w1.os=w.os/\w1.output=w.output:=by rcases hw1 with rfl|rfl<;>exact⟨rfl,rfl,rfl⟩
   have hw2h:∀b,b≠rb->w2.heap[b]?=w.heap[b]?:=fun b hb=>by
    show(w1.heap.setIfInBounds rb _)[b]?=_;rw[hw1h.1,q00 (Ne.symm hb)]
   have hit2:mz w2 rb mrb since (seen.push en.born) es:=by
    refine⟨?_,by rw[hw2h _ (Ne.symm hrm)];exact hit.mp⟩;show(w1.heap.setIfInBounds rb _)[rb]?=_;rw[hw1h.1];simp[hrblt]
   have hs2:HeapRel H ι (S g).h w2:=hs.heap.away (fun b _ hb=>hw2h b hb) hu1 hHn;have hst2:Step H0 ι0 h0 w0 H ι (S g).h w2:=hst.away hrb0 (fun b _ hb=>hw2h b hb) (by show _<=(w1.heap.setIfInBounds rb _).size;rw[hw1h.1];simp) (by show w1.os=_;exact hw1h.2.1) (by show w1.output=_;exact hw1h.2.2);show wpList P _ _ [oX] (a.put oN.dst _) w2;rw[hN.2.1];unfold wpList;rw[wN _ _ _ hX.2.2,qK0 rfl];refine .inl ?_;unfold Oper.wp;rw[show(execOp (a.put (some dN) (.tuple #[.bool true,en.key,en.val])).eval oX).run P w2=.ok (.value (.bool true)) w2 by simp[execOp,hX.1,Fk (by rw[hsz];exact hlt.1),Instr.extract]];rw[Oper.upon_value,hX.2.1];unfold wpList;show(Code.seq _ _).wp P _ _ w2;refine wp_seq (wp_cond_true (Fk (by simp[Act.put,hsz];exact hlt.2.1)) (wp_skip ?_));show(Code.block _ _).wp P _ _ w2
   let a2:=(a.put (some dN) (.tuple #[.bool true,en.key,en.val])).put (some dX) (.bool true)
   have hI2:a2.eval (.tmp tI)=.pointer (some ⟨rb,0,none⟩):=by
    rw[<-hI];simp only[a2,Act.put,Act.eval];rw[Array.getD_eq_getD_getElem?,Array.getD_eq_getD_getElem?,q00 (Ne.symm hne.2.1),q00 (Ne.symm hne.1)]
   have hsz2:a2.tmps.size=n:=by simp[a2,Act.put,hsz]
   have hsz3:(a2.put (some dE) (.tuple #[en.key,en.val])).tmps.size=n:=by rw[<-hsz2];simp[Act.put]
   refine wp_block (wp_seq (wp_region_list ?_));unfold wpList;rw[wN _ _ _ hE.2.2,qK0 rfl];refine .inl ?_;unfold Oper.wp;rw[show(execOp a2.eval oE).run P w2=.ok (.value (.tuple #[en.key,en.val])) w2 by simp[execOp,hE.1,hI2,run_entry_at w2 rb mrb since seen es since en hit2.it hit2.mp hmem hnd]];show wpList P _ _ [oY,oA] (a2.put oE.dst _) w2;rw[hE.2.1];unfold wpList;rw[wN _ _ _ hY.2.2,qK0 rfl];refine .inl ?_;unfold Oper.wp;rw[show(execOp (a2.put (some dE) (.tuple #[en.key,en.val])).eval oY).run P w2=.ok (.value en.key) w2 by simp[execOp,hY.1,Fk (by rw[hsz2];exact hlt.2.2.1),Instr.extract]];show wpList P _ _ [oA] ((a2.put (some dE) _).put oY.dst _) w2;rw[hY.2.1];unfold wpList;rw[wN _ _ _ hA.2.2,qK0 rfl];refine .inl ?_;unfold Oper.wp;rw[show(execOp ((a2.put (some dE) (.tuple #[en.key,en.val])).put (some dY) en.key).eval oA).run P w2=.ok (.value en.key) w2 by simp[execOp,hA.1,Fk (a:=a2.put (some dE) (.tuple #[en.key,en.val])) (d:=dY) (v:=en.key) (by rw[hsz3];exact hlt.2.2.2.1)]]
   rw[Oper.upon_value,hA.2.1];unfold wpList;show body.wp P _ _ w2;have drop:∀{a':Act} {dd:Nat} {v:Value},Sim H ι (S g) a' w2->(S g).env dd=none->dd<n->Sim H ι (S g) (a'.put (some dd) v) w2:=fun {a' dd v} k1 k2 k3=>by
    have k4:=k1.put (d:=some dd) (r:=none) (v:=v) k1.heap (Step.refl _ _ _ _) (fun x e=>by cases e) (fun t e=>by cases e;rw[s1];exact k3);have e1:(⟨(S g).n,HC (S g).env (some dd) none,(S g).h⟩:Al)=S g:=by
     show(⟨(S g).n,QP (S g).env dd,(S g).h⟩:Al)=S g;rw[Kd k2]
    rwa[e1]at k4
   have k0:Sim H ι (S g) a w2:=⟨hs.n,hs.d,hs.env,hs2⟩;have k5:=drop (v:=en.key) (drop (v:=.tuple #[en.key,en.val]) (drop (v:=.bool true) (drop (v:=.tuple #[.bool true,en.key,en.val]) k0 s3 hlt.1) s4 hlt.2.1) s5 hlt.2.2.1) s6 hlt.2.2.2.1;have k6:=k5.put (d:=some d) (r:=some (.int K (NF en))) (v:=en.key) k5.heap (Step.refl _ _ _ _) (fun x e=>by cases e;rw[hkey];exact .int _ _ _) (fun t e=>by cases e;rw[s1];exact hlt.2.2.2.2);rw[s1]at k6;rw[q1,q77,qQ0]at hJ;refine wp_mono (hround _ _ _ g hJ H ι _ w2 k6) fun e' a3 w3 hp=>?_
   obtain⟨s',H',ι',⟨rfl,g',hJ',hsb⟩,r,t⟩:=hp;have r2:=r.sub hsb;have u1:=t.unowned hs2 r.heap sr hu1;have u2:=t.unowned hs2 r.heap px hu2;have ow:∀{x:Nat},¬DP s'.h ι' x->¬DP (S g').h ι' x:=fun hn ⟨b,o,r',h1,h2⟩=>hn ⟨b,o,r',hsb.2.2 b o h1,h2⟩
   have st3:Step H0 ι0 h0 w0 H' ι' (S g').h w3:=by
    have hg:Ghost s' (S g'):=Ghost.of_sub hsb;have h1:=hst2.trans hr0 hs2 t;refine⟨h1.size,h1.os,h1.out,h1.keep,h1.kle,h1.knew,h1.lle,h1.lframe,h1.newrb,fun b hb=>?_⟩
    cases e:(S g').h b with
    |none=>rfl
    |some o=>have h3:=hsb.2.2 b o e;rw[h1.dom b hb]at h3;cases h3
   have it3:mz w3 rb mrb since (seen.push en.born) es:=by
    refine⟨?_,?_⟩
    . rw[t.keep rb sr hu1];exact hit2.it
    . rw[t.keep mrb px hu2];exact hit2.mp
   refine⟨⟨H',ι',seen.push en.born,g',r2,st3,it3,ow u1,ow u2,by rw[hlp,q77];exact hJ',lL t.lle hl hr1,hob.mono t.kle t.lle fun hs'=>by rw[hr3,t.keep mrb px hu2];exact hw2h _ (Ne.symm hrm)⟩,?_⟩;have hlen:(leftOf es (seen.push en.born)).size<(leftOf es seen).size:=by
    rw[<-q45,<-q45,hlp,q1];simp
   rw[it3.it,hit.it];exact hlen
theorem Ih{ops:Array Oper}{Q:Exit->Act->World->Prop}{l2:List Oper}:∀(l1:List Oper) (a:Act) (w:World),wpList P ops (Exit.then (wpList P ops Q l2) Q) l1 a w->wpList P ops Q (l1++l2) a w
 | [],a,w,h=>h
 |o::l1,a,w,h=>by
  rw[q73];unfold wpList at h|-
  by_cases hw:Region.wanted o (yielded ops a.tmps)=true
  . rw[qK0 hw]at h|-;rcases h with h|⟨h1,a2,w2,h2⟩
    . refine .inl ?_;have h':=qX8 (fun a2 w2=>Ih l1 a2 w2) h;clear h;unfold Oper.wp at h'|-;generalize(execOp a.eval o).run P w=res at h'|-
      cases res with
      |ok n w3=>
       cases n<;>simp only[Oper.upon]at h'|- <;>first
        |exact h'
        |exact Calls.mono h' (fun e w4 he=>by cases e<;>first|exact he|(obtain⟨a3,w5,hp3⟩:=he;exact⟨a3,w5,hp3⟩))
      |halt x w3=>cases x<;>simp only[Oper.upon]at h'|- <;>exact h'
    . exact .inr ⟨h1,a2,w2,h2⟩
  . rw[qZ9 hw]at h|-;exact Ih l1 _ _ h
theorem Hg{ops:Array Oper}{Q Q':Exit->Act->World->Prop}(hpost:∀e a w,Q e a w->Q' e a w):∀(l:List Oper) (a:Act) (w:World),wpList P ops Q l a w->wpList P ops Q' l a w
 | [],a,w,h=>hpost _ _ _ h
 |o::l1,a,w,h=>by
  unfold wpList at h|-
  by_cases hw:Region.wanted o (yielded ops a.tmps)=true
  . rw[qK0 hw]at h|-;rcases h with h|⟨h1,a2,w2,h2⟩
    . refine .inl ?_;have h':=qX8 (fun a2 w2=>Hg hpost l1 a2 w2) h;clear h;unfold Oper.wp at h'|-;generalize(execOp a.eval o).run P w=res at h'|-
      cases res with
      |ok n w3=>
       cases n<;>simp only[Oper.upon]at h'|- <;>first
        |exact h'
        |exact Calls.mono h' py
      |halt x w3=>cases x<;>simp only[Oper.upon]at h'|- <;>first|exact hpost _ _ _ h'|exact h'
    . exact .inr ⟨h1,a2,w2,hpost _ _ _ h2⟩
  . rw[qZ9 hw]at h|-;exact Hg hpost l1 _ _ h
variable {t et kt : TypeId} {x : Operand} {s : Al} {Q : Exit -> Al -> Prop} {body : Code}
theorem YK{T:Nat->Option Av}(hT:CE P T){n:Nat}{γ:Type}{S:Nat->γ->Al}{J:List Int->γ->Prop}{tI dN dX dE dY bid bid2 id4 id5 id6:Nat}{ops:Array Oper}{oR oN oX oE oY oA:Oper}
 {i:Av} (g0:γ) (kp:Nat) (hops:ops.toList=ops.toList.take kp++[oR]) (hpre:AOps P ops (ops.toList.take kp) s (fun s'=>Sub ⟨n,e,h⟩ s'))
 (hR:oR.op=.range t x/\oR.dst=some tI/\oR.guard=none) (hx:An e x=some (.map b)) (hi:T t=some i) (hik:i.k=.map kt et) (hb:h b=some (.map (kvs K m)))
 (hN:oN.op=.next (.tmp tI) false/\oN.dst=some dN/\oN.guard=none) (hX:oX.op=.extract (.tmp dN) 0/\oX.dst=some dX/\oX.guard=none) (hE:oE.op=.entry (.tmp tI)/\oE.dst=some dE/\oE.guard=none)
 (hY:oY.op=.extract (.tmp dE) 0/\oY.dst=some dY/\oY.guard=none) (hA:oA.op=.assign (.tmp dY)/\oA.dst=some d/\oA.guard=none) (hlt:dN<n/\dX<n/\dE<n/\dY<n/\d<n) (hlt2:tI<n) (hne:tI≠dN/\tI≠dX/\tI≠dE/\tI≠dY)
 (hS:∀rb g,(S rb g).n=n/\(S rb g).env tI=some (.val (.pointer (some ⟨rb,0,none⟩)))/\(S rb g).env dN=none/\(S rb g).env dX=none/\(S rb g).env dE=none/\(S rb g).env dY=none/\(S rb g).env d=none)
 (hJ:J (m.map (·.1)) g0) (hsub:∀rb,Sub (S rb g0) ⟨n,Aa e tI (.val (.pointer (some ⟨rb,0,none⟩))),hrm h b⟩)
 (hround:∀rb l1 z l2 g,J (l1++z::l2) g->AGo P body ⟨n,Aa (S rb g).env d (.int K z),(S rb g).h⟩ (fun e s'=>e=.normal/\∃g',J (l1++l2) g'/\Sub (S rb g') s'))
 (hend:∀rb g,J [] g->Q .normal ⟨n,(S rb g).env,hput (S rb g).h b (.map (kvs K m))⟩):
 AGo P (.seq (.region id4 ops false) (.block bid (.loop (.seq (.region id5 #[oN,oX] false) (.seq (.cond (.tmp dX) .skip (.exit bid)) (.block bid2 (.seq (.region id6 #[oE,oY,oA] false) body))))))) s Q:=by
 intro H0 ι0 a0 w0 hs0;refine wp_seq (wp_region_list ?_);rw[hops];refine Ih _ _ _ (Hg (fun e' a w hp=>?_) _ _ _ (hpre H0 ι0 a0 w0 hs0));obtain⟨s',H,ι,q,hs',hst'⟩:=hp
 cases e' with
 |normal=>
  replace q:Sub ⟨n,e,h⟩ s':=q
  have hs:=hs'.sub q;have hst:Step H0 ι0 s.h w0 H ι h w:=⟨hst'.size,hst'.os,hst'.out,hst'.keep,hst'.kle,hst'.knew,hst'.lle,hst'.lframe,hst'.newrb,fun b hb=>by
   cases e9:h b with
   |none=>rfl
   |some o=>have h3:=q.2.2 b o e9;rw[hst'.dom b hb]at h3;cases h3⟩
  show wpList P ops _ [oR] a w;obtain⟨r,hr,hr0,hvx⟩:=(Ao hs hx).map_inv;obtain⟨r',hl,hob,r5⟩:=hs.heap.obj b _ hb rfl;rw[hr]at hl;cases hl;obtain⟨r1,r2,es,clk,r3,r4,r6⟩:=id hob;obtain⟨info,dd,e1,e2,e3,e4,e5,e6⟩:=Am (hT _ _ hi);have hd1:=Il (P:=P) (d:=dd) (e3▸hik);subst hd1;unfold wpList;rw[show Region.wanted oR (yielded ops a.tmps)=true by unfold Region.wanted;rw[hR.2.2],qK0 rfl];refine .inl ?_;unfold Oper.wp;rw[show(execOp a.eval oR).run P w=.ok (.value (.pointer (some ⟨w.heap.size,0,none⟩))) (w.alloc (.mapIter (some r.rb) clk #[] clk)) by simp[execOp,hR.1,Instr.range,hvx,Aq e2,q23 r3]];rw[Oper.upon_value,hR.2.1];unfold wpList
  let w1:=w.alloc (.mapIter (some r.rb) clk #[] clk)
  have hg:∀b,b<w.heap.size->w1.heap[b]?=w.heap[b]?:=fun b hlt=>heap_alloc_old w _ hlt
  have hs1:HeapRel H ι h w1:=hs.heap.grow hg;have hst1:Step H ι h w H ι h w1:=Step.grow hg (by simp[w1]) rfl rfl;have k1:=hs.put (d:=some tI) (r:=some (.val (.pointer (some ⟨w.heap.size,0,none⟩)))) (v:=.pointer (some ⟨w.heap.size,0,none⟩)) hs1 hst1 (fun x e=>by cases e;exact .val _ _ rfl) (fun t e=>by cases e;exact hlt2);have hrm':HSub (hrm h b) h:=fun x o hx=>by
   exact dV
  have k2:Sim H ι ⟨n,Aa e tI (.val (.pointer (some ⟨w.heap.size,0,none⟩))),hrm h b⟩ (a.put (some tI) (.pointer (some ⟨w.heap.size,0,none⟩))) w1:=k1.sub ⟨rfl,fun _ _ h=>h,hrm'⟩;have k3:=k2.sub (hsub w.heap.size);have hS0:=hS w.heap.size g0;have hsb:HSub (S w.heap.size g0).h h:=fun x o hx=>hrm' x o ((hsub w.heap.size).2.2 x o hx)
  have hu1:¬DP (S w.heap.size g0).h ι w.heap.size:=fun⟨b',o,r',h1,h2,h3,h4,h5⟩=>Nat.lt_irrefl _ (h5▸hs.heap.lt ⟨b',o,r',hsb _ _ h1,h2,h3,h4,rfl⟩)
  have hu2:¬DP (S w.heap.size g0).h ι r.rb:=fun⟨b',o,r',h1,h2,h3,h4,h5⟩=>by
   have h6:=(hsub w.heap.size).2.2 b' o h1
   by_cases hbb:b'=b
   . subst hbb;have h6':hrm h b' b'=some o:=h6;rw[G2]at h6';cases h6'
   . exact hs.heap.inj b' b o _ r' r (hsb _ _ h1) h2 hb rfl h3 hr h4 r2 hbb h5
  have hkeys:=(mapCells_iff.1 r4).keys;have st0:Step H0 ι0 s.h w0 H ι (S w.heap.size g0).h w1:=by
   have h1:=hst.trans hs0.heap hs.heap hst1;refine⟨h1.size,h1.os,h1.out,h1.keep,h1.kle,h1.knew,h1.lle,h1.lframe,h1.newrb,fun b hb=>?_⟩
   cases e:(S w.heap.size g0).h b with
   |none=>rfl
   |some o=>have h3:=hsb b o e;have h4:=h1.dom b hb;rw[show h b=_ from h3]at h4;cases h4
  have hleft:(leftOf es #[]).toList=es.toList:=by unfold leftOf;rw[Array.toList_filter];exact List.filter_eq_self.2 fun _ _=>by simp
  show(Code.block bid _).wp P _ _ w1;exact SP (S:=S w.heap.size) (J:=J) (K:=K) (tN:=0) hN hX hE hY hA hlt hne (hS _) r6 hkeys.2 (hround _) (b:=b) (m:=m) (r:=r) (fun g hg=>by rw[(hS w.heap.size g).1];exact hend _ g hg) r1 r2 rfl hs0.heap (fun e=>by have h9:h b=none:=hst.dom b e;rw[hb]at h9;cases h9) hst.size (by have:=hs.heap.lt ⟨b,_,r,hb,rfl,hr,r2,rfl⟩;omega) k3 st0 ⟨heap_alloc_new w _,by rw[hg _ (hs.heap.lt ⟨b,_,r,hb,rfl,hr,r2,rfl⟩)];exact r3⟩ hu1 hu2 (by rw[hleft,hkeys.1];exact hJ) hr (hob.mono (KLe.refl _) (LLe.refl _) fun _=>hg _ (hs.heap.lt ⟨b,_,r,hb,rfl,hr,r2,rfl⟩))
 |_=>exact q.elim
theorem YJ{T:Nat->Option Av}(hT:CE P T){n:Nat}{tI dN dX bid id4 id5:Nat}{ops:Array Oper}{oR oN oX:Oper}{i:Av}
 (kp:Nat) (hops:ops.toList=ops.toList.take kp++[oR]) (hpre:AOps P ops (ops.toList.take kp) s (fun s'=>Sub ⟨n,e,h⟩ s')) (hR:oR.op=.range t x/\oR.dst=some tI/\oR.guard=none) (hx:An e x=some (.val (.map none))) (hi:T t=some i) (hik:i.k=.map kt et)
 (hN:oN.op=.next (.tmp tI) false/\oN.dst=some dN/\oN.guard=none) (hX:oX.op=.extract (.tmp dN) 0/\oX.dst=some dX/\oX.guard=none) (hlt:tI<n/\dN<n/\dX<n) (hne:e tI=none/\e dN=none/\e dX=none) (hend:Q .normal ⟨n,e,h⟩):
 AGo P (.seq (.region id4 ops false) (.block bid (.loop (.seq (.region id5 #[oN,oX] false) (.seq (.cond (.tmp dX) .skip (.exit bid)) body))))) s Q:=by
 intro H0 ι0 a0 w0 hs0;refine wp_seq (wp_region_list ?_);rw[hops];refine Ih _ _ _ (Hg (fun e' a w hp=>?_) _ _ _ (hpre H0 ι0 a0 w0 hs0));obtain⟨s',H,ι,q,hs',hst'⟩:=hp
 cases e' with
 |normal=>
  replace q:Sub ⟨n,e,h⟩ s':=q
  have hs:=hs'.sub q;have hst:Step H0 ι0 s.h w0 H ι h w:=⟨hst'.size,hst'.os,hst'.out,hst'.keep,hst'.kle,hst'.knew,hst'.lle,hst'.lframe,hst'.newrb,fun b hb=>by
   cases e9:h b with
   |none=>rfl
   |some o=>have h3:=q.2.2 b o e9;rw[hst'.dom b hb]at h3;cases h3⟩
  show wpList P ops _ [oR] a w;have hvx:=((Ao hs hx).val_inv).1;obtain⟨info,dd,e1,e2,e3,e4,e5,e6⟩:=Am (hT _ _ hi);have hd1:=Il (P:=P) (d:=dd) (e3▸hik);subst hd1;have wN:∀(ops:Array Oper) (o:Oper) (t:Array Value),o.guard=none->Region.wanted o (yielded ops t)=true:=fun ops o t ho=>by unfold Region.wanted;rw[ho]
  unfold wpList;rw[wN _ _ _ hR.2.2,qK0 rfl];refine .inl ?_;unfold Oper.wp;rw[show(execOp a.eval oR).run P w=.ok (.value (.pointer (some ⟨w.heap.size,0,none⟩))) (w.alloc (.mapIter none 0 #[] 0)) by simp[execOp,hR.1,Instr.range,hvx,Aq e2]];rw[Oper.upon_value,hR.2.1];unfold wpList
  let w1:=w.alloc (.mapIter none 0 #[] 0)
  have hg:∀b,b<w.heap.size->w1.heap[b]?=w.heap[b]?:=fun b hlt=>heap_alloc_old w _ hlt
  have hs1:HeapRel H ι h w1:=hs.heap.grow hg;have hst1:Step H ι h w H ι h w1:=Step.grow hg (by simp[w1]) rfl rfl;have drop:∀{a':Act} {dd:Nat} {v:Value},Sim H ι ⟨n,e,h⟩ a' w1->e dd=none->dd<n->Sim H ι ⟨n,e,h⟩ (a'.put (some dd) v) w1:=fun {a' dd v} k1 k2 k3=>by
   have k4:=k1.put (d:=some dd) (r:=none) (v:=v) k1.heap (Step.refl _ _ _ _) (fun x e=>by cases e) (fun t e=>by cases e;exact k3);have e1:(⟨n,HC e (some dd) none,h⟩:Al)=⟨n,e,h⟩:=by
    show(⟨n,QP e dd,h⟩:Al)=_;rw[Kd k2]
   rwa[e1]at k4
  have k1:Sim H ι ⟨n,e,h⟩ a w1:=⟨hs.n,hs.d,hs.env,hs1⟩;have k2:=drop (v:=.pointer (some ⟨w.heap.size,0,none⟩)) k1 hne.1 hlt.1;show(Code.block bid _).wp P _ _ w1;refine wp_block (wp_loop_once ?_);have hsz:a.tmps.size=n:=hs.n
  let a1:=a.put (some tI) (.pointer (some ⟨w.heap.size,0,none⟩))
  have hsz1:a1.tmps.size=n:=by rw[<-hsz];simp[a1,Act.put]
  have hI:a1.eval (.tmp tI)=.pointer (some ⟨w.heap.size,0,none⟩):=Fk (by rw[hsz];exact hlt.1);have hit:w1.heap[w.heap.size]?=some (.mapIter none 0 #[] 0):=heap_alloc_new w _;have hgo:(getObj w.heap.size).run P w1=.ok (.mapIter none 0 #[] 0) w1:=by simp[getObj,Sem.run,hit]
  refine wp_seq (wp_region_list ?_);unfold wpList;rw[wN _ _ _ hN.2.2,qK0 rfl];refine .inl ?_;unfold Oper.wp;rw[show(execOp a1.eval oN).run P w1=.ok (.value (.tuple #[.bool false])) w1 by simp[execOp,hN.1,hI,Instr.next,hgo]];show wpList P _ _ [oX] (a1.put oN.dst _) w1;rw[hN.2.1];unfold wpList;rw[wN _ _ _ hX.2.2,qK0 rfl];refine .inl ?_;unfold Oper.wp;rw[show(execOp (a1.put (some dN) (.tuple #[.bool false])).eval oX).run P w1=.ok (.value (.bool false)) w1 by simp[execOp,hX.1,Fk (a:=a1) (d:=dN) (v:=.tuple #[.bool false]) (by rw[hsz1];exact hlt.2.1),Instr.extract]];rw[Oper.upon_value,hX.2.1];unfold wpList;show(Code.seq _ _).wp P _ _ w1;refine wp_seq (wp_cond_false (Fk (by simp[Act.put,hsz1];exact hlt.2.2)) (wp_exit ?_));show Exit.inBlock bid _ (.exit bid) _ w1;simp only[Exit.inBlock,qZ8];exact⟨_,H,ι,hend,drop (v:=.bool false) (drop (v:=.tuple #[.bool false]) k2 hne.2.1 hlt.2.1) hne.2.2 hlt.2.2,hst.trans hs0.heap hs.heap hst1⟩
 |_=>exact q.elim
variable {T : Nat -> Option Av} {o : Oper}
theorem U3(hT:CE P T){t':TypeId}{p:AV}{i:Av}{r:Bool}(hr:p=.val (.map none)/\r=true\/(∃b,p=.map b)/\r=false)(hi:T t=some i)(hik:i.k=.map kt et)(ho:o.op=.binOp .eql t x (.const (.map none)) t':=by exact rfl)(hx:An e x=some p:=by exact rfl):QLoc P o e h [] (.bool r):=by
 intro H ι a w s hs g1 g2;have hx':An s.env x=some p:=by rw[g1 x Bx,hx]
 obtain⟨info,dd,e1,e2,e3,e4,e5,e6⟩:=Am (hT _ _ hi);have hd1:=Il (P:=P) (d:=dd) (e3▸hik);subst hd1;have hn:a.eval (.const (.map none))=.map none:=rfl;refine⟨.bool r,.bool _ _,?_⟩;rcases hr with⟨rfl,rfl⟩|⟨⟨b,rfl⟩,rfl⟩
 . have hv:a.eval x=.map none:=((Ao hs hx').val_inv).1;have he:(Op.equalIn 10000 t (.map none) (.map none)).run P w=.ok true w:=by
    rw[Op.equalIn];simp[Aq e2]
   exact nz
 . obtain⟨q,hq,hq0,hv⟩:=(Ao hs hx').map_inv;have he:(Op.equalIn 10000 t (.map (some q.rb)) (.map none)).run P w=.ok false w:=by
    rw[Op.equalIn];simp[Aq e2]
   exact nz
def GZ(l:List Int):List (List AV):=l.map fun n=>[AV.int .i64 n]
theorem GY(l:List Int):(GZ l).length=l.length:=by simp[GZ]
variable {z : Int}
theorem LY(h:0<=z/\z<l.length):(GZ l)[0+z.toNat]?=some [AV.int .i64 (rget l z)]:=by
 grind[Af,GZ,rget]
theorem Kc(l:List Int)(z v:Int):(GZ l).set (0+z.toNat) [AV.int .i64 v]=GZ (A5 l z v):=by
 rw[qQ8,GZ,GZ,A5,List.map_set]
def NZ:Option Nat->List AV
  |none=>[.val (.map none)]
  |some j=>[.map (j+16)]
theorem Jp{o:Option Nat}(h:to[a]?=some o):(to.map NZ)[0+((a:Nat):Int).toNat]?=some (NZ o):=by
 grind
theorem PQ(to:List (Option Nat))(a:Nat)(o:Option Nat):(to.map NZ).set (0+((a:Nat):Int).toNat) (NZ o)=(to.set a o).map NZ:=by
 (simp_all;done)
def famM(maps:List (List Int))(i:Nat):AObj:=match maps[i]? with
  |some ks=>.map (kvs .i64 (Ud ks))
  |none=>.free
variable {j : Nat}
theorem IA{ks:List Int}(h:maps[j]?=some ks):famM maps j=.map (kvs .i64 (Ud ks)):=by unfold famM;rw[h]
theorem cL:famM maps maps.length=.free:=by unfold famM;rw[q26 (qZ0 _)]
def FH(h:Ad)(R:Nat)(fr:List Int)(to:List (Option Nat))(maps:List (List Int)):Ad:=fun x=>
  bif Nat.ble 16 x then some (famM maps (x-16))else bif Nat.beq x 2 then some (.row false 2 [[.ref 3 R 0 R,.ref 4 R 0 R]])else bif Nat.beq x 3 then some (.row true 1 (GZ fr))else bif Nat.beq x 4 then some (.row false 1 (to.map NZ))else h x
theorem JG(j:Nat):FH h R fr to maps (j+16)=some (famM maps j):=by
 unfold FH;rw[show Nat.ble 16 (j+16)=true by rw[qZ5];omega,show j+16-16=j by omega];rfl
variable {x : Nat}
theorem qH(hx:x<16):Nat.ble 16 x=false:=by
 cases e:Nat.ble 16 x with
 |false=>rfl
 |true=>rw[qZ5]at e;omega
theorem Wr(hx:x<16):FH h R fr to maps x=bif Nat.beq x 2 then some (.row false 2 [[.ref 3 R 0 R,.ref 4 R 0 R]])else bif Nat.beq x 3 then some (.row true 1 (GZ fr))else bif Nat.beq x 4 then some (.row false 1 (to.map NZ))else h x:=by
 grind[FH,qH,GZ,NZ]
theorem Oq(fr':List Int):hput (FH h R fr to maps) 3 (.row true 1 (GZ fr'))=FH h R fr' to maps:=by
 funext x
 by_cases hx:x=3
 . subst hx;rw[At];rfl
 grind[AU,Wr,JG,hput,FH,GZ]
theorem oL(to':List (Option Nat)):hput (FH h R fr to maps) 4 (.row false 1 (to'.map NZ))=FH h R fr to' maps:=by
 funext x
 by_cases hx:x=4
 . subst hx;rw[At];rfl
 grind[AU,Wr,JG,hput,FH,NZ]
theorem jM{o:AObj}{maps':List (List Int)}(hj:famM maps' j=o)(ho:∀i,i≠j->famM maps' i=famM maps i):hput (FH h R fr to maps) (j+16) o=FH h R fr to maps':=by
 grind[At,JG,AU,Wr,famM,hput,FH]
theorem YE(ks:List Int)(hj:j<maps.length):hput (FH h R fr to maps) (j+16) (.map (kvs .i64 (Ud ks)))=FH h R fr to (maps.set j ks):=
 jM (IA (by rw[q21 hj])) fun i hi=>by unfold famM;rw[q36 (Ne.symm hi)]
theorem qO(ks:List Int):hput (FH h R fr to maps) (maps.length+16) (.map (kvs .i64 (Ud ks)))=FH h R fr to (maps++[ks]):=
 jM (IA (by rw[q02 (qZ0 _)];simp)) fun i hi=>by
  grind[famM,List.getElem?_append_left,List.getElem?_eq_none,hput,FH,kvs,Ud]
theorem M1:∀(l:List Tac) (fr:List Int) (t:Tac),Di fr (l++[t])=((Di fr l).1++[subT (Di fr l).2 t],Dh (Di fr l).2 (subT (Di fr l).2 t))
 | [],fr,t=>rfl
 |u::l,fr,t=>by
  show(subT fr u::(Di (Dh fr (subT fr u)) (l++[t])).1,(Di (Dh fr (subT fr u)) (l++[t])).2)=_;rw[M1 l];rfl
theorem G3:∀(l:List Tac) (fr:List Int),(Di fr l).1.length=l.length
 | [],fr=>rfl
 |u::l,fr=>by
  show(Di (Dh fr (subT fr u)) l).1.length+1=l.length+1;rw[G3 l]
structure YC(R:Nat)(t:Tac):Prop where
  u1:use1 t.op=true->0<=t.a/\t.a<R
  u2:use2 t.op=true->(0<=t.a/\t.a<R)/\0<=t.b/\t.b<R
  d:setsOp t.op=true->0<=t.d/\t.d<R
theorem S4(fr:List Int)(t:Tac):(subT fr t).op=t.op/\(subT fr t).d=t.d/\(subT fr t).sets=t.sets:=by
 grind[subT,Tac.sets,use1,use2]
structure zh(R:Nat)(l:List Tac)(i:Nat)(fr:List Int)(to:List (Option Nat))(maps:List (List Int)):Prop where
  le:i<=l.length
  pre:(Di (Ku R) (l.take i)).2=fr
  inv:FwI R fr to maps
def DM(R:Nat)(l:List Tac)(i:Nat):List (List AV):=(Di (Ku R) (l.take i)).1.map Tac.cells++List.replicate (l.length-i) [.int .i64 0,.int .i64 0,.int .i64 0,.int .i64 0,.int .i64 0,.int .i64 0,.int .i64 0,.int .u32 0]
variable {l : List Tac}
theorem Ke{i:Nat}(hi:i<=l.length):(DM R l i).length=l.length:=by
 grind[DM,List.length_append,List.length_map,G3,List.length_replicate]
theorem Yk(R:Nat)(l:List Tac):DM R l 0=List.replicate l.length [.int .i64 0,.int .i64 0,.int .i64 0,.int .i64 0,.int .i64 0,.int .i64 0,.int .i64 0,.int .u32 0]:=by
 grind[DM,Di]
theorem cQ(R:Nat)(l:List Tac):DM R l l.length=(Di (Ku R) l).1.map Tac.cells:=by
 unfold DM;simp
variable {t : Tac}
theorem Yl{i:Nat}(hx:l[i]?=some t):(DM R l i).set (0+((i:Nat):Int).toNat) (subT (Di (Ku R) (l.take i)).2 t).cells=DM R l (i+1):=by
 have hi:i<l.length:=(q05.1 hx).1;rw[qQ8,show((i:Nat):Int).toNat=i from rfl];unfold DM;rw[q59,hx,Option.toList_some,M1];dsimp only;rw[q77,List.set_append_right _ _ (by rw[q76,G3,q69];omega),q76,G3,q69,show i-min i l.length=0 by omega,show l.length-i=(l.length-(i+1))+1 by omega,List.replicate_succ,List.set_cons_zero]
 simp
theorem Mq{i:Nat}(hx:l[i]?=some t):(Di (Ku R) (l.take (i+1))).2=Dh (Di (Ku R) (l.take i)).2 (subT (Di (Ku R) (l.take i)).2 t):=by
 rw[q59,hx,Option.toList_some,M1]
def k6:Nat->Bool:=fun b=> !Nat.beq b 6
def WB(b:Block)(o5 o6:AObj):Ad:=hput (hput (hput (hput hNone 0 (.row false 5 [b.cells])) 1 (.row false 5 [[.nil,.int .i64 0,.int .i64 0,.int .i64 0,.int .i64 0]])) 5 o5) 6 o6
theorem we(x:Nat):k6 (x+16)=true:=by
 unfold k6
 cases e:Nat.beq (x+16) 6 with
 |false=>rfl
 |true=>have:=q25 e;omega
variable {b : Block} {o5 o6 : AObj}
theorem ae(h0:x≠0)(h1:x≠1)(h5:x≠5)(h6:x≠6):WB b o5 o6 x=none:=by
 unfold WB;rw[AU _ _ h6,AU _ _ h5,AU _ _ h1,AU _ _ h0];rfl
theorem Nf(h0:h 0=some (.row false 5 [b.cells]))(h1:h 1=some (.row false 5 [[.nil,.int .i64 0,.int .i64 0,.int .i64 0,.int .i64 0]]))(h2:h 2=some (.row false 2 [[.ref 3 R 0 R,.ref 4 R 0 R]]))
 (h3:h 3=some (.row true 1 (GZ fr))) (h4:h 4=some (.row false 1 (to.map NZ))) (h5:h 5=some o5) (h6:h 6=some o6) (hf:∀j,h (j+16)=some (famM maps j)):HSub (FH (WB b o5 o6) R fr to maps) h:=fun x o hx=>by
 by_cases h16:x<16
 . rw[Wr h16]at hx
   by_cases e2:x=2
   . (simp_all;done)
   by_cases e3:x=3
   . subst e3;rw[h3];exact hx
   by_cases e4:x=4
   . subst e4;rw[h4];exact hx
   have n2:∀{y:Nat},x≠y->Nat.beq x y=false:=fun {y} hy=>by
    exact mP
   rw[n2 e2,n2 e3,n2 e4]at hx
   replace hx:WB b o5 o6 x=some o:=hx
   by_cases e0:x=0
   . subst e0;rw[h0];exact hx
   by_cases e1:x=1
   . subst e1;rw[h1];exact hx
   by_cases e5:x=5
   . subst e5;rw[h5];exact hx
   by_cases e6:x=6
   . subst e6;rw[h6];exact hx
   rw[ae e0 e1 e5 e6]at hx;cases hx
 . obtain⟨j,rfl⟩:∃j,x=j+16:=⟨x-16,by omega⟩
   rw[JG]at hx;rw[hf,<-hx]
theorem aV(to:List (Option Nat)):(AObj.row false 1 (to.map NZ)).avoid k6=true:=by
 show((to.map NZ).all fun cs=>cs.all (AV.avoid k6))=true;rw[List.all_map,q67];intro o _
 cases o with
 |none=>rfl
 |some j=>show([AV.map (j+16)].all (AV.avoid k6))=true;simp[AV.avoid,AV.flat,we]
theorem Ua{o6:AObj}(hb:(AObj.row false 5 [b.cells]).avoid k6=true)(h0:h 0=some (.row false 5 [b.cells]))(h1:h 1=some (.row false 5 [[.nil,.int .i64 0,.int .i64 0,.int .i64 0,.int .i64 0]]))(h2:h 2=some (.row false 2 [[.ref 3 R 0 R,.ref 4 R 0 R]]))
 (h3:h 3=some (.row true 1 (GZ fr))) (h4:h 4=some (.row false 1 (to.map NZ))) (h5:h 5=some o5) (ha5:o5.avoid k6=true) (hf:∀j,h (j+16)=some (famM maps j)):Qq k6 (FH (WB b o5 .free) R fr to maps) h:=fun x o hx=>by
 by_cases e6:x=6
 . subst e6;right;have:some AObj.free=some o:=hx;cases this;exact⟨rfl,rfl⟩
 left;have hx2:h x=some o:=Nf (h:=hput h 6 .free) (b:=b) (o5:=o5) (o6:=.free) (R:=R) (fr:=fr) (to:=to) (maps:=maps) h0 h1 h2 h3 h4 h5 (At _ _ _) (fun j=>(AU _ _ z144q).trans (hf j)) x o hx|>.symm.trans (AU _ _ e6)|>.symm;refine⟨hx2,fun _=>⟨by unfold k6;cases e:Nat.beq x 6 with|false=>rfl|true=>exact absurd (q25 e) e6,?_⟩⟩
 by_cases h16:x<16
 . rw[Wr h16]at hx
   by_cases e2:x=2
   . subst e2;have:some (AObj.row false 2 [[.ref 3 R 0 R,.ref 4 R 0 R]])=some o:=hx;cases this;rfl
   by_cases e3:x=3
   . subst e3;have:some (AObj.row true 1 (GZ fr))=some o:=hx;cases this;rfl
   by_cases e4:x=4
   . subst e4;have:some (AObj.row false 1 (to.map NZ))=some o:=hx;cases this;exact aV to
   have n2:∀{y:Nat},x≠y->Nat.beq x y=false:=fun {y} hy=>by
    exact mP
   rw[n2 e2,n2 e3,n2 e4]at hx
   replace hx:WB b o5 .free x=some o:=hx
   by_cases e0:x=0
   . subst e0;have:some (AObj.row false 5 [b.cells])=some o:=hx;cases this;exact hb
   by_cases e1:x=1
   . subst e1;have:some (AObj.row false 5 [[.nil,.int .i64 0,.int .i64 0,.int .i64 0,.int .i64 0]])=some o:=hx;cases this;rfl
   by_cases e5:x=5
   . subst e5;have:some o5=some o:=hx;cases this;exact ha5
   rw[ae e0 e1 e5 e6]at hx;cases hx
 . obtain⟨j,rfl⟩:∃j,x=j+16:=⟨x-16,by omega⟩
   rw[JG]at hx
   cases hx
   unfold famM
   cases maps[j]?<;>rfl
variable {call : Int -> Mach -> Mach} {s : ByteArray} {fuel : Int}
def ZQ(K:CC)(regs:List Int):Prop:=∀z v,pget z K=some v->0<=z/\rget regs z=v
variable {l : List Int}
theorem Es{y v:Int}(hz:0<=z)(hy:0<=y)(h:y≠z):rget (A5 l z v) y=rget l y:=by
 grind[rget,A5]
theorem In{v:Int}(hz:0<=z/\z<l.length):rget (A5 l z v) z=v:=by
 grind[rget,A5]
theorem X5(d n:Int)(regs:List Int)(m:Mach):mone call s (Jn d n) regs m=(A5 regs d n,m):=oB rfl
variable {K : CC} {regs : List Int}
theorem X6(hk:ZQ K regs)(t:Tac)(m:Mach):mone call s (CG K t) regs m=mone call s t regs m:=by
 cases hv:(CT t K).2 with
 |false=>simp only[CG,hv,qZ3]
 |true=>
  have e:CG K t=Jn t.d (CT t K).1:=by simp only[CG,hv,qZ7]
  rw[e,X5];unfold CT at hv|-
  cases e2:t.op==2 with
  |true=>
   rw[e2]at hv;simp only[qZ7]at hv|-;obtain⟨v,hv⟩:=Option.isSome_iff_exists.1 hv;rw[wc (by simpa using e2),(hk _ _ hv).2,hv];rfl
  |false=>
   cases e3:t.op==3 with
   |false=>rw[e2,e3]at hv;simp at hv
   |true=>
    rw[e2,e3]at hv;simp only[qZ7,qZ3]at hv|-
    cases ea:pget t.a K with
    |none=>rw[ea]at hv;simp at hv
    |some va=>
     cases eb:pget t.b K with
     |none=>rw[eb]at hv;simp at hv
     |some vb=>
      rw[ea,eb]at hv;simp only[Option.isSome_some,qQ4,qZ7,q72]at hv|-;have h1:=(hk _ _ ea).2;have h2:=(hk _ _ eb).2;rw[wb (by simpa using e3) (by rw[h1,h2];simpa using hv),h1,h2]
theorem MU(u:Tac)(regs:List Int)(m:Mach):(mone call s u regs m).1=regs\/setsOp u.op=true/\∃v,(mone call s u regs m).1=A5 regs u.d v:=by
 unfold mone setsOp
 cases u.op==1 with
 |true=>exact .inr ⟨rfl,_,rfl⟩
 |false=>
 cases u.op==2 with
 |true=>exact .inr ⟨rfl,_,rfl⟩
 |false=>
 cases u.op==3 with
 |true=>
  simp only[qZ7,qZ3]
  cases (wapp u.k (rget regs u.a) (rget regs u.b)).2==0 with
  |true=>exact .inr ⟨rfl,_,rfl⟩
  |false=>exact .inl rfl
 |false=>
 cases u.op==4 with
 |true=>exact .inr ⟨rfl,_,rfl⟩
 |false=>
 cases u.op==5 with
 |true=>exact .inl rfl
 |false=>
 cases h6:u.op==6 with
 |true=>
  simp only[qZ7,qZ3]
  cases decide (rget regs u.a>=u.size)with
  |true=>exact .inl rfl
  |false=>exact .inr ⟨rfl,_,rfl⟩
 |false=>
 cases u.op==7 with
 |true=>
  simp only[qZ7,qZ3]
  cases decide (rget regs u.a>=u.size)<;>exact .inl rfl
 |false=>
 cases u.op==8 with
 |true=>
  simp only[qZ7,qZ3]
  cases decide (m.read<s.size)<;>exact .inr ⟨rfl,_,rfl⟩
 |false=>
 cases u.op==9 with
 |true=>
  simp only[qZ7,qZ3]
  cases decide (m.out.length>=65536)<;>exact .inl rfl
 |false=>
 cases u.op==10<;>exact .inl rfl
variable {u : Tac}
theorem X8(hk:ZQ K regs)(hu:Fv K)(hd:setsOp u.op=true->0<=u.d/\u.d<regs.length)(m:Mach):ZQ (Gq K u) (mone call s u regs m).1:=by
 unfold Gq
 cases hs:decide (u.sets<0)with
 |true=>
  have hso:setsOp u.op=false:=by
   cases e:setsOp u.op with
   |false=>rfl
   |true=>
    have:=hd e;simp[Tac.sets,e]at hs;omega
  rcases MU (call:=call) (s:=s) u regs m with h|⟨h,_⟩
  . rw[h];exact hk
  . rw[hso]at h;cases h
 |false=>
  have hso:setsOp u.op=true:=by
   cases e:setsOp u.op with
   |true=>rfl
   |false=>simp[Tac.sets,e]at hs
  have hsd:u.sets=u.d:=by simp[Tac.sets,hso]
  obtain⟨d1,d2⟩:=hd hso;simp only[qZ3];rw[hsd]
  cases h1:u.op==1 with
  |true=>
   rw[oB Kl];intro z v hz;simp only[qZ7]at hz;rw[MI]at hz
   cases e:z==u.d with
   |true=>
    rw[e]at hz;have hzd:z=u.d:=by simpa using e
    subst hzd;simp only[qZ7,q53]at hz;subst hz;exact⟨d1,In ⟨d1,d2⟩⟩
   |false=>
    rw[e]at hz;obtain⟨g1,g2⟩:=hk z v hz;exact⟨g1,by rw[Es d1 g1 K6];exact g2⟩
  |false=>
   intro z v hz;simp only[qZ3]at hz;rw[MJ _ _ hu]at hz
   cases e:z==u.d with
   |true=>rw[e]at hz;simp at hz
   |false=>
    rw[e]at hz;obtain⟨g1,g2⟩:=hk z v hz;refine⟨g1,?_⟩;rcases MU (call:=call) (s:=s) u regs m with h|⟨_,w,h⟩
    . rw[h];exact g2
    . rw[h,Es d1 g1 K6];exact g2
theorem Z1(K:CC)(t:Tac):(CG K t).d=t.d:=by
 unfold CG;cases (CT t K).2<;>rfl
theorem Ix(h:setsOp (CG K t).op=true):setsOp t.op=true:=by
 unfold CG at h
 cases hv:(CT t K).2 with
 |false=>rw[hv]at h;exact h
 |true=>
  unfold CT at hv
  cases e2:t.op==2 with
  |true=>simp[setsOp,e2]
  |false=>
   cases e3:t.op==3 with
   |true=>simp[setsOp,e3]
   |false=>rw[e2,e3]at hv;simp at hv
theorem mone_len(u:Tac)(regs:List Int)(m:Mach):(mone call s u regs m).1.length=regs.length:=by
 rcases MU (call:=call) (s:=s) u regs m with h|⟨_,v,h⟩
 . rw[h]
 . rw[h,Hj]
variable {f regs words : Int}
theorem Yg(h:t.fits f regs words=true):setsOp t.op=true->A3 t.d regs=true:=by
 grind[Tac.fits,setsOp,A3]
theorem X7{d n:Int}(h:A3 d regs=true):(Jn d n).fits f regs words=true:=by
 have e:(Jn d n).want=Jn d n:=rfl
 grind[Jn,Tac.same_iff,Tac.fits,Tac.uses,use1,use2,Tac.rest,baseOp,Ie,A3]
theorem Yc(h:t.fits f regs words=true):(CG K t).fits f regs words=true:=by
 cases hv:(CT t K).2 with
 |false=>simp only[CG,hv,qZ3];exact h
 |true=>
  have e:CG K t=Jn t.d (CT t K).1:=by simp only[CG,hv,qZ7]
  have hs:setsOp t.op=true:=Ix (K:=K) (by rw[e];rfl);rw[e];exact X7 (Yg h hs)
theorem LV{f regs words:Int}:∀(l:List Tac) (K:CC),(∀t∈l,t.fits f regs words=true)->∀t∈Dk K l,t.fits f regs words=true
 | [],_,_,t,ht=>by cases ht
 |u::r,K,h,t,ht=>by
  simp only[Dk,q99]at ht;rcases ht with rfl|ht
  . exact Yc (h u z145q)
  . exact LV r _ (fun v hv=>h v (by simp[hv])) t ht
variable {f : BFunc} {w : Int}
theorem Vm{n:Int}(h:f.one n w=true):f.fold.one n w=true:=by
 obtain⟨h1,h2,h3,h4⟩:=Cs h;have hb:f.fold.blocks.length≠0:=by
  grind[BFunc.fold,List.length_map]
 rw[LC (f:=f.fold) h1 h2 hb];rw[q67];intro x hx;simp only[BFunc.fold,qX3]at hx;obtain⟨y,hy,rfl⟩:=hx;have hl:f.fold.blocks.length=f.blocks.length:=by simp[BFunc.fold]
 simp only[Block.ok,q66,q67];refine⟨?_,LV y.ins [] (h4 y hy).2⟩;rw[hl];exact(h4 y hy).1
theorem lx{i:Int}(h1:0<=f.regs)(h2:f.regs<=4000)(h3:f.blocks≠[])(h4:∀x∈f.blocks,x.ends f.blocks.length f.regs=true/\∀t∈x.ins,t.fits i f.regs w=true):f.one i w=true:=by
 grind[BFunc.one,List.all_eq_true,Block.ok]
theorem want_same3:t.same t.want=true↔t.want=t:=by
 grind[Tac.same_iff]
structure Mc(R:Nat)(fr:List Int):Prop where
  len:fr.length=R
  ran:∀v:Int,0<=v->v<R->0<=rget fr v/\rget fr v<R
theorem Th(R:Nat):Mc R (Ku R):=⟨ZX R,fun v h0 h1=>by
 obtain⟨u,rfl⟩:∃u:Nat,v=u:=⟨v.toNat,by omega⟩
 rw[Iw z144q];omega⟩
theorem O5(h:Mc R fr)(d:Int):Mc R (Ck d fr):=⟨by rw[Dc,h.len],fun v h0 h1=>by
 obtain⟨u,rfl⟩:∃u:Nat,v=u:=⟨v.toNat,by omega⟩
 rw[Dd (by rw[h.len];omega)]
 cases ((u:Int)==d||rget fr u==d)with
 |true=>exact⟨h0,h1⟩
 |false=>exact h.ran u h0 h1⟩
theorem ranF_set(h:Mc R fr){d a:Int}(hd:0<=d/\d<R)(ha:0<=a/\a<R):Mc R (A5 fr d a):=⟨by rw[Dn,h.len],fun v h0 h1=>by
 obtain⟨u,rfl⟩:∃u:Nat,v=u:=⟨v.toNat,by omega⟩
 obtain⟨e,rfl⟩:∃e:Nat,d=e:=⟨d.toNat,by omega⟩
 rw[EW (by rw[h.len];omega)];split
 . exact ha
 . exact h.ran u h0 h1⟩
theorem S3{n:Int}(hr:Mc R fr)(h:t.fits n R w=true):(subT fr t).fits n R w=true:=by
 simp only[Tac.fits,q66]at h;obtain⟨h1,h2,h3,h4,h5,h6⟩:=h;have hw:=want_same3.1 h6;have e12:=Nl t.op;unfold subT
 cases e1:use1 t.op with
 |true=>
  rw[e1,qQ5]at e12;have h4':A3 t.a R=true:=by rw[Tac.uses,e1]at h4;simpa using h4
  simp only[A3,q66,q56]at h4';simp only[qZ7,Tac.fits,q66];refine⟨h1,h2,h3,?_,h5,want_same3.2 ?_⟩
  . show(Tac.uses _).all _=true;simp only[Tac.uses,e1,qZ7,qQ1,qX7,qQ4,A3,q66,q56];exact hr.ran _ h4'.1 h4'.2
  . have q:=congrArg Tac.b hw
    cases t
    simp only[Tac.want,e1,e12,Bool.true_or,qZ7,qZ3,Tac.mk.injEq]at hw|-;exact hw
 |false=>
  cases e2:use2 t.op with
  |true=>
   have h4':A3 t.a R=true/\A3 t.b R=true:=by rw[Tac.uses,e1,e2]at h4;simpa using h4
   simp only[A3,q66,q56]at h4';simp only[qZ7,qZ3,Tac.fits,q66];refine⟨h1,h2,h3,?_,h5,want_same3.2 ?_⟩
   . show(Tac.uses _).all _=true;simp only[Tac.uses,e1,e2,qZ7,qZ3,qQ1,qX7,qQ4,A3,q66,q56];exact⟨hr.ran _ h4'.1.1 h4'.1.2,hr.ran _ h4'.2.1 h4'.2.2⟩
   . cases t
     simp only[Tac.want,e1,e2,qX6,qZ7,qZ3,Tac.mk.injEq]at hw|-;exact hw
  |false=>
   simp only[qZ3,Tac.fits,q66];exact⟨h1,h2,h3,h4,h5,h6⟩
theorem fits_tacR{n:Int}(h:t.fits n R w=true):YC R t:=by
 simp only[Tac.fits,q66,q81,q61]at h;obtain⟨h1,h2,h3,h4,h5,h6⟩:=h;refine⟨fun e=>?_,fun e=>?_,fun e=>?_⟩
 . rw[Tac.uses,e]at h4;simpa[A3]using h4
 . have e1:use1 t.op=false:=by have:=Nl t.op;rw[e,qQ4]at this;exact this
   rw[Tac.uses,e1,e]at h4;simpa[A3]using h4
 . rw[e]at h3;rcases h3 with h3|h3
   . cases h3
   . simpa[A3]using h3
theorem MD{n:Int}(hr:Mc R fr)(h:t.fits n R w=true):Mc R (Dh fr t):=by
 have hT:=fits_tacR h;unfold Dh
 cases e:decide (t.sets>=0)with
 |false=>exact hr
 |true=>
  have hs:=E8 e;have hd:t.sets=t.d:=by unfold Tac.sets;rw[hs];rfl
  cases e2:(t.op==2&&t.a !=t.sets)with
  |false=>exact O5 hr _
  |true=>
   simp only[q66,qZ4]at e2;refine ranF_set (O5 hr _) (by rw[hd];exact hT.d hs) (hT.u1 (by rw[e2.1];rfl))
theorem Sj{n w:Int}{R:Nat}:∀(l:List Tac) (fr:List Int),Mc R fr->(∀t∈l,t.fits n R w=true)->(∀t∈(Di fr l).1,t.fits n R w=true)/\Mc R (Di fr l).2
 | [],fr,hr,h=>⟨fun t ht=>(by cases ht),hr⟩
 |u::l,fr,hr,h=>by
  have hu:=S3 hr (h u z145q);have ih:=Sj l (Dh fr (subT fr u)) (MD hr hu) fun t ht=>h t (by simp[ht])
  grind[Di]
theorem Ny{n:Int}(h:f.one n w=true):f.forward.one n w=true:=by
 obtain⟨h1,h2,h3,h4⟩:=Cs h;obtain⟨R,hR⟩:∃R:Nat,f.regs=(R:Int):=⟨f.regs.toNat,by omega⟩
 refine lx (f:=f.forward) h1 h2 (fun e=>h3 (List.map_eq_nil_iff.1 e)) fun x hx=>?_
 obtain⟨y,hy,rfl⟩:=qX3.1 hx;obtain⟨g1,g2⟩:=h4 y hy;show(y.forward _).ends (f.blocks.map _).length f.regs=true/\∀t∈(y.forward _).ins,t.fits n f.regs w=true
 rw[q76];rw[hR]at g1 g2|-;have hf:=Sj (n:=n) (w:=w) y.ins (Ku R) (Th R) g2;refine⟨?_,hf.1⟩;have g1':=g1;unfold Block.ends at g1|-;show(bif y.fin==1 then A3 y.to f.blocks.length&&((Block.forward _ y).v==0&&y.els==0)else bif y.fin==2 then A3 y.to f.blocks.length&&(A3 y.els f.blocks.length&&A3 (Block.forward _ y).v R)else y.fin==3&&((Block.forward _ y).v==0&&(y.to==0&&y.els==0)))=true
 cases e2:y.fin==2 with
 |false=>
  have hv:(Block.forward R y).v=y.v:=by unfold Block.forward;rw[e2];rfl
  rw[show((R:Int)).toNat=R from rfl,hv,<-e2];exact g1
 |true=>
  have e3:y.fin=2:=by simpa using e2
  have hv:(Block.forward R y).v=rget (Di (Ku R) y.ins).2 y.v:=by unfold Block.forward;rw[e2];rfl
  rw[e3]at g1|-;rw[show((R:Int)).toNat=R from rfl,hv];simp[A3]at g1|-;exact⟨g1.1,g1.2.1,hf.2.ran _ g1.2.2.1 g1.2.2.2⟩
theorem cy(R:Nat)(x:Block):(x.forward R).count=x.count:=by
 show 1+(Di (Ku R) x.ins).1.length=1+x.ins.length;rw[G3]
theorem QO(f:BFunc):f.forward.count=f.count:=by
 show((f.blocks.map _).map Block.count).sum=_;rw[List.map_map];exact congrArg List.sum (q42 fun x _=>cy _ x)
theorem p5(fr:List Int)(t:Tac):(subT fr t).n=t.n:=by
 grind[subT,use1,use2]
theorem Si:∀(l:List Tac) (fr:List Int),H6 l->H6 (Di fr l).1
 | [],fr,h=>h
 |u::l,fr,h=>fun t ht=>by
  rcases q99.1 ht with rfl|ht
  . grind[p5,H6,Di]
  . exact Si l _ (fun t ht=>h t (by simp[ht])) t ht
def isBeen(l:List Bool)(k:Int):Prop:=0<=k/\l[k.toNat]?=some true
structure Wt(next:List (List Int))(s:DS):Prop where
  seen:∀p∈s.way,∀(j:Nat) (t:Int),(j:Int)<p.2->(BR next p.1)[j]?=some t->isBeen s.been t
  all:∀k,isBeen s.been k->(∀t∈BR next k,isBeen s.been t)\/∃i,(k,i)∈s.way
variable {b k : Int} {s : DS}
theorem IC(h:isBeen s.been k):isBeen (BY b s).been k:=by
 grind[BY,notBeen,E0,isBeen]
theorem P7(h:0<=b/\b<s.been.length):isBeen (BY b s).been b:=by
 grind[BY,notBeen,Af,isBeen]
variable {next : List (List Int)}
theorem cV(h:Wt next s):Wt next (BY b s):=by
 refine⟨fun p hp j t hj ht=>?_,fun k hk=>?_⟩
 . have hp':p∈s.way\/p=(b,0):=by
    grind[BY,notBeen]
   rcases hp' with hp'|rfl
   . exact IC (h.seen p hp' j t hj ht)
   . simp only at hj;omega
 . by_cases hold:isBeen s.been k
   . rcases h.all k hold with h1|⟨i,h1⟩
     . exact .inl fun t ht=>IC (h1 t ht)
     . refine .inr ⟨i,?_⟩;unfold BY
       cases notBeen s.been b with
       |false=>exact h1
       |true=>simp only[qZ7];exact List.mem_append_left _ h1
   . right;unfold BY at hk|-
     cases e:notBeen s.been b with
     |false=>rw[e]at hk;exact absurd hk hold
     |true=>
      rw[e]at hk;simp only[qZ7]at hk|-;obtain⟨k1,k2⟩:=hk;obtain⟨h1,h2,h3⟩:=E0 e;rw[q60]at k2
      by_cases hh:b.toNat=k.toNat
      . have:k=b:=by omega
        subst this;exact⟨0,by simp⟩
      . rw[qZ9 hh]at k2;exact absurd ⟨k1,k2⟩ hold
theorem cP(hok:s.ok next)(hlead:∀l∈next,∀t∈l,0<=t/\t<next.length)(h:Wt next s):Wt next (F6 next s):=by
 unfold F6;split
 . exact h
 . rename_i b i e;have hw:=HK e;have hmem:(b,i)∈s.way:=by rw[hw];simp
   have hb:=hok.way (b,i) hmem;simp only at hb
   cases hi:decide (i<(BR next b).length)with
   |false=>
    have hi':¬i<(BR next b).length:=by simpa using hi
    simp only[qZ3];refine⟨fun p hp=>h.seen p (q39 _ hp),fun k hk=>?_⟩;rcases h.all k hk with h1|⟨j,h1⟩
    . exact .inl h1
    . rw[hw]at h1;rcases q78.1 h1 with h1|h1
      . exact .inr ⟨j,h1⟩
      . simp only[q47,q98]at h1;obtain⟨rfl,rfl⟩:=h1;left;intro t ht;obtain⟨x,hx⟩:=q35 ht;have hxl:=(q05.1 hx).1;exact h.seen (k,j) hmem x t (by simp only;omega) hx
   |true=>
    have hi':i<(BR next b).length:=by simpa using hi
    obtain⟨t0,ht0⟩:=Af (l:=BR next b) (k:=i.toNat) z144q;have hrow:BR next b∈next:=by
     obtain⟨l,hl⟩:=Af (l:=next) (k:=b.toNat) z144q;rw[BR,hl];exact q33 hl
    have ht0r:=hlead _ hrow t0 (q33 ht0);simp only[qZ7,ht0,q72]
    -- the way with one more looked at, where that one is been already
    have key:Wt next ⟨(BY t0 ⟨s.been,s.way.dropLast++[(b,i+1)]⟩).been,(BY t0 ⟨s.been,s.way.dropLast++[(b,i+1)]⟩).way⟩:=by
     have hself:isBeen (BY t0 ⟨s.been,s.way.dropLast++[(b,i+1)]⟩).been t0:=P7 (by show 0<=t0/\t0<s.been.length;rw[hok.len];exact ht0r);have hbeen:∀{k},isBeen s.been k->isBeen (BY t0 ⟨s.been,s.way.dropLast++[(b,i+1)]⟩).been k:=fun hk=>IC (s:=⟨s.been,s.way.dropLast++[(b,i+1)]⟩) hk
     have hway:∀p∈(BY t0 ⟨s.been,s.way.dropLast++[(b,i+1)]⟩).way,p∈s.way.dropLast\/p=(b,i+1)\/p=(t0,0):=fun p hp=>by
      unfold BY at hp
      cases e2:notBeen s.been t0 with
      |false=>rw[e2]at hp;simp only[qZ3,q78,q47]at hp;rcases hp with hp|hp<;>simp[hp]
      |true=>rw[e2]at hp;simp only[qZ7,q78,q47]at hp;rcases hp with(hp|hp)|hp<;>simp[hp]
     have hway2:∀p,p∈s.way.dropLast\/p=(b,i+1)->p∈(BY t0 ⟨s.been,s.way.dropLast++[(b,i+1)]⟩).way:=fun p hp=>by
      unfold BY
      cases notBeen s.been t0<;>simp only[qZ7,qZ3,q78,q47]<;>rcases hp with hp|hp<;>simp[hp]
     refine⟨fun p hp j t hj ht=>?_,fun k hk=>?_⟩
     . rcases hway p hp with hp|rfl|rfl
       . exact hbeen (h.seen p (q39 _ hp) j t hj ht)
       . simp only at hj ht
         by_cases hji:(j:Int)<i
         . exact hbeen (h.seen (b,i) hmem j t hji ht)
         . have:j=i.toNat:=by omega
           subst this;rw[ht0]at ht
           cases ht
           exact hself
       . simp only at hj;omega
     . by_cases hold:isBeen s.been k
       . rcases h.all k hold with h1|⟨j,h1⟩
         . exact .inl fun t ht=>hbeen (h1 t ht)
         . right;rw[hw]at h1;rcases q78.1 h1 with h1|h1
           . exact⟨j,hway2 _ (.inl h1)⟩
           . simp only[q47,q98]at h1;obtain⟨rfl,rfl⟩:=h1;exact⟨_,hway2 _ (.inr rfl)⟩
       . right;unfold BY at hk|-
         cases e2:notBeen s.been t0 with
         |false=>rw[e2]at hk;exact absurd hk hold
         |true=>
          rw[e2]at hk;simp only[qZ7]at hk|-;obtain⟨k1,k2⟩:=hk;rw[q60]at k2
          by_cases hh:t0.toNat=k.toNat
          . have:k=t0:=by omega
            subst this;exact⟨0,by simp⟩
          . rw[qZ9 hh]at k2;exact absurd ⟨k1,k2⟩ hold
    exact key
theorem Wa{next:List (List Int)}(hlead:∀l∈next,∀t∈l,0<=t/\t<next.length):∀(g:Nat) (s:DS),s.ok next->Wt next s->TV next s<g->Wt next (Ju next g s)/\(Ju next g s).way=[]
 |0,_,_,_,h=>absurd h z144q
 |g+1,s,hok,h,hg=>by
  by_cases hne:s.way=[]
  . grind[Wb,TV,Ju]
  . rw[Ss hne];have:=V8 hok hne;exact Wa hlead g _ (V7 hok) (cP hok hlead h) z144q
theorem St{next:List (List Int)}{k:Int}:∀(g:Nat) (s:DS),isBeen s.been k->isBeen (Ju next g s).been k
 |0,_,h=>h
 |g+1,s,h=>by
  unfold Ju;split
  . exact h
  . refine St g _ ?_;unfold F6;split
    . exact h
    . rename_i b i e
      cases decide (i<((BR next b).length:Int))with
      |true=>exact IC (s:=⟨s.been,s.way.dropLast++[(b,i+1)]⟩) h
      |false=>exact h
theorem Tf(hn:next≠[])(hlead:∀l∈next,∀t∈l,0<=t/\t<next.length):
 isBeen (HD next (List.replicate next.length false)) 0/\∀k,isBeen (HD next (List.replicate next.length false)) k->∀t∈BR next k,isBeen (HD next (List.replicate next.length false)) t:=by
 have hpos:=q43.2 hn;have hok0:(DS.mk (List.replicate next.length false) []).ok next:=⟨by simp,fun p hp=>by cases hp⟩;have h0:Wt next (DS.mk (List.replicate next.length false) []):=⟨fun p hp=>(by cases hp),fun k hk=>by
  have h2:(List.replicate next.length false)[k.toNat]?=some true:=hk.2;have h3:(true:Bool)∈List.replicate next.length false:=q33 h2;have:=q15 h3
  cases this⟩
 have key:=Wa hlead (TV next (FM (List.replicate next.length false))+1) (FM (List.replicate next.length false)) (dinto_ok hok0) (cV h0) (Nat.lt_succ_self _);refine⟨St _ _ (P7 (by show(0:Int)<=0/\(0:Int)<((List.replicate next.length false).length:Int);simp;omega)),fun k hk t ht=>?_⟩;rcases key.1.all k hk with h1|⟨i,h1⟩
 . exact h1 t ht
 . rw[key.2]at h1;cases h1
theorem R8{y v:Int}(hz:0<=z/\z<l.length)(hy:0<=y):iget (TA l z v) y=bif y==z then v else iget l y:=by
 grind[iget,TA]
theorem NP:∀(l:List Int) (w:List Int) (k:Int),(∀t∈l,0<=t/\t<w.length)->0<=k->iget (l.foldl Kk w) k=iget w k+(l.count k:Int)
 | [],w,k,_,_=>by simp
 |t::r,w,k,h,hk=>by
  rw[q85,NP r (Kk w t) k (fun x hx=>by rw[NQ];exact h x HI) hk,Kk,R8 (h t z145q) hk,List.count_cons]
  grind
theorem Y0{next:List (List Int)}{reach:List Bool}(hlead:∀l∈next,∀t∈l,0<=t/\t<next.length){k:Int}(hk:0<=k):∀(m:Nat),m<=next.length->
 0<=iget (BW next reach m) k/\(∀i,i<m->reach[i]?=some true->k∈(next[i]?).getD []->1<=iget (BW next reach m) k)/\
 (∀i j,i<j->j<m->reach[i]?=some true->reach[j]?=some true->k∈(next[i]?).getD []->k∈(next[j]?).getD []->2<=iget (BW next reach m) k)
 |0,_=>by
  grind[BW,iget]
 |m+1,hm=>by
  obtain⟨h0,h1,h2⟩:=Y0 (reach:=reach) hlead hk m z144q;obtain⟨l,hl⟩:=Af (l:=next) (k:=m) z144q;have hlen:=Co next reach m;have hcount:=NP l (BW next reach m) k (fun t ht=>by rw[hlen];exact hlead l (q33 hl) t ht) hk;have e:BW next reach (m+1)=bif (reach[m]?).getD false then l.foldl Kk (BW next reach m)else BW next reach m:=by
   rw[BW,hl];rfl
  have hge:iget (BW next reach m) k<=iget (BW next reach (m+1)) k:=by
   rw[e]
   cases (reach[m]?).getD false with
   |true=>rw[qZ7,hcount];omega
   |false=>exact Int.le_refl _
  have hmk:reach[m]?=some true->k∈l->iget (BW next reach (m+1)) k=iget (BW next reach m) k+(l.count k:Int)/\1<=l.count k:=fun hr hkl=>by
   rw[e,hr];exact⟨hcount,List.count_pos_iff.2 hkl⟩
  refine⟨by omega,fun i hi hr hki=>?_,fun i j hij hj hri hrj hki hkj=>?_⟩
  . by_cases him:i=m
    . subst him;rw[hl]at hki;obtain⟨a,b⟩:=hmk hr hki;omega
    . have:=h1 i z144q hr hki;omega
  . by_cases hjm:j=m
    . subst hjm;rw[hl]at hkj;obtain⟨a,b⟩:=hmk hrj hkj;have:=h1 i z144q hri hki;omega
    . have:=h2 i j hij z144q hri hrj hki hkj;omega
theorem GB{n:Int}(h:f.one n w=true):f.leads:=fun l hl k hk=>by
 simp only[BFunc.nexts,qX3]at hl;obtain⟨x,hx,rfl⟩:=hl;have he:=((Cs h).2.2.2 x hx).1
 grind[Block.ends,Block.nexts,A3]
theorem oC(hle:f.leads):∀l∈f.nexts,∀t∈l,0<=t/\t<f.nexts.length:=fun l hl t ht=>by
 rw[AL];exact hle l hl t ht
theorem fN(hle:f.leads){i:Int}(hi:0<=i/\i<f.blocks.length):BR f.nexts i=(f.blockAt i).nexts:=by
 grind[BR,CL,Bv]
theorem Fp(hle:f.leads)(h:isBeen f.reach k):0<=k/\k<f.blocks.length:=by
 grind[List.getElem?_eq_some_iff,Lr,isBeen]
theorem fg(hle:f.leads){i:Int}(hi:0<=i/\i<f.blocks.length):iget f.tk i=takeOf f.nexts f.reach i.toNat (f.blockAt i):=by
 rw[iget,BFunc.tk,Mp (Bv hi)];rfl
theorem Gv(hle:f.leads){i:Int}(hi:0<=i/\i<f.blocks.length)(h:iget f.tk i≠ -1):iget f.tk i=(f.blockAt i).to/\isBeen f.reach i/\(f.blockAt i).fin=1/\(f.blockAt i).to≠0/\iget (waysF f.nexts f.reach) (f.blockAt i).to=1/\0<=(f.blockAt i).to/\(f.blockAt i).to<f.blocks.length:=by
 rw[fg hle hi]at h|-;unfold takeOf at h|-
 cases e:(f.reach[i.toNat]?).getD false&&((f.blockAt i).fin==1&&((f.blockAt i).to !=0&&((f.blockAt i).to !=(i.toNat:Int)&&iget (waysF f.nexts f.reach) (f.blockAt i).to==1)))with
 |false=>rw[e]at h;exact absurd rfl h
 |true=>
  simp only[q66,qZ4,bne_iff_ne,ne_eq]at e;obtain⟨e1,e2,e3,e4,e5⟩:=e;have hto:=Jl hle (Bv hi) (.inl e2);refine⟨rfl,⟨hi.1,?_⟩,e2,e3,e5,hto.1,hto.2⟩
  cases hr:f.reach[i.toNat]? with
  |none=>rw[hr]at e1;cases e1
  |some v=>rw[hr]at e1;simp at e1;rw[e1]
theorem SY(hle:f.leads){i l:Int}(hi:0<=i/\i<f.blocks.length)(hk:iget f.tk i=k)(hne:k≠ -1)(hl:isBeen f.reach l)(hm:k∈(f.blockAt l).nexts):l=i:=by
 obtain⟨a1,a2,a3,a4,a5,a6,a7⟩:=Gv hle hi (by rw[hk];exact hne);rw[hk]at a1;have hlr:=Fp hle hl;have hnl:=AL f;have hki:k∈(f.blockAt i).nexts:=by simp[Block.nexts,a3,a1]
 have gi:(f.nexts[i.toNat]?).getD []=(f.blockAt i).nexts:=by rw[CL (Bv hi)];rfl
 have gl:(f.nexts[l.toNat]?).getD []=(f.blockAt l).nexts:=by rw[CL (Bv hlr)];rfl
 have w:=(Y0 (reach:=f.reach) (oC hle) (k:=k) (by rw[a1];exact a6) f.nexts.length (qZ0 _)).2.2;rw[<-a1]at a5;unfold waysF at a5
 by_cases h1:i.toNat<l.toNat
 . have:=w i.toNat l.toNat h1 z144q a2.2 hl.2 (by rw[gi];exact hki) (by rw[gl];exact hm);omega
 . by_cases h2:l.toNat<i.toNat
   . have:=w l.toNat i.toNat h2 z144q hl.2 a2.2 (by rw[gl];exact hm) (by rw[gi];exact hki);omega
   . omega
theorem OH(hle:f.leads):∀(m:Nat),m<=f.blocks.length->∀(k:Nat),(f.takenAt f.reach m)[k]?=some true->∃i:Int,0<=i/\i<m/\iget f.tk i=k
 |0,_,k,h=>by
  grind[BFunc.takenAt,List.mem_of_getElem?,iget]
 |m+1,hm,k,h=>by
  obtain⟨x,hx⟩:=Af (l:=f.blocks) (k:=m) z144q;rw[Gw hx]at h;have hxm:f.blockAt m=x:=by simp[BFunc.blockAt,hx]
  have hi:0<=(m:Int)/\(m:Int)<f.blocks.length:=by omega
  have ht:=fg hle hi;rw[q55,hxm]at ht
  cases e:takeOf f.nexts f.reach m x== -1 with
  |true=>
   rw[e]at h;obtain⟨i,i1,i2,i3⟩:=OH hle m z144q k h;exact⟨i,i1,by omega,i3⟩
  |false=>
   rw[e]at h;simp only[qZ3]at h;rw[q60]at h;have hne:takeOf f.nexts f.reach m x≠ -1:=by simpa using e
   have hs:=Gv hle hi (by rw[ht];exact hne);rw[hxm]at hs
   by_cases h2:x.to.toNat=k
   . exact⟨m,hi.1,by omega,by rw[hs.1];omega⟩
   . rw[qZ9 h2]at h;obtain⟨i,i1,i2,i3⟩:=OH hle m z144q k h;exact⟨i,i1,by omega,i3⟩
theorem UC(hle:f.leads):∀(m:Nat),m<=f.blocks.length->∀(i:Int),0<=i->i<m->iget f.tk i≠ -1->(f.takenAt f.reach m)[(iget f.tk i).toNat]?=some true
 |0,_,i,h1,h2,_=>absurd h2 z144q
 |m+1,hm,i,h1,h2,hne=>by
  obtain⟨x,hx⟩:=Af (l:=f.blocks) (k:=m) z144q;rw[Gw hx];have hxm:f.blockAt m=x:=by simp[BFunc.blockAt,hx]
  have hi:0<=(m:Int)/\(m:Int)<f.blocks.length:=by omega
  have ht:=fg hle hi;rw[q55,hxm]at ht;have hlen:=Cr f f.reach m
  by_cases him:i=m
  . subst him;rw[ht]at hne|-;have e:(takeOf f.nexts f.reach m x== -1)=false:=by simpa using hne
    have hs:=Gv hle hi (by rw[ht];exact hne);rw[hxm,ht]at hs;rw[e,qZ3,hs.1,q21 z144q]
  . have ih:=UC hle m z144q i h1 z144q hne
    cases e:takeOf f.nexts f.reach m x== -1 with
    |true=>exact ih
    |false=>
     simp only[qZ3];rw[q60]
     by_cases h3:x.to.toNat=(iget f.tk i).toNat
     . rw[qK0 h3,qK0 (by rw[h3];exact(q05.1 ih).1)]
     . rw[qZ9 h3];exact ih
theorem DV(hle:f.leads){k:Nat}(h:f.headOf k=true):isBeen f.reach k/\∀i:Int,0<=i/\i<f.blocks.length->iget f.tk i≠(k:Int):=by
 grind[BFunc.headOf,UC,isBeen,iget]
theorem ZZ(hle:f.leads){t:Int}(h:isBeen f.reach t)(hn:∀i:Int,0<=i/\i<f.blocks.length->iget f.tk i≠t):f.headOf t.toNat=true:=by
 have ht:=Fp hle h;obtain⟨v,hv⟩:=Af (l:=f.takenAt f.reach f.blocks.length) (k:=t.toNat) (by rw[Cr];omega);rw[Sf h.2 hv]
 cases v with
 |false=>rfl
 |true=>
  obtain⟨i,i1,i2,i3⟩:=OH hle f.blocks.length (qZ0 _) t.toNat hv;exact absurd (by rw[i3];omega) (hn i ⟨i1,i2⟩)
theorem iU(hle:f.leads)(hk:∀i:Int,0<=i/\i<f.blocks.length->iget f.tk i≠k):∀(g:Nat) (c:Int) (marks:List Bool),marks.length=f.blocks.length->isBeen marks c->
 (∀w,isBeen marks w->w=k\/∃u,isBeen marks u/\u≠c/\iget f.tk u=w)->Y8 marks<=g->ends f.tk g c=true:=by
 have step:∀(c:Int) (marks:List Bool),marks.length=f.blocks.length->isBeen marks c->(∀w,isBeen marks w->w=k\/∃u,isBeen marks u/\u≠c/\iget f.tk u=w)->iget f.tk c≠ -1->0<=iget f.tk c/\iget f.tk c<f.blocks.length/\marks[(iget f.tk c).toNat]?=some false:=fun c marks hl hc hw hne=>by
  have hin:∀{u},isBeen marks u->0<=u/\u<f.blocks.length:=fun {u} hu=>by
   grind[List.getElem?_eq_some_iff,iget,isBeen,Y8,ends]
  obtain⟨a1,a2,a3,a4,a5,a6,a7⟩:=Gv hle (hin hc) hne;rw[<-a1]at a6 a7;refine⟨a6,a7,?_⟩;obtain⟨v,hv⟩:=Af (l:=marks) (k:=(iget f.tk c).toNat) z144q
  cases v with
  |false=>exact hv
  |true=>
   exfalso;rcases hw (iget f.tk c) ⟨a6,hv⟩with h|⟨u,u1,u2,u3⟩
   . exact hk c (hin hc) h
   . refine u2 ?_;have hs:=Gv hle (hin u1) (by rw[u3];exact hne);refine SY hle (hin hc) rfl hne hs.2.1 ?_;rw[<-u3,hs.1];simp[Block.nexts,hs.2.2.1]
 intro g
 induction g with
 |zero=>
  grind[iget,ends,Lf,isBeen,Y8,Block.nexts]
 |succ g ih=>
  intro c marks hl hc hw hu
  by_cases hne:iget f.tk c= -1
  . simp[ends,hne]
  . obtain⟨a,b,e⟩:=step c marks hl hc hw hne;have hus:=Lf e;have hnew:∀w,isBeen (marks.set (iget f.tk c).toNat true) w↔w=iget f.tk c\/isBeen marks w:=fun w=>by
     constructor
     . rintro⟨h1,h2⟩
       rw[q60]at h2
       by_cases h3:(iget f.tk c).toNat=w.toNat
       . exact .inl z144q
       . rw[qZ9 h3]at h2;exact .inr ⟨h1,h2⟩
     . rintro(rfl|⟨h1,h2⟩)
       . exact⟨a,q21 z144q⟩
       . refine⟨h1,?_⟩;rw[q60]
         by_cases h3:(iget f.tk c).toNat=w.toNat
         . rw[qK0 h3,qK0 z144q]
         . rw[qZ9 h3];exact h2
    have hcc:c≠iget f.tk c:=fun h=>by
     have:=hc.2;rw[h,e]at this;cases this
    have:=ih (iget f.tk c) (marks.set (iget f.tk c).toNat true) (by simpa using hl) ((hnew _).2 (.inl rfl)) (fun w hw2=>?_) z144q
    . unfold ends;rw[this];simp
    . rcases(hnew w).1 hw2 with rfl|hw3
      . exact .inr ⟨c,(hnew c).2 (.inr hc),hcc,rfl⟩
      . rcases hw w hw3 with h|⟨u,u1,u2,u3⟩
        . exact .inl h
        . refine .inr ⟨u,(hnew u).2 (.inr u1),fun h=>?_,u3⟩;have:=u1.2;rw[h,e]at this;cases this
theorem Sd(hle:f.leads){k:Nat}(h:f.headOf k=true):ends f.tk f.tk.length k=true:=by
 obtain⟨h1,h2⟩:=DV hle h;have hk:=Fp hle h1;have hl:f.tk.length=f.blocks.length:=A4 f _;have hget:(List.replicate f.blocks.length false)[k]?=some false:=by
  rw[q19,qK0 z144q]
 have hu:=Lf hget;have hr:Y8 (List.replicate f.blocks.length false)=f.blocks.length:=by simp[Y8]
 refine iU hle h2 f.tk.length k ((List.replicate f.blocks.length false).set k true) z145q ⟨by omega,by rw[q55,q21 Df]⟩ (fun w hw=>?_) z144q;left;obtain⟨w1,w2⟩:=hw;rw[q60]at w2
 by_cases h3:k=w.toNat
 . omega
 . rw[qZ9 h3]at w2;have:=q15 (q33 w2)
   cases this
theorem Sl(hle:f.leads):∀(g:Nat) (c:Int),0<=c/\c<f.blocks.length->fol f (c::chain f.tk g c)
 |0,c,_=>trivial
 |g+1,c,hc=>by
  unfold chain
  cases e:iget f.tk c== -1 with
  |true=>exact trivial
  |false=>
   have hne:iget f.tk c≠ -1:=by simpa using e
   obtain⟨a1,a2,a3,a4,a5,a6,a7⟩:=Gv hle hc hne;exact⟨a3,a1.symm,Sl hle g _ (by rw[a1];exact⟨a6,a7⟩)⟩
theorem Qh(hle:f.leads)(hR:∀k,isBeen f.reach k->∀t∈BR f.nexts k,isBeen f.reach t):∀(g:Nat) (c:Int),isBeen f.reach c->∀x∈chain f.tk g c,isBeen f.reach x
 |0,c,_=>fun x hx=>by cases hx
 |g+1,c,hc=>fun x hx=>by
  unfold chain at hx
  cases e:iget f.tk c== -1 with
  |true=>rw[e]at hx;cases hx
  |false=>
   rw[e]at hx;have hcr:=Fp hle hc;obtain⟨a1,a2,a3,a4,a5,a6,a7⟩:=Gv hle hcr K6;have hb:isBeen f.reach (iget f.tk c):=hR c hc _ (by rw[fN hle hcr,a1];simp[Block.nexts,a3]);simp only[qZ3,q99]at hx;rcases hx with rfl|hx
   . exact hb
   . exact Qh hle hR g _ hb x hx
theorem PG(hle:f.leads):∀(g:Nat) (c:Int),ends f.tk g c=true->iget f.tk (AT (c::chain f.tk g c))= -1
 |0,c,h=>by simpa[ends,chain,AT]using h
 |g+1,c,h=>by
  unfold ends at h;unfold chain
  cases e:iget f.tk c== -1 with
  |true=>simpa[AT]using e
  |false=>
   rw[e]at h;simp only[qQ6]at h;have:=PG hle g _ h;simpa[AT]using this
theorem JY(hle:f.leads):∀(m:Nat) {p:List Int},p∈f.pathsTo m->∃k,k<m/\f.headOf k=true/\p=Bq f.tk k
 |0,p,h=>by cases h
 |m+1,p,h=>by
  unfold BFunc.pathsTo at h
  cases e:f.headOf m with
  |false=>
   rw[e]at h;obtain⟨k,k1,k2⟩:=JY hle m h;exact⟨k,by omega,k2⟩
  |true=>
   rw[e]at h;simp only[qZ7,q78,q47]at h;rcases h with h|rfl
   . obtain⟨k,k1,k2⟩:=JY hle m h;exact⟨k,by omega,k2⟩
   . exact⟨m,by omega,e,rfl⟩
theorem MO(hle:f.leads):∀(m:Nat),m<=f.blocks.length->∀k,k<m->f.headOf k=true->∃i:Nat,iget (f.numsTo m) k=i/\(f.pathsTo m)[i]?=some (Bq f.tk k)
 |0,_,k,h,_=>absurd h z144q
 |m+1,hm,k,hk,hh=>by
  have hlen:=B7 f m
  cases e:f.headOf m with
  |false=>
   have hkm:k≠m:=fun h=>by rw[h,e]at hh;cases hh
   rw[RD e,GS e];exact MO hle m z144q k z144q hh
  |true=>
   rw[Pp e,EY e,R8 (by rw[hlen];omega) z144q]
   by_cases hkm:k=m
   . subst hkm;refine⟨(f.pathsTo k).length,by simp,?_⟩;rw[q02 (qZ0 _),Nat.sub_self];rfl
   . obtain⟨i,i1,i2⟩:=MO hle m z144q k z144q hh;have hne:((k:Int)==(m:Int))=false:=by simp;omega
     rw[hne];exact⟨i,i1,by rw[q06 (q05.1 i2).1];exact i2⟩
theorem Nw(hle:f.leads)(h0:f.headOf 0=true):∀(m:Nat),0<m->(f.pathsTo m)[0]?=some (Bq f.tk 0)
 |0,h=>absurd h z144q
 |1,_=>by rw[EY h0];rfl
 |m+2,_=>by
  have ih:=Nw hle h0 (m+1) z144q
  cases e:f.headOf (m+1)with
  |false=>rw[GS e];exact ih
  |true=>rw[EY e,q06 (q05.1 ih).1];exact ih
theorem target(hle:f.leads){l t:Int}(hR:∀k,isBeen f.reach k->∀t∈BR f.nexts k,isBeen f.reach t)(hl:isBeen f.reach l)(hlast:iget f.tk l= -1)(ht:t∈(f.blockAt l).nexts):D6 f.tpaths (iget f.nums t) t=true:=by
 have hlr:=Fp hle hl;have htb:isBeen f.reach t:=hR l hl t (by rw[fN hle hlr];exact ht);have htr:=Fp hle htb;have hh:f.headOf t.toNat=true:=ZZ hle htb (fun i hi e=>by
  have hne:t≠ -1:=by omega
  have:=SY hle hi e hne hl ht;subst this;rw[hlast]at e;omega)
 obtain⟨i,i1,i2⟩:=MO hle f.blocks.length (qZ0 _) t.toNat z144q hh;have et:((t.toNat:Nat):Int)=t:=q41 htr.1;rw[et]at i1 i2;have hil:=(q05.1 i2).1;have hp:Dz f.tpaths (iget f.nums t)=Bq f.tk t:=by
  rw[show iget f.nums t=i from i1,Dz,q55];show((f.pathsTo f.blocks.length)[i]?).getD []=_;rw[i2];rfl
 refine Yx (by rw[show iget f.nums t=i from i1];omega) (by rw[show iget f.nums t=i from i1];show(i:Int)<((f.pathsTo f.blocks.length).length:Int);omega) ?_;rw[hp];rfl
theorem KG(hle:f.leads)(hn:f.blocks≠[]):Wp f f.tidy f.tpaths:=by
 have hnn:f.nexts≠[]:=by simpa[BFunc.nexts]using hn
 obtain⟨r0,rc⟩:=Tf hnn (oC hle);have hR:∀k,isBeen f.reach k->∀t∈BR f.nexts k,isBeen f.reach t:=rc
 have hpos:=q43.2 hn;have h0:f.headOf 0=true:=ZZ hle (t:=0) r0 (fun i hi e=>by
  have:=Gv hle hi (by rw[e];decide);rw[e]at this;exact this.2.2.2.1 this.1.symm)
 have hfirst:=Nw hle h0 f.blocks.length hpos;have hmem:∀(k:Nat) (p:List Int),f.tpaths[k]?=some p->∃c:Nat,f.headOf c=true/\p=Bq f.tk c:=fun k p hp=>by
  obtain⟨c,_,c2,c3⟩:=JY hle _ (q33 hp);exact⟨c,c2,c3⟩
 have hblk:∀(k:Nat) (p:List Int),f.tpaths[k]?=some p->f.tidy.blockAt k=f.newBlock p:=fun k p hp=>by
  simp[BFunc.blockAt,BFunc.tidy,hp]
 refine⟨fun h=>?_,by simp[BFunc.tidy],rfl,Je hle _ (qZ0 _),?_,fun k p hp=>?_,fun k p hp=>?_,fun k p hp=>?_⟩
 . have:=(q05.1 hfirst).1;have h':(f.pathsTo f.blocks.length).length=0:=h;omega
 . have:Dz f.tpaths 0=Bq f.tk 0:=by
    show((f.pathsTo f.blocks.length)[0]?).getD []=_;rw[hfirst];rfl
   rw[this];rfl
 . obtain⟨c,c1,rfl⟩:=hmem k p hp;exact Sl hle _ _ (Fp hle (DV hle c1).1)
 . rw[hblk k p hp];rfl
 . obtain⟨c,c1,rfl⟩:=hmem k p hp;have hcb:=(DV hle c1).1;have hne:Bq f.tk c≠[]:=by simp[Bq]
   have hlb:isBeen f.reach (AT (Bq f.tk c)):=by
    have:=Jm hne;simp only[Bq,q99]at this;rcases this with h|h
    . show isBeen f.reach (AT (↑c::chain f.tk f.tk.length ↑c));rw[h];exact hcb
    . exact Qh hle hR _ _ hcb _ h
   have hlast:iget f.tk (AT (Bq f.tk c))= -1:=PG hle _ _ (Sd hle c1);rw[hblk k _ hp];refine co rfl rfl (fun e=>?_) (fun e=>?_) (fun e=>?_) (fun e=>?_)
   . have e':((f.blockAt (AT (Bq f.tk c))).fin==1||(f.blockAt (AT (Bq f.tk c))).fin==2)=true:=by
      have:(f.blockAt (AT (Bq f.tk c))).fin=1\/(f.blockAt (AT (Bq f.tk c))).fin=2:=e;simpa using this
     have hto:(f.newBlock (Bq f.tk c)).to=iget f.nums (f.blockAt (AT (Bq f.tk c))).to:=by simp only[BFunc.newBlock,e',qZ7]
     rw[hto];refine target hle hR hlb hlast ?_;have:(f.blockAt (AT (Bq f.tk c))).fin=1\/(f.blockAt (AT (Bq f.tk c))).fin=2:=e;rcases this with e|e<;>simp[Block.nexts,e]
   . have e':((f.blockAt (AT (Bq f.tk c))).fin==1||(f.blockAt (AT (Bq f.tk c))).fin==2)=false:=by
      have:¬((f.blockAt (AT (Bq f.tk c))).fin=1\/(f.blockAt (AT (Bq f.tk c))).fin=2):=e;simpa using this
     simp only[BFunc.newBlock,e',qZ3]
   . have e':(f.blockAt (AT (Bq f.tk c))).fin=2:=e;have hel:(f.newBlock (Bq f.tk c)).els=iget f.nums (f.blockAt (AT (Bq f.tk c))).els:=by simp[BFunc.newBlock,e']
     rw[hel];exact target hle hR hlb hlast (by simp[Block.nexts,e'])
   . have e':((f.blockAt (AT (Bq f.tk c))).fin==2)=false:=by
      have:(f.blockAt (AT (Bq f.tk c))).fin≠2:=e;simpa using this
     simp only[BFunc.newBlock,e',qZ3]
theorem Jz{tk:List Int}:∀(g:Nat) (c x:Int),x∈chain tk g c->∃u,u∈c::chain tk g c/\iget tk u=x/\x≠ -1
 |0,c,x,hx=>by cases hx
 |g+1,c,x,hx=>by
  unfold chain at hx|-
  cases e:iget tk c== -1 with
  |true=>rw[e]at hx;cases hx
  |false=>
   rw[e]at hx;simp only[qZ3]at hx|-;rcases q99.1 hx with rfl|hx
   . exact⟨c,by simp,rfl,by simpa using e⟩
   . obtain⟨u,u1,u2⟩:=Jz g _ x hx;exact⟨u,List.mem_cons_of_mem _ u1,u2⟩
variable {c : Nat}
theorem lW(hle:f.leads)(hc:f.headOf c=true)(hd:f.headOf d=true)(h:(d:Int)∈Bq f.tk c):d=c:=by
 rcases q99.1 h with h|h
 . omega
 . exfalso;obtain⟨u,u1,u2,u3⟩:=Jz _ _ _ h;have hcr:=Fp hle (DV hle hc).1;have hur:0<=u/\u<f.blocks.length:=by
    have hl:f.tk.length=f.blocks.length:=A4 f _;rcases q99.1 u1 with rfl|hu
    . exact hcr
    . have hl':((f.takes f.reach).length:Int)=f.blocks.length:=by rw[A4]
      have:=L5 (I3 hle f.reach) f.tk.length c (by rw[hl'];exact hcr) u hu;rw[hl']at this;exact this
   exact(DV hle hd).2 u hur u2
variable {g : BFunc}
theorem fe(hle:f.leads){u v:Int}(hu:0<=u/\u<f.blocks.length)(hv:0<=v/\v<f.blocks.length)(h:iget f.tk u=iget f.tk v)(hne:iget f.tk u≠ -1):u=v:=by
 obtain⟨h1,h2,h3,h4⟩:=Gv hle hu hne;exact SY hle hv h.symm hne h2 (by rw[h1];simp[Block.nexts,h3])
theorem oe(hle:f.leads){u:Int}(hne:iget f.tk u≠ -1)(hu:0<=u/\u<f.blocks.length):0<=iget f.tk u/\iget f.tk u<f.blocks.length:=by
 have hl:f.tk.length=f.blocks.length:=A4 f _;obtain⟨v,hv⟩:=Af (l:=f.tk) (k:=u.toNat) z144q;have hi:iget f.tk u=v:=by simp[iget,hv]
 rcases I3 hle f.reach v (q33 hv)with e|e
 . rw[hi]at hne;exact absurd e hne
 . rw[hi];have:(f.takes f.reach).length=f.blocks.length:=A4 f _;omega
theorem ZH(hle:f.leads)(hc:f.headOf c=true):∀x∈Bq f.tk c,0<=x/\x<f.blocks.length:=fun x hx=>by
 have hl:f.tk.length=f.blocks.length:=A4 f _;have hb:=Fp hle (DV hle hc).1;rcases q99.1 hx with rfl|hx
 . exact hb
 . have:=L5 (I3 hle f.reach) _ _ (by rw[show(f.takes f.reach).length=f.blocks.length from hl];exact hb) x hx;rw[show(f.takes f.reach).length=f.blocks.length from hl]at this;exact this
theorem path_disj(hle:f.leads)(hc:f.headOf c=true)(hd:f.headOf d=true):∀x,x∈Bq f.tk c->x∈Bq f.tk d->c=d:=by
 have gen:∀(g:Nat) (a:Int),0<=a/\a<f.blocks.length->(a∈Bq f.tk d->c=d)->∀x∈a::chain f.tk g a,x∈Bq f.tk d->c=d:=by
  intro g
  induction g with
  |zero=>intro a ha h x hx;simp[chain]at hx;subst hx;exact h
  |succ g ih=>
   intro a ha h x hx;rcases q99.1 hx with rfl|hx
   . exact h
   . unfold chain at hx
     by_cases e:iget f.tk a= -1
     . rw[show(iget f.tk a== -1)=true by simpa using e]at hx;cases hx
     . rw[show(iget f.tk a== -1)=false by simpa using e]at hx;refine ih (iget f.tk a) (oe hle e ha) (fun h2=>?_) x hx;rcases q99.1 h2 with e2|h2
       . exact absurd e2 ((DV hle hd).2 a ha)
       . obtain⟨u,hu,hu2,_⟩:=Jz _ _ _ h2;have hur:=ZH hle hd u hu;have:=fe hle hur ha hu2 (by rw[hu2];exact e);subst this;exact h hu
 grind[Fp,DV,lW,Bq]
theorem XO(hle:f.leads)(hc:f.headOf c=true):(Bq f.tk c).Nodup:=by
 have gen:∀(g:Nat) (a:Int) (pre:List Int),(pre++[a]).Nodup->(∀y∈pre++[a],y=(c:Int)\/∃u∈pre,iget f.tk u=y)->(∀y∈pre++[a],0<=y/\y<f.blocks.length)->(pre++(a::chain f.tk g a)).Nodup:=by
  intro g
  induction g with
  |zero=>intro a pre h1 _ _;exact h1
  |succ g ih=>
   intro a pre h1 h2 h3;unfold chain
   by_cases e:iget f.tk a= -1
   . rw[show(iget f.tk a== -1)=true by simpa using e];exact h1
   . rw[show(iget f.tk a== -1)=false by simpa using e];have ha:=h3 a z145q;have hy:iget f.tk a∉pre++[a]:=fun hm=>by
      rcases h2 _ hm with e2|⟨u,hu,hu2⟩
      . exact(DV hle hc).2 a ha e2
      . have:=fe hle (h3 u IY) ha hu2 (by rw[hu2];exact e);subst this;rw[q65]at h1;exact h1.2.2 u hu u z145q rfl
     have:=ih (iget f.tk a) (pre++[a]) (q65.2 ⟨h1,by simp,fun x hx y hy2 e2=>by rw[q47.1 hy2]at e2;subst e2;exact hy hx⟩) (fun y hy2=>by
      rcases q78.1 hy2 with h|h
      . rcases h2 y h with e2|⟨u,hu,hu2⟩
        . exact .inl e2
        . exact .inr ⟨u,by simp[hu],hu2⟩
      . rw[q47.1 h];exact .inr ⟨a,by simp,rfl⟩) (fun y hy2=>by
      rcases q78.1 hy2 with h|h
      . exact h3 y h
      . rw[q47.1 h];exact oe hle e ha)
     rw[q63]at this;exact this
 have:=gen f.tk.length c [] z145q (fun y hy=>.inl (by simpa using hy)) (fun y hy=>by rw[show y=(c:Int) by simpa using hy];exact Fp hle (DV hle hc).1);exact this
theorem Pf(hle:f.leads):∀m,(f.pathsTo m).flatten.Nodup/\∀x∈(f.pathsTo m).flatten,∃k,k<m/\f.headOf k=true/\x∈Bq f.tk k
 |0=>⟨by simp[BFunc.pathsTo],fun x hx=>by simp[BFunc.pathsTo]at hx⟩
 |m+1=>by
  obtain⟨i1,i2⟩:=Pf hle m
  cases e:f.headOf m with
  |false=>rw[GS e];exact⟨i1,fun x hx=>by obtain⟨k,k1,k2,k3⟩:=i2 x hx;exact⟨k,by omega,k2,k3⟩⟩
  |true=>
   rw[EY e,List.flatten_append];refine⟨q65.2 ⟨i1,by simpa using XO hle e,fun x hx y hy e2=>?_⟩,fun x hx=>?_⟩
   . subst e2;obtain⟨k,k1,k2,k3⟩:=i2 x hx;have:=path_disj hle k2 e x k3 (by simpa using hy);omega
   . rcases q78.1 hx with hx|hx
     . obtain⟨k,k1,k2,k3⟩:=i2 x hx;exact⟨k,by omega,k2,k3⟩
     . exact⟨m,by omega,e,by simpa using hx⟩
def KC(w:Int->Nat)(l:List Int):Nat:=(l.map w).sum
theorem Ou{w:Int->Nat}{x:Int}:∀{m:List Int},x∈m->w x+KC w (m.erase x)=KC w m
 | [],h=>by cases h
 |y::m,h=>by
  rw[List.erase_cons]
  by_cases e:y=x
  . subst e;simp[KC]
  . rw[show(y==x)=false by simpa using e];have hxm:x∈m:=(q99.1 h).resolve_left (fun h=>e h.symm);have:=Ou (w:=w) hxm;simp only[KC,qQ0,qQ2]at this|-;simp only[qZ9 Bool.false_ne_true,qQ0,qQ2];omega
theorem YW{w:Int->Nat}:∀(l m:List Int),l.Nodup->(∀x∈l,x∈m)->KC w l<=KC w m
 | [],m,_,_=>qZ1 _
 |x::l,m,h1,h2=>by
  obtain⟨g1,g2⟩:=q93.1 h1;have hx:=h2 x z145q;have:=YW (w:=w) l (m.erase x) g2 fun y hy=>(List.mem_erase_of_ne (fun e=>g1 (by subst e;exact hy))).2 (h2 y (by simp[hy]))
  grind[Ou,KC]
theorem QZ{w:Int->Nat}:∀(ps:List (List Int)),KC w ps.flatten=(ps.map (KC w)).sum
 | []=>rfl
 |p::ps=>by
  rw[List.flatten_cons,qQ0,qQ2,<-QZ ps];simp[KC]
theorem VI(p:List Int):(f.joined p).length+p.length=KC (fun i=>(f.blockAt i).count) p:=by
 induction p with
 |nil=>rfl
 |cons i r ih=>
  grind[BFunc.joined,List.length_append,KC,Block.count]
theorem XD(f:BFunc):KC (fun i=>(f.blockAt i).count) ((List.range f.blocks.length).map fun(k:Nat)=>(k:Int))=f.count:=by
 unfold KC BFunc.count;rw[List.map_map];congr 1;apply q62;intro k;rw[q54,q54]
 by_cases hk:k<f.blocks.length
 . obtain⟨x,hx⟩:=Af hk;rw[q44 hk,hx];simp[BFunc.blockAt,hx]
 . rw[q26 Df,q26 z144q];rfl
theorem W0(hle:f.leads):f.tidy.count<=f.count:=by
 obtain⟨h1,h2⟩:=Pf hle f.blocks.length;rw[<-XD f];refine qX2 ?_ (YW (w:=fun i=>(f.blockAt i).count) f.tpaths.flatten _ h1 fun x hx=>?_)
 . rw[QZ];show((f.tpaths.map f.newBlock).map Block.count).sum<=_;rw[List.map_map];have key:∀(ps:List (List Int)),(∀p∈ps,p≠[])->(ps.map (Block.count∘f.newBlock)).sum<=(ps.map (KC fun i=>(f.blockAt i).count)).sum:=by
    intro ps
    induction ps with
    |nil=>intro _;exact qZ0 _
    |cons p ps ih=>
     intro hp;simp only[qQ0,qQ2];have h3:=ih fun q hq=>hp q (by simp[hq])
     have h4:=VI (f:=f) p;have h5:p.length≠0:=fun e=>hp p z145q (q18.1 e)
     have h6:(Block.count∘f.newBlock) p=1+(f.joined p).length:=rfl;omega
   refine key _ fun p hp=>?_
   obtain⟨k,_,_,rfl⟩:=JY hle _ hp;exact List.cons_ne_nil _ _
 . obtain⟨k,k1,k2,k3⟩:=h2 x hx;have:=ZH hle k2 x k3;exact qX3.2 ⟨x.toNat,q94.2 z144q,by omega⟩
def need(v:Nat):List Tac->Bool->Bool
  | [],z=>z
  |t::r,z=>t.uses.contains (v:Int)||(!(t.sets==(v:Int))&&need v r z)
theorem Jg(v:Nat)(l2:List Tac)(z:Bool):∀l1,need v (l1++l2) z=need v l1 (need v l2 z)
 | []=>rfl
 |t::r=>by rw[q73,need,need,Jg v l2 z r]
theorem BA{v:Nat}{z z':Bool}(h:z=true->z'=true):∀{l},need v l z=true->need v l z'=true
 | [],e=>h e
 |t::r,e=>by
  have ih:=BA (v:=v) h (l:=r)
  grind[need]
theorem ZL(v:Nat)(a b:Bool):∀l,need v l (a||b)=(need v l a||need v l b)
 | []=>rfl
 |t::r=>by
  unfold need;rw[ZL v a b r]
  grind
variable {z : Bool} {l1 l2 : List Tac}
theorem Ps(h:t.sets=(v:Int)->need v l2 z=false)(hn:need v (l1++l2) z=true):need v (l1++t::l2) z=true:=by
 grind[Jg,BA,need]
theorem MT(h:t.uses.contains (v:Int)=false)(hn:need v (l1++t::l2) z=true):need v (l1++l2) z=true:=by
 grind[Jg,BA,need]
def Dy(x:Block)(v:Nat):Bool:=x.fin==2&&x.v==(v:Int)
inductive Em(f:BFunc)(v:Nat):Nat->Prop
  |here {c:Nat} {x:Block}:f.blocks[c]?=some x->need v x.ins (Dy x v)=true->Em f v c
  |thru {c:Nat} {d:Int} {x:Block}:f.blocks[c]?=some x->need v x.ins true=true->d∈x.nexts->Em f v d.toNat->Em f v c
open Classical in
noncomputable def WC(f:BFunc)(v c:Nat):Bool:=decide (Em f v c)
noncomputable def outB(f:BFunc)(x:Block)(v:Nat):Bool:=x.nexts.any fun d=>WC f v d.toNat
noncomputable def endB(f:BFunc)(x:Block)(v:Nat):Bool:=Dy x v||outB f x v
theorem inB_iff:WC f v c=true↔Em f v c:=by unfold WC;simp
variable {x : Block}
theorem outB_iff:outB f x v=true↔ ∃d∈x.nexts,Em f v d.toNat:=by
 grind[outB,List.any_eq_true,inB_iff]
theorem Ya(hx:f.blocks[c]?=some x):WC f v c=need v x.ins (endB f x v):=by
 rw[Bool.eq_iff_iff,inB_iff];constructor
 . intro h
   cases h with
   |here h1 h2=>rw[hx]at h1;cases h1;exact BA (fun e=>by unfold endB;rw[e];rfl) h2
   |thru h1 h2 h3 h4=>rw[hx]at h1;cases h1;exact BA (fun _=>by unfold endB;rw[outB_iff.2 ⟨_,h3,h4⟩,qX6]) h2
 . intro h;unfold endB at h;rw[ZL,q81]at h;rcases h with h|h
   . exact .here hx h
   . cases ho:outB f x v with
     |true=>rw[ho]at h;obtain⟨d,h1,h2⟩:=outB_iff.1 ho;exact .thru hx h h1 h2
     |false=>rw[ho]at h;exact .here hx (BA z130q h)
theorem PB{I:Nat->Bool}(hc:∀c x,f.blocks[c]?=some x->need v x.ins (Dy x v||x.nexts.any fun d=>I d.toNat)=true->I c=true):∀{c},Em f v c->I c=true:=by
 intro c h
 induction h with
 |here h1 h2=>exact hc _ _ h1 (BA (fun e=>by rw[e];rfl) h2)
 | @thru c d x h1 h2 h3 _ ih=>exact hc _ _ h1 (BA (fun _=>by rw[q74.2 ⟨d,h3,ih⟩,qX6]) h2)
def Tac.pure(t:Tac):Bool:=t.op==1||(t.op==2||(t.op==4||(t.op==3&&(!(t.k==7)&& !(t.k==8)))))
def Block.mid(x:Block)(l:List Tac):Block:={x with ins:=l}
def BFunc.putB(f:BFunc)(c:Nat)(x:Block):BFunc:={f with blocks:=f.blocks.set c x}
structure F9(f g:BFunc)(c:Nat)(x:Block)(l1:List Tac)(t:Tac)(l2:List Tac)(v:Nat):Prop where
  hx:f.blocks[c]?=some x
  hi:x.ins=l1++t::l2
  pure:t.pure=true
  hv:t.sets=(v:Int)
  dead:need v l2 (endB f x v)=false
  hg:g=f.putB c (x.mid (l1++l2))
def dL(f g:BFunc):Prop:=∃c x l1 t l2 v,F9 f g c x l1 t l2 v
variable {y : Block}
theorem Eu(hx:f.blocks[c]?=some x):(f.putB c y).blocks[c]?=some y:=by
 have hc:=(q05.1 hx).1;exact q21 hc
theorem Hk(h:c≠d):(f.putB c y).blocks[d]?=f.blocks[d]?:=q36 h
theorem Ly(f:BFunc)(c:Nat)(y:Block):(f.putB c y).blocks.length=f.blocks.length:=q83
variable {w : Nat}
theorem P8(h:F9 f g c x l1 t l2 v)(hz:z=true->endB f x w=true):t.sets=(w:Int)->need w l2 z=false:=by
 intro e;have hvw:v=w:=by have:=h.hv.symm.trans e;omega
 subst hvw
 cases hn:need v l2 z with
 |false=>rfl
 |true=>exact(h.dead.symm.trans (BA hz hn)).symm▸rfl
theorem RQ(h:F9 f g c x l1 t l2 v)(hl:Em g w d):Em f w d:=by
 have hg:=h.hg
 induction hl with
 | @here d y h1 h2=>
  by_cases hcd:c=d
  . subst hcd;rw[hg,Eu h.hx]at h1;cases h1;refine .here h.hx ?_;rw[h.hi];exact Ps (P8 h (fun e=>by unfold endB;rw[show Dy x w=true from e];rfl)) h2
  . rw[hg,Hk hcd]at h1;exact .here h1 h2
 | @thru d e y h1 h2 h3 h4 ih=>
  by_cases hcd:c=d
  . subst hcd;rw[hg,Eu h.hx]at h1;cases h1;refine .thru h.hx ?_ h3 ih;rw[h.hi];have h3':e∈x.nexts:=h3;exact Ps (P8 h (fun _=>by unfold endB;rw[outB_iff.2 ⟨_,h3',ih⟩,qX6])) h2
  . rw[hg,Hk hcd]at h1;exact .thru h1 h2 h3 ih
theorem ZN(h:F9 f g c x l1 t l2 v)(hw:t.uses.contains (w:Int)=false)(hl:Em f w d):Em g w d:=by
 have hg:=h.hg
 induction hl with
 | @here d y h1 h2=>
  by_cases hcd:c=d
  . subst hcd;rw[h.hx]at h1;cases h1;rw[h.hi]at h2;exact .here (x:=x.mid (l1++l2)) (by rw[hg];exact Eu h.hx) (MT hw h2)
  . exact .here (by rw[hg,Hk hcd];exact h1) h2
 | @thru d e y h1 h2 h3 h4 ih=>
  by_cases hcd:c=d
  . subst hcd;rw[h.hx]at h1;cases h1;rw[h.hi]at h2;exact .thru (x:=x.mid (l1++l2)) (by rw[hg];exact Eu h.hx) (MT hw h2) h3 ih
  . exact .thru (by rw[hg,Hk hcd];exact h1) h2 h3 ih
variable {y' : Block}
theorem H8(h:F9 f g c x l1 t l2 v)(hy:y'.fin=y.fin/\y'.v=y.v/\y'.nexts=y.nexts)(e:endB g y' w=true):endB f y w=true:=by
 grind[endB,Dy,outB_iff,RQ]
theorem Oi(h:F9 f g c x l1 t l2 v)(hy:y'.fin=y.fin/\y'.v=y.v/\y'.nexts=y.nexts)(hw:t.uses.contains (w:Int)=false)(e:endB f y w=true):endB g y' w=true:=by
 grind[endB,Dy,outB_iff,ZN]
theorem Pv(x:Block)(l:List Tac):(x.mid l).fin=x.fin/\(x.mid l).v=x.v/\(x.mid l).nexts=x.nexts:=⟨rfl,rfl,rfl⟩
theorem false_of{a b:Bool}(h:a=true->b=true)(hb:b=false):a=false:=by cases a with|false=>rfl|true=>rw[h rfl]at hb;cases hb
variable {g1 g2 : BFunc}
theorem Sy{c1 c2:Nat}{x1 x2:Block}{m1 m2:List Tac}(h1:F9 f g1 c1 x1 l1 t l2 v)(h2:F9 f g2 c2 x2 m1 u m2 w)(hne:c1≠c2):
 F9 g1 (g1.putB c2 (x2.mid (m1++m2))) c2 x2 m1 u m2 w where
 hx:=by rw[h1.hg,Hk hne];exact h2.hx
 hi:=h2.hi
 pure:=h2.pure
 hv:=h2.hv
 dead:=false_of (BA (H8 h1 ⟨rfl,rfl,rfl⟩)) h2.dead
 hg:=rfl
theorem P9{k m2:List Tac}(h1:F9 f g1 c x l1 t (k++u::m2) v)(h2:F9 f g2 c x (l1++t::k) u m2 w):
 F9 g1 (f.putB c (x.mid (l1++k++m2))) c (x.mid (l1++(k++u::m2))) (l1++k) u m2 w/\F9 g2 (f.putB c (x.mid (l1++k++m2))) c (x.mid ((l1++t::k)++m2)) l1 t (k++m2) v:=by
 have hpp:∀(y z:Block),(f.putB c y).putB c z=f.putB c z:=fun y z=>by unfold BFunc.putB;rw[List.set_set]
 constructor
 . exact {hx:=by rw[h1.hg];exact Eu h1.hx,hi:=by simp[Block.mid],pure:=h2.pure,hv:=h2.hv,dead:=false_of (BA (H8 h1 (Pv _ _))) h2.dead,hg:=by rw[h1.hg,hpp];rfl}
 . refine {hx:=by rw[h2.hg];exact Eu h1.hx,hi:=by simp[Block.mid],pure:=h1.pure,hv:=h1.hv,dead:=?_,hg:=by rw[h2.hg,hpp];simp[Block.mid]};refine false_of (fun e=>?_) h1.dead
   grind[Ps,P8,BA,H8,Pv,BFunc.putB,Block.mid]
theorem Wh(h1:dL f g1)(h2:dL f g2):g1=g2\/∃h,dL g1 h/\dL g2 h:=by
 obtain⟨c1,x1,l1,t,l2,v,h1⟩:=h1;obtain⟨c2,x2,m1,u,m2,w,h2⟩:=h2
 by_cases hc:c1=c2
 . subst hc;have hx:=h1.hx.symm.trans h2.hx;cases hx;have he:=h1.hi.symm.trans h2.hi;rcases List.append_eq_append_iff.1 he with⟨k,hk1,hk2⟩|⟨k,hk1,hk2⟩
   . cases k with
     |nil=>
      exact nJ
     |cons a k=>
      simp only[q73,q88]at hk2;obtain⟨e1,e2⟩:=hk2;subst e1;subst e2;subst hk1;have:=P9 h1 h2;exact .inr ⟨_,⟨_,_,_,_,_,_,this.1⟩,⟨_,_,_,_,_,_,this.2⟩⟩
   . cases k with
     |nil=>
      exact nJ
     |cons a k=>
      simp only[q73,q88]at hk2;obtain⟨e1,e2⟩:=hk2;subst e1;subst e2;subst hk1;have:=P9 h2 h1;exact .inr ⟨_,⟨_,_,_,_,_,_,this.2⟩,⟨_,_,_,_,_,_,this.1⟩⟩
 . have a1:=Sy h1 h2 hc;have a2:=Sy h2 h1 (Ne.symm hc);refine .inr ⟨_,⟨_,_,_,_,_,_,a1⟩,?_⟩;have e:g1.putB c2 (x2.mid (m1++m2))=g2.putB c1 (x1.mid (l1++l2)):=by
    rw[h1.hg,h2.hg];unfold BFunc.putB;simp only;rw[List.set_comm _ _ hc]
   rw[e];exact⟨_,_,_,_,_,_,a2⟩
def iw(f:BFunc):Nat:=(f.blocks.map fun x=>x.ins.length).sum
theorem Zg{α:Type}{p:α->Nat}{y:α}:∀{l:List α} {c:Nat} {x:α},l[c]?=some x->((l.set c y).map p).sum+p x=(l.map p).sum+p y
 | [],c,x,h=>by simp at h
 |a::l,0,x,h=>by simp at h;subst h;simp;omega
 |a::l,c+1,x,h=>by
  have ih:=Zg (p:=p) (y:=y) (l:=l) (c:=c) (x:=x) He
  grind
theorem Ho(h:dL f g):iw g+1=iw f:=by
 obtain⟨c,x,l1,t,l2,v,h⟩:=h;have:=Zg (p:=fun(x:Block)=>x.ins.length) (y:=x.mid (l1++l2)) h.hx;have hl:=congrArg List.length h.hi;rw[h.hg];unfold iw BFunc.putB;simp only[Block.mid,q48,q70]at this hl|-;omega
inductive Cuts:BFunc->BFunc->Prop
  |refl (f:BFunc):Cuts f f
  |step {f g h:BFunc}:dL f g->Cuts g h->Cuts f h
theorem Cuts.trans{h:BFunc}(h1:Cuts f g)(h2:Cuts g h):Cuts f h:=by
 induction h1 with
 |refl=>exact h2
 |step a _ ih=>exact .step a (ih h2)
theorem Cuts.one(h:dL f g):Cuts f g:=.step h (.refl g)
def Clean(f:BFunc):Prop:=∀g,¬dL f g
theorem KY:∀(n:Nat) (f:BFunc),iw f<=n->∃g,Cuts f g/\Clean g
 |0,f,h=>⟨f,.refl f,fun g hg=>by have:=Ho hg;omega⟩
 |n+1,f,h=>by
  by_cases hc:Clean f
  . exact⟨f,.refl f,hc⟩
  . have⟨g,hg⟩:∃g,dL f g:=Classical.not_forall_not.1 hc
    obtain⟨k,h1,h2⟩:=KY n g (by have:=Ho hg;omega);exact⟨k,.step hg h1,h2⟩
theorem TZ:∀(n:Nat) (f:BFunc),iw f<=n->∀{g h},Cuts f g->Clean g->Cuts f h->Clean h->g=h:=by
 intro n
 induction n with
 |zero=>
  intro f hn g h h1 c1 h2 c2
  cases h1 with
  |step a _=>have:=Ho a;omega
  |refl=>
   cases h2 with
   |refl=>rfl
   |step a _=>have:=Ho a;omega
 |succ n ih=>
  intro f hn g h h1 c1 h2 c2
  cases h1 with
  |refl=>
   cases h2 with
   |refl=>rfl
   |step a _=>exact absurd a (c1 _)
  | @step _ g' _ a1 b1=>
   cases h2 with
   |refl=>exact absurd a1 (c2 _)
   | @step _ h' _ a2 b2=>
    have i1:=Ho a1;have i2:=Ho a2;rcases Wh a1 a2 with e|⟨k,k1,k2⟩
    . subst e;exact ih g' z144q b1 c1 b2 c2
    . obtain⟨m,m1,m2⟩:=KY _ k (qZ0 _);exact(ih g' z144q b1 c1 (.step k1 m1) m2).trans (ih h' z144q (.step k2 m1) m2 b2 c2)
theorem Ym(f:BFunc):∃g,Cuts f g/\Clean g:=KY _ f (qZ0 _)
noncomputable def NN(f:BFunc):BFunc:=Classical.choose (Ym f)
theorem F7(f:BFunc):Cuts f (NN f):=(Classical.choose_spec (Ym f)).1
theorem cS(f:BFunc):Clean (NN f):=(Classical.choose_spec (Ym f)).2
theorem qE(h1:Cuts f g)(h2:Clean g):g=NN f:=TZ _ f (qZ0 _) h1 h2 (F7 f) (cS f)
variable {call' : Int -> Mach -> Mach} {s : ByteArray}
theorem OY(l:List Int)(z v:Int):(A5 l z v).length=l.length:=q83
theorem Vs(t:Tac){r r':List Int}(ha:use1 t.op=true\/use2 t.op=true->rget r t.a=rget r' t.a)(hb:use2 t.op=true->rget r t.b=rget r' t.b)(m:Mach):
 (mone call s t r m).2=(mone call s t r' m).2/\((setsOp t.op=true/\∃v,(mone call s t r m).1=A5 r t.d v/\(mone call s t r' m).1=A5 r' t.d v)\/((mone call s t r m).1=r/\(mone call s t r' m).1=r'/\(setsOp t.op=false\/(mone call s t r m).2.fin≠0))):=by
 unfold mone
 cases e1:t.op==1 with
 |true=>exact⟨rfl,.inl ⟨by simp[setsOp,e1],_,rfl,rfl⟩⟩
 |false=>
 cases e2:t.op==2 with
 |true=>rw[ha (.inl (by simp[use1,e2]))];exact⟨rfl,.inl ⟨by simp[setsOp,e2],_,rfl,rfl⟩⟩
 |false=>
 cases e3:t.op==3 with
 |true=>
  grind[use2,wapp,rget,setsOp,use1,mone,A5]
 |false=>
 cases e4:t.op==4 with
 |true=>exact⟨rfl,.inl ⟨by simp[setsOp,e4],_,rfl,rfl⟩⟩
 |false=>
 cases e5:t.op==5 with
 |true=>rw[ha (.inl (by simp[use1,e5]))];exact⟨rfl,.inr ⟨rfl,rfl,.inl (by rw[eq_of_beq e5];rfl)⟩⟩
 |false=>
 cases e6:t.op==6 with
 |true=>
  grind[use1,rget,setsOp,use2,mone,A5,wapp]
 |false=>
 cases e7:t.op==7 with
 |true=>
  grind[use2,rget,use1,mone,setsOp,A5,wapp]
 |false=>
 cases e8:t.op==8 with
 |true=>
  grind[setsOp,use1,use2,rget,mone,A5,wapp]
 |false=>
 have hs:setsOp t.op=false:=by simp[setsOp,e1,e2,e3,e4,e6,e8]
 cases e9:t.op==9 with
 |true=>
  grind[use1,use2,rget,mone,setsOp,A5,wapp]
 |false=>
 cases t.op==10<;>exact⟨rfl,.inr ⟨rfl,rfl,.inl hs⟩⟩
theorem Mz{z:Int}{v:Int}(hz:0<=z):rget (A5 l z v) (w:Int)=if z=(w:Int)/\z.toNat<l.length then v else rget l (w:Int):=by
 grind[rget,A5]
def Tac.low(t:Tac):Prop:=(setsOp t.op=true->0<=t.d)/\(use1 t.op=true\/use2 t.op=true->0<=t.a)/\(use2 t.op=true->0<=t.b)
def FN(p:Nat->Bool)(r r':List Int):Prop:=r.length=r'.length/\∀v:Nat,p v=true->rget r (v:Int)=rget r' (v:Int)
theorem JN(h:setsOp t.op=true):t.sets=t.d:=by unfold Tac.sets;rw[h];rfl
theorem bi(h:setsOp t.op=false):t.sets= -1:=by unfold Tac.sets;rw[h];rfl
def LN(z:Nat->Bool)(X Y:Bool×List Int×Mach):Prop:=X.1=false/\X.2.2.fin=5\/X.1=Y.1/\X.2.2.Le Y.2.2/\(X.1=true->X.2.2.fin=0/\FN z X.2.1 Y.2.1)/\(X.1=false->X.2.2.fin≠0)
variable {b a : List Int} {r : List Tac} {z : Nat -> Bool}
theorem Yz(h:FN (fun v=>need v (t::r) (z v)) a b)(hl:t.low):(use1 t.op=true\/use2 t.op=true->rget a t.a=rget b t.a)/\(use2 t.op=true->rget a t.b=rget b t.b):=by
 have key:∀u,0<=u->t.uses.contains u=true->rget a u=rget b u:=fun u hu hc=>by
  grind[need,FN,use1,use2,rget]
 have e12:=Nl t.op;constructor
 . intro e;refine key t.a (hl.2.1 e) ?_;rcases e with e|e<;>simp[Tac.uses,e]<;>cases use1 t.op<;>simp
 . intro e;rw[e,qQ4]at e12;exact key t.b (hl.2.2 e) (by simp[Tac.uses,e,e12])
variable {ok : Int -> Prop}
theorem cd(hc:Ek call call' ok)(ht:t.op=10->ok t.base)(hl:t.low)(h:FN (fun v=>need v (t::r) (z v)) a b){m m':Mach}(h0:m.fin=0)(hm:m.Le m'):
 (mone call s t a m).2.Sim (mone call' s t b m').2/\((mone call s t a m).2.fin=0->FN (fun v=>need v r (z v)) (mone call s t a m).1 (mone call' s t b m').1):=by
 obtain⟨u1,u2⟩:=Yz h hl;obtain⟨e1,e2⟩:=Vs (call:=call) (s:=s) t u1 u2 m;obtain⟨s1,s2⟩:=Vt (s:=s) hc t ht b h0 hm;rw[e1,<-s1];refine⟨s2,fun hf=>?_⟩;rcases e2 with⟨hs,v,a1,a2⟩|⟨a1,a2,a3⟩
 . rw[a1,a2];refine⟨by rw[OY,OY];exact h.1,fun w hw=>?_⟩;rw[Mz (hl.1 hs),Mz (hl.1 hs),h.1]
   by_cases hd:t.d=(w:Int)
   . by_cases hlen:t.d.toNat<b.length
     . rw[qK0 ⟨hd,hlen⟩,qK0 ⟨hd,hlen⟩]
     . rw[qZ9 (fun e=>hlen e.2),qZ9 (fun e=>hlen e.2)];have hw2:w>=b.length:=by omega
       unfold rget;rw[q55,q09.2 hw2,q09.2 (by rw[h.1];exact hw2)]
   . rw[qZ9 (fun e=>hd e.1),qZ9 (fun e=>hd e.1)];refine h.2 w ?_;show need w (t::r) (z w)=true;unfold need;rw[JN hs,show(t.d==(w:Int))=false by simpa using hd,show need w r (z w)=true from hw]
     simp
 . grind[need,bi,Ek,FN,mone,rget]
theorem ku{a b:Int}(hk:4<=k/\k<=15)(h7:k≠7)(h8:k≠8):(wapp k a b).2=0:=by
 grind[wapp]
theorem cb(hp:t.pure=true)(hk:t.op=3->4<=t.k/\t.k<=15)(r:List Int)(m:Mach):∃v,mone call s t r m=(A5 r t.d v,m):=by
 unfold Tac.pure at hp;simp only[q81,q66,q61,q40,qZ4]at hp;unfold mone;rcases hp with h|h|h|⟨h,h7,h8⟩
 . rw[h];exact⟨_,rfl⟩
 . rw[h];exact⟨_,rfl⟩
 . rw[h];exact⟨_,rfl⟩
 . have:=ku (a:=rget r t.a) (b:=rget r t.b) (hk h) h7 h8;rw[h,this];exact⟨_,rfl⟩
theorem bM(hp:t.pure=true):setsOp t.op=true:=by
 grind[Tac.pure,setsOp]
structure jK(ok:Int->Prop)(f:BFunc):Prop where
  ins:∀x∈f.blocks,∀t∈x.ins,(t.op=10->ok t.base)/\t.low/\(t.op=3->4<=t.k/\t.k<=15)
  fin:∀x∈f.blocks,(x.fin=1\/x.fin=2\/x.fin=3)/\(x.fin=2->0<=x.v)
variable {k : Block}
theorem g7(hf:k.fin=1\/k.fin=2\/k.fin=3)(h3:(k.fin==3)=false)(regs:List Int):k.next regs∈k.nexts:=by
 grind[Block.next,Block.nexts,rget]
theorem X0(hv:k.fin=2->0<=k.v)(h:FN (endB f k) a b):k.next a=k.next b:=by
 unfold Block.next
 cases h2:k.fin==2 with
 |false=>rfl
 |true=>
  have h0:=hv K7;have:=h.2 k.v.toNat (by unfold endB Dy;rw[h2,q41 h0];simp);rw[q41 h0]at this;rw[this]
theorem YA(hf:k.fin=1\/k.fin=2\/k.fin=3)(h3:(k.fin==3)=false)(h:FN (endB f k) a b):FN (fun v=>WC f v (k.next a).toNat) a b:=
 ⟨h.1,fun v hv=>h.2 v (by unfold endB;rw[outB_iff.2 ⟨_,g7 hf h3 a,inB_iff.1 hv⟩,qX6])⟩
theorem iR(h:dL f g)(hf:jK ok f):jK ok g:=by
 obtain⟨c,x,l1,t,l2,v,h⟩:=h;have key:∀y∈g.blocks,y∈f.blocks\/y=x.mid (l1++l2):=fun y hy=>by
  rw[h.hg]at hy;exact q08 hy
 have hxm:=q33 h.hx;constructor
 . intro y hy u hu;rcases key y hy with hy|rfl
   . exact hf.ins y hy u hu
   . refine hf.ins x hxm u ?_;exact o8
 . intro y hy;rcases key y hy with hy|rfl
   . exact hf.fin y hy
   . exact hf.fin x hxm
variable {w : Int}
theorem gL{n:Int}(h:f.one n w=true):jK (fun j=>0<=j/\j<n) f:=by
 have hs:=Cs h;constructor
 . intro x hx t ht;have ht':=(hs.2.2.2 x hx).2 t ht;have hI:=UD ht';refine⟨fun ho=>by have:=hI.call ho;omega,⟨fun e=>(hI.d e).1,fun e=>(hI.a e).1,fun e=>(hI.b e).1⟩,fun ho=>?_⟩;simp only[Tac.fits,q66]at ht';have h5:=ht'.2.2.2.2.1;unfold Tac.rest at h5;rw[ho]at h5;simpa using h5
 grind[Block.ends,A3]
theorem Jy(h:Cuts f g):g.regs=f.regs/\g.blocks.length=f.blocks.length:=by
 induction h with
 |refl=>exact⟨rfl,rfl⟩
 |step a _ ih=>
  obtain⟨c,x,l1,t,l2,v,a⟩:=a;rw[a.hg]at ih;exact⟨ih.1,by rw[ih.2,Ly]⟩
theorem ml{n:Int}(h:dL f g)(h1:f.one n w=true):g.one n w=true:=by
 obtain⟨c,x,l1,t,l2,v,h⟩:=h;have hxm:=q33 h.hx;have hlen:g.blocks.length=f.blocks.length:=by rw[h.hg,Ly]
 have hreg:g.regs=f.regs:=by rw[h.hg];rfl
 simp only[BFunc.one,q66,q56,q61,q10,q67]at h1|-;refine⟨by rw[hreg];exact h1.1,by rw[hreg];exact h1.2.1,fun e=>h1.2.2.1 (by rw[<-q18,<-hlen,e];rfl),fun y hy=>?_⟩;rw[hlen,hreg];rw[h.hg]at hy;rcases q08 hy with hy|rfl
 . exact h1.2.2.2 y hy
 . have hx1:=h1.2.2.2 x hxm;simp only[Block.ok,q66,q67]at hx1|-;refine⟨hx1.1,fun u hu=>hx1.2 u ?_⟩;exact o8
theorem i5{n:Int}(h:Cuts f g)(h1:f.one n w=true):g.one n w=true:=by
 induction h with
 |refl=>exact h1
 |step a _ ih=>exact ih (ml a h1)
theorem Z5{n:Int}(h1:f.one n w=true):(NN f).one n w=true:=i5 (F7 f) h1
noncomputable def Blocks.dnf(b:Blocks):Blocks:=⟨b.words,b.funcs.map Sv.NN⟩
def GW(R:Nat)(p:Nat->Bool):List Bool:=(List.range R).map p
theorem H4(R:Nat)(p:Nat->Bool):(GW R p).length=R:=by simp[GW]
variable {p : Nat -> Bool}
theorem Vr(h:v<R):(GW R p)[v]?=some (p v):=by simp[GW,h]
theorem KR{q:Nat->Bool}(h:∀v,v<R->p v=q v):GW R p=GW R q:=by
 unfold GW;exact q42 fun v hv=>h v (q94.1 hv)
def nd(R:Nat)(x:Block)(p:Nat->Bool)(i:Nat):List Bool:=GW R (fun v=>need v (x.ins.drop i) (Dy x v||p v))
noncomputable def Kt(f:BFunc)(c:Nat):List Bool:=GW f.regs.toNat (fun v=>WC f v c)
noncomputable def Tr(f:BFunc)(x:Block):List Bool:=GW f.regs.toNat (outB f x)
noncomputable def EF(f:BFunc):List (List Bool):=(List.range f.blocks.length).map (Kt f)
noncomputable def Is(f:BFunc):List (List Bool):=f.blocks.map (Tr f)
structure BFunc.sane(f:BFunc):Prop where
  regs:0<=f.regs
  low:∀x∈f.blocks,∀t∈x.ins,t.inR f.regs
  fin:∀x∈f.blocks,x.fin=2->0<=x.v/\x.v<f.regs
  next:∀x∈f.blocks,∀d∈x.nexts,0<=d/\d<f.blocks.length
abbrev BB:=Nat->Nat->Bool
def Qn(f:BFunc)(I:BB):Prop:=∀b v,I b v=true->Em f v b
def IE(f:BFunc)(O:BB):Prop:=∀b v,O b v=true->∃x,f.blocks[b]?=some x/\outB f x v=true
def Me(f:BFunc)(R:Nat)(I O:BB)(b:Nat):Prop:=∀x,f.blocks[b]?=some x->∀v,v<R->(∀d∈x.nexts,I d.toNat v=true->O b v=true)/\(need v x.ins (Dy x v||O b v)=true->I b v=true)
def Jq(n R:Nat)(I:BB):Nat:=((List.range n).map fun b=>((List.range R).map fun v=>if I b v then 0 else 1).sum).sum
def putBB(I:BB)(b v:Nat)(z:Bool):BB:=fun b' v'=>if b'=b/\v'=v then z else I b' v'
theorem fp{n:Nat}{p q:Nat->Nat}(h:∀k,k<n->p k<=q k)(hj:j<n)(hlt:p j<q j):((List.range n).map p).sum<((List.range n).map q).sum:=by
 induction n with
 |zero=>omega
 |succ n ih=>
  rw[q79,q77,q77,q82,q82];simp only[qQ0,qX9,qQ2,List.sum_nil];have hle:∀m,m<=n->((List.range m).map p).sum<=((List.range m).map q).sum:=by
   intro m
   induction m with
   |zero=>intro _;exact qZ0 _
   |succ m im=>
    intro hm;rw[q79,q77,q77,q82,q82];simp only[qQ0,qX9,qQ2,List.sum_nil];have:=im z144q;have:=h m z144q;omega
  have h1:=h n z144q
  by_cases hjn:j=n
  . subst hjn;have:=hle j (qZ0 _);omega
  . have:=ih (fun k hk=>h k z144q) z144q;omega
variable {b : Nat} {O : BB}
theorem soundI_need{I:BB}(hO:IE f O)(hx:f.blocks[b]?=some x)(hn:need v x.ins (Dy x v||O b v)=true):Em f v b:=by
 rw[<-inB_iff,Ya hx];refine BA (fun e=>?_) hn;unfold endB;rw[q81]at e|-;rcases e with e|e
 . exact .inl e
 . obtain⟨y,hy,h⟩:=hO b v e;rw[hx]at hy;cases hy;exact .inr h
variable {I : BB}
theorem Xc(hI:Qn f I)(hO:IE f O){d:Int}(hx:f.blocks[b]?=some x)(hd:d∈x.nexts):IE f (putBB O b v (O b v||I d.toNat v)):=by
 intro b' v' h;unfold putBB at h;split at h
 . rename_i e;obtain⟨rfl,rfl⟩:=e;rw[q81]at h;rcases h with h|h
   . exact hO _ _ h
   . exact⟨x,hx,outB_iff.2 ⟨d,hd,hI _ _ h⟩⟩
 . exact hO _ _ h
theorem SA(hs:f.sane)(hI:Qn f I)(hO:IE f O)(hc:∀b,b<f.blocks.length->Me f f.regs.toNat I O b)(hb:b<f.blocks.length)(hv:v<f.regs.toNat):I b v=WC f v b:=by
 rw[Bool.eq_iff_iff,inB_iff];refine⟨hI b v,fun h=>?_⟩;refine PB (I:=fun b=>I b v) (fun c x hx hn=>?_) h;have hcl:=hc c (q05.1 hx).1 x hx v hv;refine hcl.2 (BA (fun e=>?_) hn);rw[q81]at e|-;rcases e with e|e
 . exact .inl e
 . obtain⟨d,h1,h2⟩:=q74.1 e;exact .inr (hcl.1 d h1 h2)
theorem Yo(hs:f.sane)(hI:Qn f I)(hO:IE f O)(hc:∀b,b<f.blocks.length->Me f f.regs.toNat I O b)(hx:f.blocks[b]?=some x)(hv:v<f.regs.toNat):O b v=outB f x v:=by
 have hb:=(q05.1 hx).1;rw[Bool.eq_iff_iff,outB_iff];constructor
 . intro h;obtain⟨y,hy,h'⟩:=hO b v h;rw[hx]at hy;cases hy;exact outB_iff.1 h'
 . rintro⟨d,h1,h2⟩
   have hd:=hs.next x (q33 hx) d h1;have:=SA hs hI hO hc (b:=d.toNat) (v:=v) z144q hv;exact(hc b hb x hx v hv).1 d h1 (by rw[this];exact inB_iff.2 h2)
variable {sz : Nat} {es : List (List AV)}
theorem Zh{n:Nat}{p:Bool}(hb:h b=some (.row p sz es))(hn:n=es.length):SrcOf h (.ref b n 0 n) [b] es:=by
 subst hn;have:=SrcOf.ref b es.length 0 es.length p sz es hb rfl;rwa[q95,q71]at this
theorem cls_nil(φ:Nat->Nat)(m:List Nat):Bj φ [] m:=fun _ h=>by cases h
variable {m : List Nat} {φ : Nat -> Nat}
theorem AI(h:φ b∈m):Bj φ [b] m:=fun c hc=>by rw[q47]at hc;subst hc;exact h
theorem Om(h:φ b∈m)(h':φ c∈m):Bj φ [b,c] m:=fun d hd=>by
 simp only[q99,List.not_mem_nil,or_false]at hd;rcases hd with rfl|rfl
 . exact h
 . exact h'
theorem fS{v:Value}(h:Rel H ι .nil v):Rel H ι (.lst true []) v:=by
 rw[h.nil_inv];exact .lst0 _ _ none 0 (fun _=>rfl) (qZ1 _) (fun _=>rfl) trivial
theorem MS(x:Block):x.nexts.length<=2:=by
 grind[Block.nexts]
def b2n(b:Bool):Nat:=bif b then 1 else 0
theorem Ghost.endCell{n:Nat}(b0 j b:Nat){sz0:Nat}{cs:List AV}(hb0:h b0=some (.row false sz0 [cs]))(hj:cs[j]?=some (A6 b es))(hb:h b=some (By sz es))(hne:b0≠b):
 Ghost ⟨n,e,h⟩ ⟨n,e,hput (hrm h b) b0 (.row false sz0 [cs.set j (.lst false es)])⟩:=by
 cases hes:es.isEmpty with
 |false=>
  have e1:A6 b es=.ref b es.length 0 es.length:=by simp[A6,hes,R4]
  have e2:By sz es=.row true sz es:=by simp[By,hes,MX]
  rw[e1]at hj;rw[e2]at hb;have:=Ghost.freezeCell (n:=n) (e:=e) b0 0 j b hb0 rfl hj hb rfl hne;rwa[q95,q71]at this
 |true=>
  have e0:es=[]:=List.isEmpty_iff.1 hes;subst e0;have hj':cs[j]?=some (.lst true []):=hj;refine(Ghost.weakRowF b0 (es':=[cs.set j (.lst false [])]) hb0 rfl ?_).trans (.of_sub ⟨rfl,fun _ _ h=>h,fun c x hx=>?_⟩)
  . intro i ds ds' h1 h2
    cases i with
    |zero=>
     simp only[List.getElem?_cons_zero,q53]at h1 h2;subst h1;subst h2;refine⟨by simp,fun k x y hx hy=>?_⟩;rw[q60]at hy
     by_cases hk:j=k
     . subst hk;rw[hj']at hx;cases hx;have hlt:=(q05.1 hj').1;rw[qK0 rfl,qK0 hlt]at hy;cases hy;exact⟨fun _=>rfl,fun H ι v h=>rel_unex h⟩
     . rw[qZ9 hk,hx]at hy;cases hy;exact⟨fun h=>h,fun _ _ _ h=>h⟩
    |succ i=>simp at h1
  . have h1:hput (hrm h b) b0 (.row false sz0 [cs.set j (.lst false [])]) c=some x:=hx;show hput h b0 _ c=some x
    by_cases hc:c=b0
    . subst hc;rw[At]at h1|-;exact h1
    . rw[AU _ _ hc]at h1|-
      by_cases hcb:c=b
      . subst hcb;have:hrm h c c=some x:=h1;unfold hrm at this;rw[show Nat.beq c c=true from Nat.beq_refl c]at this
        cases this
      . rwa[FJ _ hcb]at h1
theorem cut_sane(h:dL f g)(hs:f.sane):g.sane:=by
 obtain⟨c,x,l1,t,l2,v,h⟩:=h;have hxm:=q33 h.hx;have hlen:g.blocks.length=f.blocks.length:=by rw[h.hg,Ly]
 have hreg:g.regs=f.regs:=by rw[h.hg];rfl
 have key:∀y∈g.blocks,y∈f.blocks\/y=x.mid (l1++l2):=fun y hy=>by
  rw[h.hg]at hy;exact q08 hy
 refine⟨by rw[hreg];exact hs.regs,fun y hy u hu=>?_,fun y hy=>?_,fun y hy d hd=>?_⟩
 . rw[hreg];rcases key y hy with hy|rfl
   . exact hs.low y hy u hu
   . refine hs.low x hxm u ?_;exact o8
 . rw[hreg];rcases key y hy with hy|rfl
   . exact hs.fin y hy
   . exact hs.fin x hxm
 . rw[hlen];rcases key y hy with hy|rfl
   . exact hs.next y hy d hd
   . exact hs.next x hxm d hd
theorem cZ(h:Cuts f g)(hs:f.sane):g.sane:=by
 induction h with
 |refl=>exact hs
 |step a _ ih=>exact ih (cut_sane a hs)
end Go.Proofs.YtbbfelelocccmaaGreat.Sv
