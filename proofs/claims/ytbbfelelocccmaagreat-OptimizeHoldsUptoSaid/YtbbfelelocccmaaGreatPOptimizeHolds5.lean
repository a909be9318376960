/-
  HOW THINGS READ, WITH THEIR BULK: own work.
-/
import Derived.Test.YtbbfelelocccmaaGreatPOptimizeHolds3
import Derived.Test.YtbbfelelocccmaaGreatPOptimizeHolds4
import Derived.Test.YtbbfelelocccmaaGreatPOptimizeHolds2
import Derived.Maps.RangeRun
set_option linter.unusedVariables false
set_option linter.unusedSimpArgs false
set_option maxRecDepth 100000
set_option maxHeartbeats 2000000
namespace Go.Proofs.YtbbfelelocccmaaGreat
open Go Go.ChangeShapes Go.WideShapes Go.ChangeAt Go.RowKit Sv
variable {H : Type} {enc : TypeId × Value -> H} {P : Program} {W : World} {t e : TypeId}
theorem bulk_one(d:DataW H):1<=Rows.uptoBulk d:=by
 cases d with
 |lit l=>cases l<;>simp[Rows.uptoBulk]
 |_=>simp[Rows.uptoBulk]
theorem bulk_part:∀{l:List (DataW H)} {i:Nat} {d:DataW H},l[i]?=some d->Rows.uptoBulk d<=Rows.uptoBulkAll l
 |x::l,0,d,h=>by simp at h;subst h;simp only[Rows.uptoBulkAll];omega
 |x::l,i+1,d,h=>by
  have:=bulk_part (l:=l) (i:=i) HN;simp only[Rows.uptoBulkAll];omega
theorem bulk_sum:∀(l:List (DataW H)),(l.map Rows.uptoBulk).sum=Rows.uptoBulkAll l
 | []=>by simp[Rows.uptoBulkAll]
 |x::l=>by simp only[qQ0,qQ2,Rows.uptoBulkAll,bulk_sum l]
def DecR(enc:TypeId×Value->H)(P:Program)(W:World)(t:TypeId){α:Type}(f:α->List AV)(Q:α->Nat->Prop):Prop:=
  ∀(fuel:Nat) (cs:List Value) (x:DataW H×List MemPlace),DataW.trod enc P W 0 (fun _=>true) true fuel t cs=some x->(x.1.weights P t).all (· <=reachBytes)=true->∃a,Reads W cs (f a)/\Q a (Rows.uptoBulk x.1)
variable {α : Type}
theorem DecR.of{f:α->List AV}{Q:α->Prop}(h:Dec enc P W t f Q):DecR enc P W t f (fun a n=>Q a/\1<=n):=fun fuel cs x hx hw=>by
 obtain⟨a,h1,h2⟩:=h fuel cs x hx hw;exact⟨a,h1,h2,bulk_one _⟩
def PartsQ{α:Type}(Q:α->Nat->Prop)(l:List α)(n:Nat):Prop:=∃ns:List Nat,ns.length=l.length/\ns.sum+1<=n/\∀(i:Nat) (a:α) (m:Nat),l[i]?=some a->ns[i]?=some m->Q a m
theorem PartsQ.all{Q:α->Nat->Prop}{l:List α}{n:Nat}(h:PartsQ Q l n):∀a∈l,∃m,Q a m/\m+1<=n:=fun a ha=>by
 obtain⟨ns,h1,h2,h3⟩:=h;obtain⟨i,hi⟩:=q35 ha;obtain⟨m,hm⟩:=Ad (l:=ns) (k:=i) (by have:=(q05.1 hi).1;omega);have:m<=ns.sum:=by
  have:=RU (p:=id) (q33 hm);simpa using this
 exact⟨m,h3 i a m hi hm,by omega⟩
theorem sum_le_of{α:Type}{μ:α->Nat}:∀{l:List α} {ns:List Nat},ns.length=l.length->(∀(i:Nat) (a:α) (m:Nat),l[i]?=some a->ns[i]?=some m->μ a<=m)->(l.map μ).sum<=ns.sum
 | [],_,_,_=>by simp
 |a::l,[],h,_=>by simp at h
 |a::l,m::ns,h,hq=>by
  have h1:=hq 0 a m rfl rfl;have h2:=sum_le_of (l:=l) (ns:=ns) HN fun i b k hb hk=>hq (i+1) b k (by simpa using hb) (by simpa using hk)
  simp only[qQ0,qQ2];omega
theorem PartsQ.sum{α:Type}{Q:α->Nat->Prop}{l:List α}{n:Nat}(h:PartsQ Q l n)(μ:α->Nat)(hμ:∀a m,Q a m->μ a<=m):(l.map μ).sum+1<=n:=by
 obtain⟨ns,h1,h2,h3⟩:=h;have:=sum_le_of (μ:=μ) h1 fun i a m ha hm=>hμ a m (h3 i a m ha hm)
 omega
theorem sum_ones{α:Type}:∀(l:List α),(l.map fun _=>1).sum=l.length
 | []=>rfl
 |a::l=>by simp only[qQ0,qQ2,q70,sum_ones l];omega
theorem PartsQ.len{Q:α->Nat->Prop}{l:List α}{n:Nat}(h:PartsQ Q l n)(h1:∀a m,Q a m->1<=m):l.length+1<=n:=by
 have:=h.sum (fun _=>1) h1;rwa[sum_ones]at this
theorem DecR.slice{α:Type}{f:α->List AV}{Q:α->Nat->Prop}(ht:P.underlying t=some (.slice e))(hc:0<P.cellsOf e)(he:DecR enc P W e f Q):
 DecR enc P W t (fun l:List α=>[.lst false (l.map f)]) (fun l n=>l.length*P.bytesOf e<=reachBytes/\PartsQ Q l n):=fun fuel cs x h hw=>by
 rcases DataW.trod_slice ht h with⟨rfl,rfl⟩|⟨a,len,cap,elems,rest,n,rfl,rfl,rfl,hb,hl,hm,hlen,hel,hsp,hns⟩
 . exact⟨[],.one (.lst0 _ _ _ _ GZ (qZ1 _) (fun _=>rfl) trivial) rfl,by simp,[],rfl,by simpa using bulk_one _,fun i a m h=>by simp at h⟩
 simp only[DataW.weights,ht,qQ1,q92,q66,q56,q76]at hw;obtain⟨w1,w2,w3⟩:=hw;have key:∀i,i<len->∃y,∃cs',W.cells? 0 (a.add (i*P.cellsOf e)) (P.cellsOf e)=some cs'/\Reads W cs' (f y)/\∃d,(elems.map (·.1))[i]?=some d/\Q y (Rows.uptoBulk d):=fun i hi=>by
  have h1:=hel i hi;have hlt:i<elems.length:=by omega
  rw[q13 hlt]at h1;rw[Option.bind_eq_some_iff]at h1;obtain⟨cs',c1,c2⟩:=h1;have hd:(elems.map (·.1))[i]?=some elems[i].1:=by rw[q54,q13 hlt];rfl
  obtain⟨y,y1,y2⟩:=he _ _ _ c2 (HP w2 (i:=i) hd);exact⟨y,cs',c1,y1,_,hd,y2⟩
 obtain⟨l,l1,l2⟩:=KH len key;have hQ:PartsQ Q l (Rows.uptoBulk (.slice (elems.map (·.1)) (rest.map (·.1)))):=by
  refine⟨(elems.map (·.1)).map Rows.uptoBulk,by simp[l1,hlen],?_,fun i y m hy hm=>?_⟩
  . rw[bulk_sum];simp only[Rows.uptoBulk];omega
  . obtain⟨cs',_,_,d,hd,q⟩:=l2 i y hy;rw[q54,hd]at hm
    cases hm
    exact q
 exact xH
variable {T : Nat -> Option AC}
theorem DecR.slice'{f:α->List AV}{Q:α->Nat->Prop}{i j:AC}{u:Nat}(hT:Dz P T)(hi:T t=some i)(hk:i.k=.slice u)(hj:T u=some j)(hp:0<j.size)(he:DecR enc P W u f Q):
 DecR enc P W t (fun l:List α=>[.lst false (l.map f)]) (fun l n=>l.length*j.bytes<=reachBytes/\PartsQ Q l n):=by
 obtain⟨info,d,e1,e2,e3,e4,e5,e6⟩:=Am (hT _ _ hi);have hd:=Cc (P:=P) (d:=d) (e3▸hk);subst hd;have:=DecR.slice (enc:=enc) (W:=W) e2 (by rw[Ig hT hj];exact hp) he;rwa[Sy hT hj]at this
theorem struct_partsR{i:AC}{fs:List (Nat×Nat)}(hT:Dz P T)(hi:T t=some i)(hk:i.k=.struct fs){fuel:Nat}{cs:List Value}{x:DataW H×List MemPlace}(h:DataW.trod enc P W 0 (fun _=>true) true fuel t cs=some x)(hw:(x.1.weights P t).all (· <=reachBytes)=true):
 cs.length=i.size/\∀(i off u:Nat),fs[i]?=some (off,u)->∀{α:Type} {f:α->List AV} {Q:α->Nat->Prop},DecR enc P W u f Q->∃a,Reads W ((cs.drop off).take (P.cellsOf u)) (f a)/\∃m,m+1<=Rows.uptoBulk x.1/\Q a m:=by
 obtain⟨info,d,e1,e2,e3,e4,e5,e6⟩:=Am (hT _ _ hi);obtain⟨A,rfl,rfl,_⟩:=FO (P:=P) (d:=d) (e3▸hk);obtain⟨xs,n,rfl,rfl,hl,hxl,hx⟩:=DataW.trod_struct e2 h;refine⟨by rw[hl,Ig hT hi],fun j off u hj α f Q hd=>?_⟩;rw[q54,q22]at hj;obtain⟨F,hF,hF2⟩:=hj;simp only[q98]at hF2;obtain⟨rfl,rfl⟩:=hF2;have hFa:A[j]?=some F:=by simpa using hF
 have hjlt:j<xs.length:=by rw[hxl];exact(q03.1 hFa).1
 have h1:=hx j F hFa;rw[q13 hjlt]at h1;simp only[DataW.weights,e2]at hw;have hd2:(xs.map (·.1))[j]?=some xs[j].1:=by rw[q54,q13 hjlt];rfl
 obtain⟨a,a1,a2⟩:=hd _ _ _ h1 (Ex hw (i:=j) (by rw[q54,hF];rfl) hd2);refine⟨a,a1,_,?_,a2⟩;have:=bulk_part hd2;simp only[Rows.uptoBulk];omega
variable {d : DataW H}
theorem arg_oneR{f:α->List AV}{Q:α->Nat->Prop}{v:Value}{ps:List MemPlace}(h:DataW.Trod enc P W 0 (fun _=>true) true t v d ps)(hw:(d.weights P t).all (· <=reachBytes)=true)(hd:DecR enc P W t f Q):∃a,Reads W v.cells.toList (f a)/\Q a (Rows.uptoBulk d):=by
 obtain⟨fuel,hf⟩:=h;exact hd _ _ _ hf hw
theorem upto_get{ds gs:List (DataW H)}{i:Nat}(h:Rows.uptoSmall H (ds++gs)=true)(hd:ds[i]?=some d):Rows.uptoBulk d<=1048576:=by
 have h1:Rows.uptoBulkAll (ds++gs)<=1048576:=q58 h;have h2:=bulk_part (l:=ds++gs) (i:=i) (d:=d) (by rw[q06 (q05.1 hd).1];exact hd);omega
theorem decBlockR:DecR enc Tryz.prog W 80 Block.cells (fun x n=>x.Ok/\x.count<=n):=fun fuel cs x h hw=>by
 obtain⟨a,a1,a2⟩:=decBlock fuel cs x h hw;obtain⟨hl,hp⟩:=struct_partsR Ah rfl rfl h hw;obtain⟨x0,a0,m0,b0,c0,d0⟩:=hp 0 _ _ rfl (DecR.slice' Ah rfl rfl rfl (q68 _) (DecR.of decTac));obtain⟨x1,a1',_,_,b1,_⟩:=hp 1 _ _ rfl (DecR.of (CK Ah rfl rfl));obtain⟨x2,a2',_,_,b2,_⟩:=hp 2 _ _ rfl (DecR.of (CK Ah rfl rfl));obtain⟨x3,a3,_,_,b3,_⟩:=hp 3 _ _ rfl (DecR.of (CK Ah rfl rfl));obtain⟨x4,a4,_,_,b4,_⟩:=hp 4 _ _ rfl (DecR.of (CK Ah rfl rfl));have k0:=In Ah rfl rfl (Reads.nil W cs) a0 (qZ1 _);have k1:=In Ah rfl rfl k0 a1' Th;have k2:=In Ah rfl rfl k1 a2' Th;have k3:=In Ah rfl rfl k2 a3 Th;have k4:=In Ah rfl rfl k3 a4 Th;refine⟨⟨x0,x1,x2,x3,x4⟩,k4.all hl,⟨c0,fun t ht=>?_,EL b1,EL b2,EL b3,EL b4⟩,?_⟩
 . obtain⟨m,hm,_⟩:=d0.all t ht;exact hm.1
 . have:=d0.len (fun a m h=>h.2);simp only[Block.count];omega
theorem decBFuncR:DecR enc Tryz.prog W 41 BFunc.cells (fun f n=>f.Ok/\f.count+1<=n):=fun fuel cs x h hw=>by
 obtain⟨hl,hp⟩:=struct_partsR Ah rfl rfl h hw;obtain⟨x0,a0,_,_,b0,_⟩:=hp 0 _ _ rfl (DecR.of (CK Ah rfl rfl));obtain⟨x1,a1,m1,b1,c1,d1⟩:=hp 1 _ _ rfl (DecR.slice' Ah rfl rfl rfl (q68 _) decBlockR);have k0:=In Ah rfl rfl (Reads.nil W cs) a0 (qZ1 _);have k1:=In Ah rfl rfl k0 a1 Th;refine⟨⟨x0,x1⟩,k1.all hl,⟨EL b0,c1,fun y hy=>?_⟩,?_⟩
 . obtain⟨m,hm,_⟩:=d1.all y hy;exact hm.1
 . have:=d1.sum Block.count (fun a m h=>h.2);show(x1.map Block.count).sum+1<=_;omega
theorem sum_add1{α:Type}{p:α->Nat}:∀(l:List α),(l.map fun a=>p a+1).sum=(l.map p).sum+l.length
 | []=>rfl
 |a::l=>by simp only[qQ0,qQ2,q70,sum_add1 l];omega
theorem decBlocksR:DecR enc Tryz.prog W 24 Blocks.cells (fun b n=>b.Ok/\b.count+b.funcs.length<=n):=fun fuel cs x h hw=>by
 obtain⟨hl,hp⟩:=struct_partsR Ah rfl rfl h hw;obtain⟨x0,a0,_,_,b0,_⟩:=hp 0 _ _ rfl (DecR.of (CK Ah rfl rfl));obtain⟨x1,a1,m1,b1,c1,d1⟩:=hp 1 _ _ rfl (DecR.slice' Ah rfl rfl rfl (q68 _) decBFuncR);have k0:=In Ah rfl rfl (Reads.nil W cs) a0 (qZ1 _);have k1:=In Ah rfl rfl k0 a1 Th;refine⟨⟨x0,x1⟩,k1.all hl,⟨EL b0,c1,fun y hy=>?_⟩,?_⟩
 . obtain⟨m,hm,_⟩:=d1.all y hy;exact hm.1
 . have:=d1.sum (fun f=>f.count+1) (fun a m h=>h.2);rw[sum_add1]at this;show(x1.map BFunc.count).sum+x1.length<=_;omega
theorem lim_row{b:Blocks}{n:Nat}(h:b.Ok/\b.count+b.funcs.length<=n)(hn:n<=1048576):b.Lim:=⟨by omega,by omega⟩
end Go.Proofs.YtbbfelelocccmaaGreat
namespace Go.Proofs.YtbbfelelocccmaaGreat
open Go.ChangeShapes Go.WideShapes Go.ChangeAt Go.RowKit Sv
variable {H : Type} {enc : TypeId × Value -> H} {W : World}
end Go.Proofs.YtbbfelelocccmaaGreat
namespace Go.Proofs.YtbbfelelocccmaaGreat.Sv
open Go
def AV.sure:AV->Option Value
  | .bool b=>some (.bool b)
  | .int k n=>some (.int k n)
  | .str s=>some (.string s)
  | .fn f [] []=>some (.func f #[] #[])
  | .val v=>some v
  |_=>none
def Xb:List AV->Option (List Value)
  | []=>some []
  |x::xs=>match x.sure,Xb xs with
    |some v,some vs=>some (v::vs)
    |_,_=>none
def AV.whole:AV->Option Value
  | .agg cs=>(Xb cs).map fun l=>.agg l.toArray
  |x=>x.sure
variable {H : AJ} {u v : Value} {x : AV} {ι : BD}
theorem Xa(h:Rel H ι x v)(e:x.sure=some u):v=u:=by
 cases h with
 |bool=>simpa[AV.sure]using e
 |int=>simpa[AV.sure]using e
 |str=>simpa[AV.sure]using e
 |val=>simpa[AV.sure]using e
 |fn _ f xs cs us vs hx hl h1 h2=>
  cases xs with
  |cons=>simp[AV.sure]at e
  |nil=>
   cases cs with
   |cons=>simp[AV.sure]at e
   |nil=>
    have e1:us= #[]:=Array.eq_empty_of_size_eq_zero (by simpa using hx.symm);have e2:vs= #[]:=Array.eq_empty_of_size_eq_zero (by simpa using hl.symm);subst e1;subst e2;simpa[AV.sure]using e
 |_=>simp[AV.sure]at e
theorem TP:∀{xs:List AV} {l:List Value},Xb xs=some l->xs.length=l.length/\∀(j:Nat) (x:AV),xs[j]?=some x->∃u,l[j]?=some u/\x.sure=some u
 | [],l,h=>by simp[Xb]at h;subst h;exact⟨rfl,fun j x h=>by simp at h⟩
 |x::xs,l,h=>by
  unfold Xb at h;split at h
  . rename_i v vs h1 h2;simp at h;subst h;obtain⟨a1,a2⟩:=TP h2;refine⟨by simp[a1],fun j y hj=>?_⟩
    cases j with
    |zero=>simp at hj;subst hj;exact⟨v,rfl,h1⟩
    |succ j=>obtain⟨u,u1,u2⟩:=a2 j y (by simpa using hj);exact⟨u,by simpa using u1,u2⟩
  . cases h
theorem ev(h:Rel H ι x v)(e:x.whole=some u):v=u:=by
 cases x with
 |agg cs=>
  obtain⟨us,rfl,hl,hr⟩:=h.agg_inv;simp only[AV.whole,q22]at e;obtain⟨l,h1,rfl⟩:=e;obtain⟨a1,a2⟩:=TP h1;congr 1;apply Array.ext Em;intro i h1 h2;obtain⟨x,hx⟩:∃x,cs[i]?=some x:=⟨cs[i]'(Ab),by simp[hl,h1]⟩
  obtain⟨w,w1,w2⟩:=a2 i x hx;have:=Xa (hr i x us[i] hx (by simp[h1])) w2;rw[this];rw[q05]at w1;obtain⟨_,w1⟩:=w1;simp[w1]
 |_=>exact Xa h e
variable {P : Program} {T : Nat -> Option AC} {o : Oper} {e : A3} {h : Aj}
theorem kc{d:TypeDesc}(h:J9 P d≠ .other):∀m,d≠ .interface m:=fun m e=>by subst e;exact h rfl
variable {t : TypeId}
theorem PV(hT:Dz P T){x:Operand}{y:AV}{i:AC}(ho:o.op=.makeInterface t x)(hx:At e x=some y)(hy:y.whole=some u)(ht:T t=some i)(hk:i.k≠ .other):QLoc P o e h [] (.val (.iface t u)):=by
 intro H ι a w s hs g1 g2;have hx':At s.env x=some y:=by rw[g1 x BY,hx]
 have hv:=ev (Aw hs hx') hy;obtain⟨info,d,e1,e2,e3,e4,e5,e6⟩:=Am (hT _ _ ht);have hd:=kc (P:=P) (d:=d) (e3▸hk);refine⟨.iface t u,.val _ _ rfl,?_⟩;simp only[execOp,ho,hv,Instr.makeInterface,qQ9,As e2,q57]
 cases d with
 |interface m=>exact absurd rfl (hd m)
 |_=>rfl
variable {f : FuncId} {fn : Func} {args : Array Operand} {tys : Array TypeId} {xs : List AV} {r : AV}
theorem G6{recv:Operand}{name:String}{x0:AV}(ho:o.op=.call {callee:=.invoke recv name,args:=args,argTypes:=tys})
 (hr:At e recv=some (.val (.iface t v))) (hm:∀w,(method (P.types.size+Made.depth) t v name).run P w=.ok (f,v) w) (hv:∀H,Rel H Bk x0 v)
 (hf:P.funcs[f]?=some fn) (hn:(fn.name== "runtime.NumGoroutine")=false) (hb:fn.body.isSome=true)
 (hx:BA e args.toList=some xs) (hp:xs.all AV.isPure=true) (hc:APure P f (x0::xs) (fun r'=>r'=r)):OLoc P o e h [] [] (some r):=by
 intro H ι a w s Q hs g1 g2;have hx':BA s.env args.toList=some xs:=by
  exact iK
 have hr':At s.env recv=some (.val (.iface t v)):=by rw[g1 recv Hr,hr]
 have hre:=((Aw hs hr').val_inv).1;have hra:=DW hs hx';have hra':RelAll H Bk (x0::xs) (#[v]++args.map a.eval):=by
  have h1:RelAll H Bk [x0] #[v]:=⟨rfl,fun j x u h1 h2=>by
   cases j with
   |zero=>simp at h1 h2;subst h1;subst h2;exact hv H
   |succ j=>simp at h1⟩
  exact FB h1 ⟨hra.1,fun j x u h1 h2=>I7 (q67.1 hp x (q33 h1)) (hra.2 j x u h1 h2)⟩
 have hcall:=hc H w _ hra' (Ow hs.heap);have hexec:(execOp a.eval o).run P w=.ok (.enter f (#[v]++args.map a.eval)) w:=by
  have h0:(#[Value.iface t v]++args.map a.eval)[0]?=some (.iface t v):=by
   rw[q04 Aq];rfl
  have hex:(#[Value.iface t v]++args.map a.eval).extract 1 (#[Value.iface t v]++args.map a.eval).size=args.map a.eval:=by
   apply Array.ext';simp only[Array.toList_extract,Array.toList_append,Array.toList_map,Array.size_append,Array.size_map,List.extract_eq_take_drop];exact q20 Aq
  simp only[execOp,ho,resolve,hre,invoke,qQ9,qX1,q57,h0,hex,callMethod,run_program,hm w,DL hf hn hb]
 exact tc
theorem f7{y:Operand}(ho:o.op=.call {callee:=.value y,args:=args,argTypes:=tys})
 (hy:At e y=some (.val (.func (.func f) #[] #[]))) (hf:P.funcs[f]?=some fn) (hn:(fn.name== "runtime.NumGoroutine")=false) (hb:fn.body.isSome=true)
 (hx:BA e args.toList=some xs) (hp:xs.all AV.isPure=true) (hc:APure P f xs (fun r'=>r'=r)):OLoc P o e h [] [] (some r):=by
 intro H ι a w s Q hs g1 g2;have hx':BA s.env args.toList=some xs:=by
  exact iK
 have hy':At s.env y=some (.val (.func (.func f) #[] #[])):=by rw[g1 y Hr,hy]
 have hye:=((Aw hs hy').val_inv).1;have hra:=DW hs hx';have hra':RelAll H Bk xs (args.map a.eval):=⟨hra.1,fun j x v h1 h2=>I7 (q67.1 hp x (q33 h1)) (hra.2 j x v h1 h2)⟩;have hcall:=hc H w _ hra' (Ow hs.heap);have hexec:(execOp a.eval o).run P w=.ok (.enter f (args.map a.eval)) w:=by
  simp only[execOp,ho,resolve,hye,Deferred.ofValue,invoke,qQ9,qX1,q57,Array.append_empty,Array.empty_append,DL hf hn hb]
 exact tc
def nU(k:Int)(f:Nat):Value:=.agg #[.int .i64 k,.func (.func f) #[] #[]]
def Uh(k:Int):Value:=bif k==1 then .iface 97 (nU 1 41)else bif k==2 then .iface 97 (nU 2 42)else bif k==3 then .iface 97 (nU 3 43)else bif k==4 then .iface 99 (.agg #[.int .i64 4])else .nilIface
variable {k : Int}
theorem qr(h1:k≠1)(h2:k≠2)(h3:k≠3)(h4:k≠4):BL k=false:=by
 rw[BL,q16];omega
theorem lO(h1:k≠1)(h2:k≠2)(h3:k≠3)(h4:k≠4):Uh k=.nilIface:=by
 have a1:(k==1)=false:=q40.2 h1;have a2:(k==2)=false:=q40.2 h2;have a3:(k==3)=false:=q40.2 h3;have a4:(k==4)=false:=q40.2 h4;simp[Uh,a1,a2,a3,a4]
theorem Mn(h:BL k=true):k=1\/k=2\/k=3\/k=4:=by
 have:=q58 h;omega
theorem Xs(h:Rel H ι .nil v):Rel H ι (.lst false []) v:=by
 rw[h.nil_inv];exact .lst0 _ _ none 0 GZ (qZ1 _) (fun _=>rfl) trivial
variable {R : List Nat}
def bG(P:Program)(o:Oper)(e:A3)(h:Aj)(R:AV->Aj->Prop):Prop:=
  ∀(H:AJ) (ι:BD) (a:Act) (w:World) (n:Nat) (Q:Exit->Act->World->Prop),Sim H ι ⟨n,e,h⟩ a w->
    o.wp P a w (fun a' w'=>∃v r h' H' ι',R r h'/\a'=a.put o.dst v/\Rel H' ι' r v/\HeapRel H' ι' h' w'/\Step H ι h w H' ι' h' w') Q
variable {R : AV -> Aj -> Prop}
theorem l9{us:Act->Array Value}(hus:∀H ι a w n,Sim H ι ⟨n,e,h⟩ a w->RelAll H ι xs (us a))(hex:∀H ι a w n,Sim H ι ⟨n,e,h⟩ a w->(execOp a.eval o).run P w=.ok (.enter f (us a)) w)
 (hcall:ACall P f xs h R):bG P o e h R:=by
 intro H ι a w n Q hs;have hcalls:=hcall H ι w _ (hus H ι a w n hs) hs.heap;unfold Oper.wp;rw[hex H ι a w n hs];refine hcalls.mono fun en w' hh=>?_
 obtain⟨v,r',h',H',ι',rfl,hR,k1,k2,k3⟩:=hh;exact⟨v,r',h',H',ι',hR,rfl,k1,k2,k3⟩
theorem Abd(ho:o.op=.call {callee:=.value (.func f),args:=args,argTypes:=tys})(hf:P.funcs[f]?=some fn)(hnm:(fn.name== "runtime.NumGoroutine")=false)(hb:fn.body.isSome=true)
 (hx:BA e args.toList=some xs) (hcall:ACall P f xs h R):bG P o e h R:=
 l9 (us:=fun a=>args.map a.eval) (fun H ι a w n hs=>DW hs hx) (fun H ι a w n hs=>by simp[execOp,ho,resolve,Act.eval,Deferred.ofValue,invoke,DL hf hnm hb]) hcall
variable {ops : Array Oper} {K : Ar -> Prop}
theorem WX{H':AJ}{ι':BD}{hn:Aj}{w w':World}(hpost:∀e a2 w2,Post H' ι' hn w' (El K fun _ _=>False) e a2 w2->Post H ι h w (El K fun _ _=>False) e a2 w2):
 ∀(l:List Oper) (a1:Act) (w1:World),wpList P ops (Post H' ι' hn w' (El K fun _ _=>False)) l a1 w1->wpList P ops (Post H ι h w (El K fun _ _=>False)) l a1 w1:=by
 intro l
 induction l with
 |nil=>exact fun a1 w1 hp=>hpost _ _ _ hp
 |cons o' l ih=>
  intro a1 w1 hp;exact ji
theorem AOps.inn{rest:List Oper}{n:Nat}(d:Nat)(hd:o.dst=some d)(hb:Nat.blt d n=true)(hg:Bt ops o e=some true)
 (ho:bG P o e h (fun r hn=>AOps P ops rest ⟨n,Aa e d r,hn⟩ K)):AOps P ops (o::rest) ⟨n,e,h⟩ K:=by
 intro H ι a w hs;unfold wpList;rw[Gq hs hg];simp only[qZ8];refine .inl (qX8 (fun a' w' hx=>?_) (ho H ι a w n _ hs));obtain⟨v,r,hn,H',ι',hr,rfl,h1,h2,h3⟩:=hx;have hs':=hs.put (d:=o.dst) (r:=some r) h2 h3 (fun x ex=>by cases ex;exact h1) (Ps hd hb);rw[hd]at hs'|-;exact WX (fun e a2 w2 hp=>Post.step hs.heap h2 h3 hp) _ _ _ (hr H' ι' _ w' hs')
variable {R : List Nat}
def Rl:Value->Option AV
  | .int k n=>some (.int k n)
  | .bool b=>some (.bool b)
  | .string s=>some (.str s)
  | .func f a b=>some (.val (.func f a b))
  |_=>none
def Rj:List Value->Option (List AV)
  | []=>some []
  |v::vs=>match Rl v,Rj vs with
    |some x,some xs=>some (x::xs)
    |_,_=>none
def l8:Value->Option AV
  | .agg cs=>match Rj cs.toList with
    |some xs=>some (.agg xs)
    |none=>none
  |v=>Rl v
theorem Rk(h:Rl v=some x)(H:AJ):Rel H Bk x v:=by
 cases v<;>simp[Rl]at h<;>subst h
 . exact .bool _ _
 . exact .int _ _ _
 . exact .str _ _
 . exact .val _ _ rfl
theorem Ri:∀{l:List Value} {xs:List AV},Rj l=some xs->xs.length=l.length/\∀(j:Nat) (x:AV) (v:Value),xs[j]?=some x->l[j]?=some v->Rl v=some x
 | [],xs,h=>by simp[Rj]at h;subst h;exact⟨rfl,fun j x v h=>by simp at h⟩
 |v::vs,xs,h=>by
  unfold Rj at h;split at h
  . rename_i x ys h1 h2;simp at h;subst h;obtain⟨a1,a2⟩:=Ri h2;refine⟨by simp[a1],fun j y u e1 e2=>?_⟩
    cases j with
    |zero=>simp at e1 e2;subst e1;subst e2;exact h1
    |succ j=>exact a2 j y u (by simpa using e1) (by simpa using e2)
  . cases h
theorem FU(h:l8 v=some x)(H:AJ):Rel H Bk x v:=by
 unfold l8 at h;split at h
 . rename_i cs;split at h
   . rename_i xs e;simp at h;subst h;obtain⟨a1,a2⟩:=Ri e;exact .agg _ _ _ (by simpa using a1) (fun j x v e1 e2=>Rk (a2 j x v e1 (by simpa using e2)) H)
   . cases h
 . exact Rk h H
variable {R : AV -> Aj -> Prop}
variable {H' : AJ} {b m : Nat} {es : List (List AV)}
abbrev Abt:=List (Nat×List AV×AV)
abbrev ui:=Nat->List AV->Aj->Nat->Abt->Option (AV×Aj×Nat×Abt)
section
variable {P : Program} {T : Nat -> Option AC} {mt : Nat -> String -> Option Nat} {ct : Nat -> Option (List AV -> Option AV)} {cl : ui} {ops : Array Oper} {n : Nat}
end
variable {P : Program} {o : Oper} {e : A3} {h : Aj}
section
variable {P : Program} {T : Nat -> Option AC} {mt : Nat -> String -> Option Nat} {ct : Nat -> Option (List AV -> Option AV)} {cl : ui} {ops : Array Oper} {n : Nat}
end
variable {P : Program} {T : Nat -> Option AC} {mt : Nat -> String -> Option Nat} {ct : Nat -> Option (List AV -> Option AV)} {fz : Nat -> Nat -> Option Nat}
def tinyA:BFunc:=⟨3,[⟨[⟨1,0,0,0,0,0,0,60⟩,⟨1,1,0,0,0,0,0,5⟩,⟨3,2,0,1,4,0,0,0⟩,⟨9,0,2,0,0,0,0,0⟩],3,0,0,0⟩]⟩
def tinyB:BFunc:=⟨3,[⟨[⟨1,0,0,0,0,0,0,60⟩,⟨1,1,0,0,0,0,0,5⟩,⟨1,2,0,0,0,0,0,65⟩,⟨9,0,2,0,0,0,0,0⟩],3,0,0,0⟩]⟩
def tinyC:BFunc:=⟨3,[⟨[⟨1,2,0,0,0,0,0,65⟩,⟨9,0,2,0,0,0,0,0⟩],3,0,0,0⟩]⟩
def F9(f:BFunc):Blocks:=⟨0,[f]⟩
theorem eV:tinyA.fold=tinyB:=by rfl
theorem ke:mv (F9 tinyC) ByteArray.empty 99=⟨[],[65],0,3,1⟩:=by rfl
theorem mo(v:Value)(w:World):(method (Tryz.prog.types.size+Made.depth) 97 v "seedcorn/optimize.run").run Tryz.prog w=.ok (128,v) w:=by kernel_rfl
theorem mq(v:Value)(w:World):(method (Tryz.prog.types.size+Made.depth) 97 v "seedcorn/optimize.holds").run Tryz.prog w=.ok (127,v) w:=by kernel_rfl
theorem Abe(v:Value)(w:World):(method (Tryz.prog.types.size+Made.depth) 99 v "seedcorn/optimize.run").run Tryz.prog w=.ok (142,v) w:=by kernel_rfl
theorem Abf(v:Value)(w:World):(method (Tryz.prog.types.size+Made.depth) 99 v "seedcorn/optimize.holds").run Tryz.prog w=.ok (141,v) w:=by kernel_rfl
def vr(k:Int):AV:=match l8 (match Uh k with| .iface _ v=>v|v=>v)with
  |some x=>x
  |none=>.nil
def qz(k:Int):Nat:=bif k==4 then 141 else 127
def Lz(p:OPass)(f:BFunc):Prop:=APure Tryz.prog (qz p.kind) [vr p.kind,.agg f.cells,.agg p.cells] (fun r=>r=.bool (p.holds f))
variable {o : Oper} {e : A3} {h : Aj}
variable {f : BFunc} {p : OPass}
theorem qc{recv:Operand}{args:Array Operand}{tys:Array TypeId}(hk:BL p.kind=true)(ho:o.op=.call {callee:=.invoke recv "seedcorn/optimize.holds",args:=args,argTypes:=tys})
 (hr:At e recv=some (.val (Uh p.kind))) (hx:BA e args.toList=some [.agg f.cells,.agg p.cells]) (hc:Lz p f):OLoc Tryz.prog o e h [] [] (some (.bool (p.holds f))):=by
 unfold Lz at hc;rcases Mn hk with h1|h1|h1|h1<;>rw[h1]at hr hc
 . exact G6 ho hr (fun w=>mq _ w) (FU (by rfl)) Tryz.func127 AF rfl hx rfl hc
 . exact G6 ho hr (fun w=>mq _ w) (FU (by rfl)) Tryz.func127 AF rfl hx rfl hc
 . exact G6 ho hr (fun w=>mq _ w) (FU (by rfl)) Tryz.func127 AF rfl hx rfl hc
 . exact G6 ho hr (fun w=>Abf _ w) (FU (by rfl)) Tryz.func141 AF rfl hx rfl hc
variable {α : Type}
theorem Nw{F:List α}{f:α->List AV}{z y:List AV}{k n i:Nat}(hF:F.length=n)(hk:k<=n):n=(((F.take k).map f++List.replicate (n-k) z).set i y).length:=by
 rw[q83];exact AL hF hk
theorem Nx{F:List α}{f:α->List AV}{z y:List AV}{k n:Nat}(hF:F.length=n)(hk:k<n):(((F.take k).map f++List.replicate (n-k) z).set (0+((k:Nat):Int).toNat) y)[0+((k:Nat):Int).toNat]?=some y:=by
 have:=AL (f:=f) (z:=z) hF (qX0 hk);rw[q21 Ab]
theorem ZS{l:List α}{i:Nat}{x y:α}:(l.set i x).set i y=l.set i y:=by
 apply q62;intro j;simp only[q60];split<;>simp_all
theorem V1(l:List (List OPass)):∀cs∈l.map (fun x=>[CQ x]),cs.all AV.isPure1=true:=fun cs h=>by
 obtain⟨x,_,rfl⟩:=qX3.1 h;rfl
variable {m : Nat} {q : Nat -> Bool} {l : List (List OPass)}
theorem Ma:(AObj.row false 1 (l.map (fun x=>[CQ x])++List.replicate m [AV.nil])).avoid q=true:=by
 show List.all _ _=true;rw[q92,q66];refine⟨q67.2 fun cs h=>?_,q67.2 fun cs h=>?_⟩
 . obtain⟨x,_,rfl⟩:=qX3.1 h;rfl
 . rw[(List.mem_replicate.1 h).2];rfl
theorem Pj{i b n:Nat}(hb:q b=true):(AObj.row false 1 ((l.map (fun x=>[CQ x])++List.replicate m [AV.nil]).set i [.ref b n 0 n])).avoid q=true:=by
 show List.all _ _=true;refine q67.2 fun cs h=>?_
 rcases q08 h with h|rfl
 . exact q67.1 (Ma (q:=q) (l:=l) (m:=m)) cs h
 . simp[AV.avoid,AV.flat,hb]
structure I35(f:BFunc):Prop where
  c:f.count<=300
  w:f.words
theorem I35.lim(h:I35 f):f.Lim:=WL (qX2 h.c Al)
theorem I35.n(h:I35 f):f.blocks.length<=10000:=by have:=F2 f;have:=h.c;omega
theorem I35.i(h:I35 f):∀x∈f.blocks,x.ins.length<=10000/\GL x.ins:=fun x hx=>by
 have h1:x.count<=f.count:=RU hx;have:=h.c;simp only[Block.count]at h1;exact⟨by omega,h.w x hx⟩
structure uk(p:OPass):Prop where
  f:I35 p.f
  n:p.paths.length<=1048576
  q:∀r∈p.paths,r.length<=1048576
theorem mY(hk:BL p.kind=true):p.holds f=bif p.kind==4 then p.cert.same.isEmpty&&DE f p.f p.paths else p.paths.isEmpty&&Dj f p.f p.cert:=by
 unfold OPass.holds
 cases p.kind==4 with
 |true=>rfl
 |false=>rw[qZ3,qZ3,show decide (1<=p.kind/\p.kind<=4)=true from hk,qQ5]
end Go.Proofs.YtbbfelelocccmaaGreat.Sv
namespace Go.Proofs.YtbbfelelocccmaaGreat
open Go Go.ChangeShapes Go.WideShapes Go.ChangeAt Go.RowKit Sv
variable {H : Type} {enc : TypeId × Value -> H} {W : World}
theorem decIntsR:DecR enc Tryz.prog W 25 (fun l:List Int=>[AI l]) (fun l n=>(∀x∈l,Yj x)/\l.length+1<=n):=fun fuel cs x h hw=>by
 obtain⟨l,h1,_,h2⟩:=DecR.slice' (j:=ty3) Ah rfl rfl rfl (q68 _) (DecR.of (CK Ah rfl rfl)) fuel cs x h hw;refine⟨l,h1,fun y hy=>?_,h2.len (fun a m h=>h.2)⟩;obtain⟨m,hm,_⟩:=h2.all y hy;exact EL hm.1
theorem words_row{b:Blocks}(h:b.Ok):∀f∈b.funcs,f.words:=fun f hf x hx=>BFunc.Ok.insW (h.funcs f hf) hx
end Go.Proofs.YtbbfelelocccmaaGreat
namespace Go.Proofs.YtbbfelelocccmaaGreat
open Go Go.ChangeShapes Go.WideShapes Go.ChangeAt Go.RowKit Sv
variable {H : Type} {enc : TypeId × Value -> H} {W : World}
theorem blocksI_row{b:Blocks}{n:Nat}(h:b.Ok/\b.count+b.funcs.length<=n)(hn:n<=1048576):b.Lim/\b.insW:=⟨lim_row h hn,words_row h.1⟩
theorem ints23_row{l:List Int}{n:Nat}(h:(∀x∈l,Yj x)/\l.length+1<=n)(hn:n<=1048576):l.length<=1048576:=by omega
end Go.Proofs.YtbbfelelocccmaaGreat
namespace Go.Proofs.YtbbfelelocccmaaGreat.Sv
open Go
def CX(d:Int)(fr:List Int):List Int:=fr.mapIdx fun v s=>bif ((v:Int)==d||s==d)then(v:Int)else s
def subT(fr:List Int)(t:Tac):Tac:=bif use1 t.op then {t with a:=Ai fr t.a}else bif use2 t.op then {t with a:=Ai fr t.a,b:=Ai fr t.b}else t
def DZ(fr:List Int)(t:Tac):List Int:=
  bif decide (t.sets>=0)then(bif (t.op==2&&t.a !=t.sets)then A4 (CX t.sets fr) t.sets t.a else CX t.sets fr)else fr
def D1:List Int->List Tac->List Tac×List Int
  |fr,[]=>([],fr)
  |fr,t::l=>(subT fr t::(D1 (DZ fr (subT fr t)) l).1,(D1 (DZ fr (subT fr t)) l).2)
def LV(R:Nat):List Int:=(List.range R).map fun(v:Nat)=>(v:Int)
def Block.forward(R:Nat)(x:Block):Block:=
  {x with ins:=(D1 (LV R) x.ins).1,v:=bif x.fin==2 then Ai (D1 (LV R) x.ins).2 x.v else x.v}
def BFunc.forward(f:BFunc):BFunc:=⟨f.regs,f.blocks.map (Block.forward f.regs.toNat)⟩
def BFunc.fcert(f:BFunc):Cert:=⟨List.replicate f.blocks.length (List.replicate f.regs.toNat true)⟩
theorem DU(d:Int)(fr:List Int):(CX d fr).length=fr.length:=by simp[CX]
variable {v : Nat} {l : List Int}
theorem Xq(h:v<l.length):l[v]?=some (Ai l v):=by
 unfold Ai;rw[show(v:Int).toNat=v from rfl,q13 h];rfl
theorem M1{l':List Int}(h:l.length=l'.length)(hv:∀v:Nat,v<l.length->Ai l v=Ai l' v):l=l':=by
 apply q62;intro v
 by_cases hl:v<l.length
 . rw[Xq hl,Xq Ab,hv v hl]
 . rw[q26 Ab,q26 Ab]
theorem DV{d:Int}{fr:List Int}(h:v<fr.length):Ai (CX d fr) v=bif ((v:Int)==d||Ai fr v==d)then(v:Int)else Ai fr v:=by
 unfold Ai CX;rw[show(v:Int).toNat=v from rfl,List.getElem?_mapIdx,q13 h];rfl
theorem dA(R:Nat):(LV R).length=R:=by simp[LV]
theorem JK{R:Nat}(h:v<R):Ai (LV R) v=v:=by simp[Ai,LV,h]
theorem Ea(l:List Int)(i v:Int):(A4 l i v).length=l.length:=by unfold A4;simp
variable {d : Nat}
theorem FQ{x:Int}(hd:d<l.length):Ai (A4 l (d:Int) x) (v:Int)=if v=d then x else Ai l v:=by
 unfold Ai A4;rw[show(v:Int).toNat=v from rfl,show(d:Int).toNat=d from rfl,q60]
 by_cases h:d=v
 . subst h;simp[hd]
 . rw[qZ9 h,qZ9 (Ne.symm h)]
def WM(ks:List Int):Hd:=ks.map fun z=>(z,.bool true)
theorem RY{z:Int}:∀{ks:List Int},z∉ks->Ml z (.bool true) (WM ks)=WM (ks++[z])
 | [],_=>rfl
 |k::ks,h=>by
  show(bif z==k then _ else(k,_)::Ml z _ (WM ks))=_;rw[show(z==k)=false by simpa using fun e=>h (by rw[e];exact q99.2 (.inl rfl)),RY (fun e=>h (q99.2 (.inr e)))];rfl
theorem Yc{z:Int}:∀{ks:List Int},Ox z (WM ks)=WM (ks.erase z)
 | []=>rfl
 |k::ks=>by
  show(bif z==k then _ else(k,_)::Ox z (WM ks))=_;rw[List.erase_cons]
  by_cases h:z=k
  . subst h;simp[WM]
  . rw[show(z==k)=false by simpa using h,show(k==z)=false by simpa using Ne.symm h,Yc];rfl
theorem lJ(ks:List Int):(WM ks).map (·.1)=ks:=by simp[WM,Function.comp_def]
structure FwI(R:Nat)(fr:List Int)(to:List (Option Nat))(maps:List (List Int)):Prop where
  lenF:fr.length=R
  lenT:to.length=R
  ran:∀v:Nat,v<R->0<=Ai fr v/\Ai fr v<R
  root:∀v:Nat,v<R->Ai fr (Ai fr v)=Ai fr v
  sm:∀a j:Nat,to[a]?=some (some j)->∃ks,maps[j]?=some ks/\ks.Nodup/\∀v:Int,v∈ks↔(0<=v/\v<R/\v≠a/\Ai fr v=a)
  nn:∀a:Nat,to[a]?=some none->∀v:Nat,v<R->Ai fr v=a->v=a
  inj:∀a b j:Nat,to[a]?=some (some j)->to[b]?=some (some j)->a=b
theorem v9(R:Nat):FwI R (LV R) (List.replicate R none) [] where
 lenF:=dA R
 lenT:=by simp
 ran:=fun v hv=>by rw[JK hv];omega
 root:=fun v hv=>by rw[JK hv,JK hv]
 sm:=fun a j h=>by rw[q19]at h;split at h<;>simp at h
 nn:=fun a h v hv e=>by rw[JK hv]at e;omega
 inj:=fun a b j h=>by rw[q19]at h;split at h<;>simp at h
variable {R : Nat} {fr : List Int} {to : List (Option Nat)} {maps : List (List Int)}
variable {a : Nat}
theorem FwI.to_of(h:FwI R fr to maps)(ha:a<R):∃o,to[a]?=some o:=⟨_,q13 (by rw[h.lenT];exact ha)⟩
theorem FwI.off(h:FwI R fr to maps){s:Nat}(hd:d<R)(hs:Ai fr d=s)(hne:s≠d):∃j ks,to[s]?=some (some j)/\maps[j]?=some ks/\FwI R (A4 fr (d:Int) d) to (maps.set j (ks.erase (d:Int))):=by
 have hsR:s<R:=by have:=(h.ran d hd).2;omega
 obtain⟨o,ho⟩:=h.to_of hsR
 cases o with
 |none=>exact absurd (h.nn s ho d hd hs) (Ne.symm hne)
 |some j=>
  obtain⟨ks,k1,k2,k3⟩:=h.sm s j ho;have hg:∀v:Nat,Ai (A4 fr (d:Int) d) v=if v=d then(d:Int)else Ai fr v:=fun v=>FQ (by rw[h.lenF];exact hd)
  refine⟨j,ks,ho,k1,⟨by rw[Ea,h.lenF],h.lenT,fun v hv=>?_,fun v hv=>?_,fun a j' ha=>?_,fun a ha v hv e=>?_,h.inj⟩⟩
  . rw[hg];split
    . omega
    . exact h.ran v hv
  . rw[hg v];split
    . rw[hg d,qK0 rfl]
    . obtain⟨r0,r1⟩:=h.ran v hv;obtain⟨u,hu⟩:∃u:Nat,Ai fr v=u:=⟨(Ai fr v).toNat,by omega⟩
      rw[hu,hg u];split
      . rename_i e;rw[e]
      . have:=h.root v hv;rw[hu]at this;exact this
  . have hlt:j<maps.length:=(q05.1 k1).1
    by_cases hj:j'=j
    . subst hj;have:=h.inj a s j' ha ho;subst this;refine⟨ks.erase d,by rw[q21 hlt],k2.erase _,fun v=>?_⟩;rw[k2.mem_erase_iff,k3];constructor
      . rintro⟨e1,e2,e3,e4,e5⟩
        obtain⟨u,rfl⟩:∃u:Nat,v=u:=⟨v.toNat,by omega⟩
        refine⟨e2,e3,e4,?_⟩;rw[hg,qZ9 (by intro e;exact e1 (by rw[e]))];exact e5
      . rintro⟨e2,e3,e4,e5⟩
        obtain⟨u,rfl⟩:∃u:Nat,v=u:=⟨v.toNat,by omega⟩
        rw[hg]at e5
        by_cases hu:u=d
        . rw[qK0 hu]at e5;omega
        . rw[qZ9 hu]at e5;exact⟨by omega,e2,e3,e4,e5⟩
    . obtain⟨ks',q1,q2,q3⟩:=h.sm a j' ha;refine⟨ks',by rw[q36 (Ne.symm hj)];exact q1,q2,fun v=>?_⟩;rw[q3];have has:a≠s:=fun e=>hj (by subst e;rw[ho]at ha;cases ha;rfl)
      constructor
      . rintro⟨e2,e3,e4,e5⟩
        obtain⟨u,rfl⟩:∃u:Nat,v=u:=⟨v.toNat,by omega⟩
        exact i4
      . rintro⟨e2,e3,e4,e5⟩
        obtain⟨u,rfl⟩:∃u:Nat,v=u:=⟨v.toNat,by omega⟩
        rw[hg]at e5
        by_cases hu:u=d
        . rw[qK0 hu]at e5;omega
        . rw[qZ9 hu]at e5;exact⟨e2,e3,e4,e5⟩
  . rw[hg]at e
    by_cases hv':v=d
    . rw[qK0 hv']at e;omega
    . rw[qZ9 hv']at e;exact h.nn a ha v hv e
theorem FwI.off0(h:FwI R fr to maps)(hd:d<R)(hs:Ai fr d=d):A4 fr (d:Int) d=fr:=
 M1 (Ea _ _ _) fun v hv=>by
  rw[Ea]at hv;rw[FQ (by rw[h.lenF];exact hd)]
  by_cases e:v=d
  . rw[qK0 e,e,hs]
  . rw[qZ9 e]
theorem FwI.clear(h:FwI R fr to maps)(hd:d<R)(hs:Ai fr d=d):FwI R (CX d fr) (to.set d none) maps:=by
 have hg:∀v:Nat,v<R->Ai (CX d fr) v=if Ai fr v=d then(v:Int)else Ai fr v:=fun v hv=>by
  rw[DV (by rw[h.lenF];exact hv)]
  by_cases e:Ai fr v=d
  . rw[qK0 e];simp[e]
  . rw[qZ9 e]
    by_cases e2:v=d
    . subst e2;exact absurd hs e
    . rw[show((v:Int)==d)=false from q40.2 Ab,show(Ai fr v==(d:Int))=false from q40.2 e];rfl
 refine⟨by rw[DU,h.lenF],by simp[h.lenT],fun v hv=>?_,fun v hv=>?_,fun a j ha=>?_,fun a ha v hv e=>?_,fun a b j ha hb=>?_⟩
 . rw[hg v hv];split
   . omega
   . exact h.ran v hv
 . rw[hg v hv];split
   . rename_i e;rw[hg v hv,qK0 e]
   . rename_i e;obtain⟨r0,r1⟩:=h.ran v hv;obtain⟨u,hu⟩:∃u:Nat,Ai fr v=u:=⟨(Ai fr v).toNat,by omega⟩
     have hr:=h.root v hv;rw[hu]at hr e|-;rw[hg u Ab,qZ9 (by rw[hr];exact e)];exact hr
 . rw[q60]at ha;split at ha
   . split at ha<;>simp at ha
   . rename_i hda;obtain⟨ks,q1,q2,q3⟩:=h.sm a j ha;refine⟨ks,q1,q2,fun v=>?_⟩;rw[q3];constructor
     . rintro⟨e2,e3,e4,e5⟩
       obtain⟨u,rfl⟩:∃u:Nat,v=u:=⟨v.toNat,by omega⟩
       refine⟨e2,e3,e4,?_⟩;rw[hg u Ab,qZ9 (by rw[e5];omega)];exact e5
     . rintro⟨e2,e3,e4,e5⟩
       obtain⟨u,rfl⟩:∃u:Nat,v=u:=⟨v.toNat,by omega⟩
       rw[hg u Ab]at e5
       by_cases e:Ai fr u=d
       . rw[qK0 e]at e5;exact absurd e5 e4
       . rw[qZ9 e]at e5;exact⟨e2,e3,e4,e5⟩
 . rw[hg v hv]at e;rw[q60]at ha
   by_cases e1:Ai fr v=d
   . rw[qK0 e1]at e;omega
   . rw[qZ9 e1]at e
     by_cases hda:d=a
     . subst hda;exact absurd e e1
     . rw[qZ9 hda]at ha;exact h.nn a ha v hv e
 . rw[q60]at ha hb
   by_cases e1:d=a
   . rw[qK0 e1]at ha;split at ha<;>simp at ha
   . by_cases e2:d=b
     . rw[qK0 e2]at hb;split at hb<;>simp at hb
     . rw[qZ9 e1]at ha;rw[qZ9 e2]at hb;exact h.inj a b j ha hb
theorem N7(h:FwI R fr to maps)(hd:d<R):CX d (A4 fr (d:Int) d)=CX d fr:=
 M1 (by rw[DU,DU,Ea]) fun v hv=>by
  rw[DU,Ea,h.lenF]at hv;rw[DV (by rw[Ea,h.lenF];exact hv),DV (by rw[h.lenF];exact hv),FQ (by rw[h.lenF];exact hd)]
  by_cases e:v=d
  . subst e;simp
  . rw[qZ9 e]
theorem FwI.copied(h:FwI R fr to maps)(hd:d<R)(ha:a<R)(hne:a≠d)(hs:Ai fr d=d)(hn:to[d]?=some none)(hra:Ai fr a=a):
 (∃j ks,to[a]?=some (some j)/\maps[j]?=some ks/\(d:Int)∉ks/\FwI R (A4 fr (d:Int) a) to (maps.set j (ks++[(d:Int)])))\/(to[a]?=some none/\FwI R (A4 fr (d:Int) a) (to.set a (some maps.length)) (maps++[[(d:Int)]])):=by
 have hg:∀v:Nat,Ai (A4 fr (d:Int) a) v=if v=d then(a:Int)else Ai fr v:=fun v=>FQ (by rw[h.lenF];exact hd)
 have hno:∀v:Nat,v<R->Ai fr v=d->v=d:=h.nn d hn
 have ran:∀v:Nat,v<R->0<=Ai (A4 fr (d:Int) a) v/\Ai (A4 fr (d:Int) a) v<R:=fun v hv=>by
  rw[hg];split
  . omega
  . exact h.ran v hv
 have root:∀v:Nat,v<R->Ai (A4 fr (d:Int) a) (Ai (A4 fr (d:Int) a) v)=Ai (A4 fr (d:Int) a) v:=fun v hv=>by
  rw[hg v];split
  . rw[hg a,qZ9 hne];exact hra
  . rename_i e;obtain⟨r0,r1⟩:=h.ran v hv;obtain⟨u,hu⟩:∃u:Nat,Ai fr v=u:=⟨(Ai fr v).toNat,by omega⟩
    have hr:=h.root v hv;rw[hu]at hr|-;rw[hg u,qZ9 (fun e2=>by subst e2;exact e (hno v hv hu))];exact hr
 have keys:∀(b:Nat) (ks:List Int),b≠a->(∀v:Int,v∈ks↔(0<=v/\v<R/\v≠b/\Ai fr v=b))->b≠d->∀v:Int,v∈ks↔(0<=v/\v<R/\v≠b/\Ai (A4 fr (d:Int) a) v=b):=fun b ks hba hk hbd v=>by
  rw[hk];constructor
  . rintro⟨e2,e3,e4,e5⟩
    obtain⟨u,rfl⟩:∃u:Nat,v=u:=⟨v.toNat,by omega⟩
    exact i4
  . rintro⟨e2,e3,e4,e5⟩
    obtain⟨u,rfl⟩:∃u:Nat,v=u:=⟨v.toNat,by omega⟩
    rw[hg]at e5
    by_cases e:u=d
    . rw[qK0 e]at e5;omega
    . rw[qZ9 e]at e5;exact⟨e2,e3,e4,e5⟩
 have nones:∀b:Nat,b≠a->to[b]?=some none->∀v:Nat,v<R->Ai (A4 fr (d:Int) a) v=b->v=b:=fun b hba hb v hv e=>by
  rw[hg]at e
  by_cases e2:v=d
  . rw[qK0 e2]at e;omega
  . rw[qZ9 e2]at e;exact h.nn b hb v hv e
 obtain⟨o,ho⟩:=h.to_of ha
 cases o with
 |some j=>
  left;obtain⟨ks,k1,k2,k3⟩:=h.sm a j ho;have hlt:j<maps.length:=(q05.1 k1).1;have hdk:(d:Int)∉ks:=fun e=>by have:=((k3 d).1 e).2.2.2;rw[hs]at this;omega
  refine⟨j,ks,ho,k1,hdk,⟨by rw[Ea,h.lenF],h.lenT,ran,root,fun b j' hb=>?_,fun b hb=>nones b (fun e=>by subst e;rw[ho]at hb;cases hb) hb,h.inj⟩⟩
  by_cases hj:j'=j
  . subst hj;have:=h.inj b a j' hb ho;subst this;refine⟨ks++[(d:Int)],by rw[q21 hlt],q65.2 ⟨k2,by simp,fun x hx y hy e=>by rw[q47.1 hy]at e;subst e;exact hdk hx⟩,fun v=>?_⟩;rw[q78,q47,k3];constructor
    . rintro(⟨e2,e3,e4,e5⟩|rfl)
      . obtain⟨u,rfl⟩:∃u:Nat,v=u:=⟨v.toNat,by omega⟩
        exact i4
      . exact⟨by omega,by omega,by omega,by rw[hg,qK0 rfl]⟩
    . rintro⟨e2,e3,e4,e5⟩
      obtain⟨u,rfl⟩:∃u:Nat,v=u:=⟨v.toNat,by omega⟩
      rw[hg]at e5
      by_cases e:u=d
      . right;rw[e]
      . rw[qZ9 e]at e5;exact .inl ⟨e2,e3,e4,e5⟩
  . obtain⟨ks',q1,q2,q3⟩:=h.sm b j' hb;have hba:b≠a:=fun e=>hj (by subst e;rw[ho]at hb;cases hb;rfl)
    have hbd:b≠d:=fun e=>by subst e;rw[hn]at hb;cases hb
    exact⟨ks',by rw[q36 (Ne.symm hj)];exact q1,q2,keys b ks' hba q3 hbd⟩
 |none=>
  right;have hlen:a<to.length:=by rw[h.lenT];exact ha
  have hmj:∀b j',to[b]?=some (some j')->j'<maps.length:=fun b j' hb=>by
   obtain⟨ks',q1,_⟩:=h.sm b j' hb;exact(q05.1 q1).1
  refine⟨ho,⟨by rw[Ea,h.lenF],by simp[h.lenT],ran,root,fun b j' hb=>?_,fun b hb=>?_,fun b c j' hb hc=>?_⟩⟩
  . rw[q60]at hb
    by_cases hab:a=b
    . subst hab;rw[qK0 rfl,qK0 hlen]at hb
      cases hb
      refine⟨[(d:Int)],by rw[q02 (qZ0 _)];simp,by simp,fun v=>?_⟩;rw[q47];constructor
      . rintro rfl
        exact⟨by omega,by omega,by omega,by rw[hg,qK0 rfl]⟩
      . rintro⟨e2,e3,e4,e5⟩
        obtain⟨u,rfl⟩:∃u:Nat,v=u:=⟨v.toNat,by omega⟩
        rw[hg]at e5
        by_cases e:u=d
        . rw[e]
        . rw[qZ9 e]at e5;exact absurd (h.nn a ho u Ab e5) Ab
    . rw[qZ9 hab]at hb;obtain⟨ks',q1,q2,q3⟩:=h.sm b j' hb;have hbd:b≠d:=fun e=>by subst e;rw[hn]at hb;cases hb
      exact⟨ks',by rw[q06 (hmj b j' hb)];exact q1,q2,keys b ks' (Ne.symm hab) q3 hbd⟩
  . rw[q60]at hb
    by_cases hab:a=b
    . rw[qK0 hab,qK0 hlen]at hb;cases hb
    . rw[qZ9 hab]at hb;exact nones b (Ne.symm hab) hb
  . rw[q60]at hb hc
    by_cases h1:a=b
    . rw[qK0 h1,qK0 hlen]at hb
      cases hb
      by_cases h2:a=c
      . omega
      . rw[qZ9 h2]at hc;have:=hmj c _ hc;omega
    . rw[qZ9 h1]at hb
      by_cases h2:a=c
      . rw[qK0 h2,qK0 hlen]at hc;cases hc;have:=hmj b _ hb;omega
      . rw[qZ9 h2]at hc;exact h.inj b c j' hb hc
variable {H : AJ} {ι : BD} {h : Aj} {w w' : World} {rb : Nat}
theorem Step.unowned{H':AJ}{ι':BD}{h':Aj}(hr:HeapRel H ι h w)(hr':HeapRel H' ι' h' w')(st:Step H ι h w H' ι' h' w')(hlt:rb<w.heap.size)(hu:¬EQ h ι rb):¬EQ h' ι' rb:=by
 rintro⟨b,o,r',h1,h2,h3,h4,rfl⟩
 rcases st.newrb b r' h3 h4 with e|e|⟨r,e1,e2,e3⟩
 . cases hb:h b with
   |none=>have:=st.dom b hb;rw[h1]at this;cases this
   |some o'=>
    cases ho:o'.alive with
    |true=>exact hu ⟨b,o',r',hb,ho,e,h4,rfl⟩
    |false=>
     have:o'=.free:=by cases o'<;>first|rfl|cases ho
     subst this;rw[hr.free b hb]at e;cases e
 . omega
 . cases hb:h b with
   |none=>have:=st.dom b hb;rw[h1]at this;cases this
   |some o'=>
    cases ho:o'.alive with
    |true=>exact hu ⟨b,o',r,hb,ho,e1,e2,e3⟩
    |false=>
     have:o'=.free:=by cases o'<;>first|rfl|cases ho
     subst this;rw[hr.free b hb]at e1;cases e1
theorem HeapRel.away(hr:HeapRel H ι h w)(hk:∀b,b<w.heap.size->b≠rb->w'.heap[b]?=w.heap[b]?)(hu:¬EQ h ι rb)(hn:H rb=none):HeapRel H ι h w' where
 know:=fun b c hc=>by
  obtain⟨T,fr,e⟩:=hr.know b c hc;exact⟨T,fr,by rw[hk b (hr.knowlt hc) (fun e=>by subst e;rw[hn]at hc;cases hc)];exact e⟩
 free:=hr.free
 obj:=fun b o h1 h2=>by
  obtain⟨r,e1,e2,e3⟩:=hr.obj b o h1 h2;exact⟨r,e1,e2.mono (qK1 _) (qK2 _) fun hs=>hk r.rb (hr.lt ⟨b,o,r,h1,h2,e1,hs,rfl⟩) fun e=>hu ⟨b,o,r,h1,h2,e1,hs,e⟩,e3⟩
 inj:=hr.inj
 glob:=hr.glob
variable {H0 : AJ} {h0 : Aj}
theorem Step.away{ι0:BD}{w0:World}(st:Step H0 ι0 h0 w0 H ι h w)(hrb:w0.heap.size<=rb)(hk:∀b,b<w.heap.size->b≠rb->w'.heap[b]?=w.heap[b]?)(hs:w.heap.size<=w'.heap.size)(ho:w'.os=w.os)(hu:w'.output=w.output):Step H0 ι0 h0 w0 H ι h w' where
 size:=qX2 st.size hs
 os:=ho.trans st.os
 out:=hu.trans st.out
 keep:=fun b hlt hno=>(hk b (q51 hlt st.size) Ab).trans (st.keep b hlt hno)
 kle:=st.kle
 knew:=st.knew
 lle:=st.lle
 lframe:=st.lframe
 newrb:=st.newrb
 dom:=st.dom
variable {b : Nat} {o : AObj} {r : Ent}
theorem HeapRel.back(hr:HeapRel H ι h w)(ha:o.alive=true)(hl:ι b=some r)(ho:ObjOk H ι w r o)(hk:r.solid->H r.rb=none)(hu:r.solid->¬EQ h ι r.rb):HeapRel H ι (Af h b o) w where
 know:=hr.know
 free:=fun x e=>by
  by_cases hx:x=b
  . subst hx;rw[AB]at e;cases e;cases ha
  . rw[Bd _ _ hx]at e;exact hr.free x e
 obj:=fun x o' e h2=>by
  by_cases hx:x=b
  . subst hx;rw[AB]at e;cases e;exact⟨r,hl,ho,hk⟩
  . rw[Bd _ _ hx]at e;exact hr.obj x o' e h2
 inj:=fun x x' o1 o2 r1 r2 e1 a1 e2 a2 l1 l2 s1 s2 hne heq=>by
  by_cases hx:x=b
  . subst hx;rw[hl]at l1;cases l1;rw[Bd _ _ (Ne.symm hne)]at e2;exact hu s1 ⟨x',o2,r2,e2,a2,l2,s2,heq.symm⟩
  . rw[Bd _ _ hx]at e1
    by_cases hx':x'=b
    . subst hx';rw[hl]at l2;cases l2;exact hu s2 ⟨x,o1,r1,e1,a1,l1,s1,heq⟩
    . rw[Bd _ _ hx']at e2;exact hr.inj x x' o1 o2 r1 r2 e1 a1 e2 a2 l1 l2 s1 s2 hne heq
 glob:=hr.glob
theorem Step.back{ι0:BD}{w0:World}(st:Step H0 ι0 h0 w0 H ι h w)(hb:h0 b≠none):Step H0 ι0 h0 w0 H ι (Af h b o) w:=
 ⟨st.size,st.os,st.out,st.keep,st.kle,st.knew,st.lle,st.lframe,st.newrb,fun x hx=>by
  by_cases hxb:x=b
  . subst hxb;exact absurd hx hb
  . rw[Bd _ _ hxb];exact st.dom x hx⟩
theorem qo{ι':BD}(h:LLe ι ι')(hr:ι b=some r)(h0:r.sz=0):ι' b=some r:=by
 obtain⟨r',e1,e2⟩:=h b r hr;rcases e2 with rfl|⟨_,e2,_⟩
 . exact e1
 . omega
theorem gm{es:Array MapEntry}{seen:Array Nat}{e:MapEntry}:(leftOf es (seen.push e.born)).toList=(leftOf es seen).toList.filter (fun x=> !(x.born==e.born)):=by
 unfold leftOf;rw[Array.toList_filter,Array.toList_filter,List.filter_filter];congr 1;funext x;rw[Array.contains_push,Bool.not_or,Bool.and_comm,Bool.and_comm]
theorem Sd{e:MapEntry}:∀{l:List MapEntry},(l.map (·.born)).Nodup->e∈l->∃l1 l2,l=l1++e::l2/\l.filter (fun x=> !(x.born==e.born))=l1++l2
 | [],_,h=>by cases h
 |x::l,hn,h=>by
  have hn':=q93.1 hn;rcases q99.1 h with rfl|h
  . refine⟨[],l,rfl,?_⟩;rw[List.filter_cons_of_neg Aq];exact List.filter_eq_self.2 fun y hy=>by
     have:y.born≠e.born:=fun e2=>hn'.1 (by show e.born∈_;rw[<-e2];exact qX3.2 ⟨y,hy,rfl⟩)
     simpa using this
  . obtain⟨l1,l2,e1,e2⟩:=Sd hn'.2 h;have:x.born≠e.born:=fun e3=>hn'.1 (by show x.born∈_;rw[e3];exact qX3.2 ⟨e,h,rfl⟩)
    refine⟨x::l1,l2,by rw[e1];rfl,?_⟩;rw[List.filter_cons_of_pos (by simpa using this),e2];rfl
def Px(e:MapEntry):Int:=match e.key with| .int _ z=>z|_=>0
variable {m : Hd}
theorem EntRel.keys{K:IntKind}{es:List MapEntry}(h:EntRel H K m es):es.map Px=m.map (·.1)/\∀e∈es,e.key=.int K (Px e):=by
 induction h with
 |nil=>exact⟨rfl,fun e h=>by cases h⟩
 |cons z v m e es hk hv h ih=>
  refine⟨by simp[Px,hk,ih.1],fun x hx=>?_⟩;rcases q99.1 hx with rfl|hx
  . simp[Px,hk]
  . exact ih.2 x hx
structure q9(w:World)(rb mrb since:Nat)(seen:Array Nat)(es:Array MapEntry):Prop where
  it:w.heap[rb]?=some (.mapIter (some mrb) since seen since)
  mp:w.heap[mrb]?=some (.map es since)
theorem Gu{a:Act}{v:Value}(h:d<a.tmps.size):(a.put (some d) v).eval (.tmp d)=v:=by
 simp[Act.put,Act.eval,h]
variable {e : A3}
theorem Lt(h:e d=none):Te e d=e:=by
 funext x
 by_cases hx:x=d
 . subst hx;rw[OJ,h]
 . rw[Wq _ hx]
variable {P : Program} {K : IntKind}
theorem Vm{n:Nat}{γ:Type}{S:γ->Ar}{J:List Int->γ->Prop}{rb mrb since:Nat}{es:Array MapEntry}{tI dN dX dE dY d bid bid2 id5 id6:Nat}{oN oX oE oY oA:Oper}{body:Code}{Q:Exit->Ar->Prop}{tN:TypeId}
 (hN:oN.op=.next (.tmp tI) false/\oN.dst=some dN/\oN.guard=none) (hX:oX.op=.extract (.tmp dN) 0/\oX.dst=some dX/\oX.guard=none) (hE:oE.op=.entry (.tmp tI)/\oE.dst=some dE/\oE.guard=none)
 (hY:oY.op=.extract (.tmp dE) 0/\oY.dst=some dY/\oY.guard=none) (hA:oA.op=.assign (.tmp dY)/\oA.dst=some d/\oA.guard=none) (hlt:dN<n/\dX<n/\dE<n/\dY<n/\d<n) (hne:tI≠dN/\tI≠dX/\tI≠dE/\tI≠dY)
 (hS:∀g,(S g).n=n/\(S g).env tI=some (.val (.pointer (some ⟨rb,0,none⟩)))/\(S g).env dN=none/\(S g).env dX=none/\(S g).env dE=none/\(S g).env dY=none/\(S g).env d=none)
 (hbo:BornOk since (es.toList.map (·.born))) (hk:∀e∈es.toList,e.key=.int K (Px e))
 (hround:∀l1 z l2 g,J (l1++z::l2) g->AGo P body ⟨n,Aa (S g).env d (.int K z),(S g).h⟩ (fun e s'=>e=.normal/\∃g',J (l1++l2) g'/\Sub (S g') s'))
 {b:Nat} {m:Hd} {r:Ent} (hend:∀g,J [] g->Q .normal ⟨(S g).n,(S g).env,Af (S g).h b (.map (kvs K m))⟩) (hr1:r.sz=0) (hr2:r.solid) (hr3:r.rb=mrb)
 {H0:AJ} {ι0:BD} {h0:Aj} {w0:World} (hr0:HeapRel H0 ι0 h0 w0) (hb0:h0 b≠none) (hrb0:w0.heap.size<=rb) (hrm:rb≠mrb) {H:AJ} {ι:BD} {a:Act} {w:World} {seen:Array Nat} {g:γ} (hs:Sim H ι (S g) a w) (hst:Step H0 ι0 h0 w0 H ι (S g).h w) (hit:q9 w rb mrb since seen es)
 (hu1:¬EQ (S g).h ι rb) (hu2:¬EQ (S g).h ι mrb) (hJ:J ((leftOf es seen).toList.map Px) g) (hl:ι b=some r) (hob:ObjOk H ι w r (.map (kvs K m))):
 (Code.block bid (.loop (.seq (.region id5 #[oN,oX] false) (.seq (.cond (.tmp dX) .skip (.exit bid)) (.block bid2 (.seq (.region id6 #[oE,oY,oA] false) body)))))).wp P (Post H0 ι0 h0 w0 Q) a w:=by
 have hnd:(es.toList.map (·.born)).Nodup:=hbo.1.imp (fun h=>Nat.ne_of_lt h);have hsub:∀seen,(leftOf es seen).toList.Sublist es.toList:=fun seen=>by unfold leftOf;rw[Array.toList_filter];exact List.filter_sublist
 refine wp_block (wp_loop (fun a w=>∃H ι seen g,Sim H ι (S g) a w/\Step H0 ι0 h0 w0 H ι (S g).h w/\q9 w rb mrb since seen es/\¬EQ (S g).h ι rb/\¬EQ (S g).h ι mrb/\J ((leftOf es seen).toList.map Px) g/\ι b=some r/\ObjOk H ι w r (.map (kvs K m)))
  (fun a w=>match w.heap[rb]? with|some (.mapIter _ _ seen _)=>(leftOf es seen).size|_=>0) ⟨H,ι,seen,g,hs,hst,hit,hu1,hu2,hJ,hl,hob⟩ ?_)
 clear hs hst hit hu1 hu2 hJ hl hob H ι seen g a w
 rintro a w ⟨H,ι,seen,g,hs,hst,hit,hu1,hu2,hJ,hl,hob⟩
 obtain⟨s1,s2,s3,s4,s5,s6,s7⟩:=hS g;have hsz:a.tmps.size=n:=by rw[hs.n,s1]
 have hI:a.eval (.tmp tI)=.pointer (some ⟨rb,0,none⟩):=by
  have:=Aw hs (o:=.tmp tI) s2;generalize a.eval (.tmp tI)=v at this
  cases this;rfl
 have wN:∀(ops:Array Oper) (o:Oper) (t:Array Value),o.guard=none->Region.wanted o (yielded ops t)=true:=fun ops o t ho=>by unfold Region.wanted;rw[ho]
 have hrblt:rb<w.heap.size:=(q03.1 hit.it).1;have hmlt:mrb<w.heap.size:=(q03.1 hit.mp).1;have hHn:H rb=none:=by
  cases e:H rb with
  |none=>rfl
  |some c=>obtain⟨T,fr,e2⟩:=hs.heap.know rb c e;rw[hit.it]at e2;cases e2
 have hold:∀x∈es.toList,x.born<since:=fun x hx=>hbo.2 _ (qX3.2 ⟨x,hx,rfl⟩)
 have hHm:H mrb=none:=by
  cases e:H mrb with
  |none=>rfl
  |some c=>obtain⟨T,fr,e2⟩:=hs.heap.know mrb c e;rw[hit.mp]at e2;cases e2
 have hexit:∀(v:Value),((leftOf es seen).toList=[])->Post H0 ι0 h0 w0 Q .normal ((a.put (some dN) v).put (some dX) (.bool false)) w:=fun v hz=>by
  rw[hz]at hJ;have k3:=hs.put (d:=some dN) (r:=none) (v:=v) hs.heap (qK3 _ _ _ _) (fun x e=>by cases e) (fun t e=>by cases e;rw[s1];exact hlt.1);have e1:(⟨(S g).n,JS (S g).env (some dN) none,(S g).h⟩:Ar)=S g:=by
   show(⟨(S g).n,Te (S g).env dN,(S g).h⟩:Ar)=S g;rw[Lt s3]
  rw[e1]at k3;have k4:=k3.put (d:=some dX) (r:=none) (v:=.bool false) k3.heap (qK3 _ _ _ _) (fun x e=>by cases e) (fun t e=>by cases e;rw[s1];exact hlt.2.1);have e2:(⟨(S g).n,JS (S g).env (some dX) none,(S g).h⟩:Ar)=S g:=by
   show(⟨(S g).n,Te (S g).env dX,(S g).h⟩:Ar)=S g;rw[Lt s4]
  rw[e2]at k4;exact⟨_,H,ι,hend g hJ,⟨k4.n,k4.d,k4.env,k4.heap.back rfl hl hob (fun _=>by rw[hr3];exact hHm) (fun _=>by rw[hr3];exact hu2)⟩,hst.back hb0⟩
 rcases run_next_at (P:=P) w oN.type rb mrb since since seen es since hit.it hit.mp hold (qZ0 _)with⟨hz,hrun⟩|⟨en,hen,w1,hw1,hrun⟩
 . -- none is left
   have hlz:(leftOf es seen).toList=[]:=q01 (by simpa using hz);refine wp_seq (wp_region_list ?_);unfold wpList;rw[wN _ _ _ hN.2.2,qK0 rfl];refine .inl ?_;unfold Oper.wp;rw[show(execOp a.eval oN).run P w=.ok (.value (.tuple #[.bool false])) w by simp[execOp,hN.1,hI,hrun]];show wpList P _ _ [oX] (a.put oN.dst _) w;rw[hN.2.1];unfold wpList;rw[wN _ _ _ hX.2.2,qK0 rfl];refine .inl ?_;unfold Oper.wp;rw[show(execOp (a.put (some dN) (.tuple #[.bool false])).eval oX).run P w=.ok (.value (.bool false)) w by simp[execOp,hX.1,Gu (by rw[hsz];exact hlt.1),Instr.extract]];rw[Oper.upon_value,hX.2.1];unfold wpList;show(Code.seq _ _).wp P _ _ w;refine wp_seq (wp_cond_false (Gu (by simp[Act.put,hsz];exact hlt.2.1)) (wp_exit ?_));show Exit.inBlock bid (Post H0 ι0 h0 w0 Q) (.exit bid) _ w;simp only[Exit.inBlock,qZ8];exact hexit _ hlz
 . have hmem:=(hsub seen).subset hen;have hkey:=hk en hmem;have hns:((leftOf es seen).toList.map (·.born)).Nodup:=hnd.sublist ((hsub seen).map _);obtain⟨l1,l2,q1,q2⟩:=Sd hns hen;have hlp:(leftOf es (seen.push en.born)).toList=l1++l2:=by rw[gm,q2]
   refine wp_seq (wp_region_list ?_);unfold wpList;rw[wN _ _ _ hN.2.2,qK0 rfl];refine .inl ?_;unfold Oper.wp
   let w2:=ChangeMaps.setBlock w1 rb (.mapIter (some mrb) since (seen.push en.born) since)
   rw[show(execOp a.eval oN).run P w=.ok (.value (.tuple #[.bool true,en.key,en.val])) w2 by simp[execOp,hN.1,hI,hrun];rfl];have hw1h:w1.heap=w.heap/\w1.os=w.os/\w1.output=w.output:=by rcases hw1 with rfl|rfl<;>exact⟨rfl,rfl,rfl⟩
   have hw2h:∀b,b≠rb->w2.heap[b]?=w.heap[b]?:=fun b hb=>by
    show(w1.heap.setIfInBounds rb _)[b]?=_;rw[hw1h.1,q00 (Ne.symm hb)]
   have hit2:q9 w2 rb mrb since (seen.push en.born) es:=by
    refine⟨?_,by rw[hw2h _ (Ne.symm hrm)];exact hit.mp⟩;show(w1.heap.setIfInBounds rb _)[rb]?=_;rw[hw1h.1];simp[hrblt]
   have hs2:HeapRel H ι (S g).h w2:=hs.heap.away (fun b _ hb=>hw2h b hb) hu1 hHn;have hst2:Step H0 ι0 h0 w0 H ι (S g).h w2:=hst.away hrb0 (fun b _ hb=>hw2h b hb) (by show _<=(w1.heap.setIfInBounds rb _).size;rw[hw1h.1];simp) (by show w1.os=_;exact hw1h.2.1) (by show w1.output=_;exact hw1h.2.2);show wpList P _ _ [oX] (a.put oN.dst _) w2;rw[hN.2.1];unfold wpList;rw[wN _ _ _ hX.2.2,qK0 rfl];refine .inl ?_;unfold Oper.wp;rw[show(execOp (a.put (some dN) (.tuple #[.bool true,en.key,en.val])).eval oX).run P w2=.ok (.value (.bool true)) w2 by simp[execOp,hX.1,Gu (by rw[hsz];exact hlt.1),Instr.extract]];rw[Oper.upon_value,hX.2.1];unfold wpList;show(Code.seq _ _).wp P _ _ w2;refine wp_seq (wp_cond_true (Gu (by simp[Act.put,hsz];exact hlt.2.1)) (wp_skip ?_));show(Code.block _ _).wp P _ _ w2
   let a2:=(a.put (some dN) (.tuple #[.bool true,en.key,en.val])).put (some dX) (.bool true)
   have hI2:a2.eval (.tmp tI)=.pointer (some ⟨rb,0,none⟩):=by
    rw[<-hI];simp only[a2,Act.put,Act.eval];rw[Array.getD_eq_getD_getElem?,Array.getD_eq_getD_getElem?,q00 (Ne.symm hne.2.1),q00 (Ne.symm hne.1)]
   have hsz2:a2.tmps.size=n:=by simp[a2,Act.put,hsz]
   have hsz3:(a2.put (some dE) (.tuple #[en.key,en.val])).tmps.size=n:=by rw[<-hsz2];simp[Act.put]
   refine wp_block (wp_seq (wp_region_list ?_));unfold wpList;rw[wN _ _ _ hE.2.2,qK0 rfl];refine .inl ?_;unfold Oper.wp;rw[show(execOp a2.eval oE).run P w2=.ok (.value (.tuple #[en.key,en.val])) w2 by simp[execOp,hE.1,hI2,run_entry_at w2 rb mrb since seen es since en hit2.it hit2.mp hmem hnd]];show wpList P _ _ [oY,oA] (a2.put oE.dst _) w2;rw[hE.2.1];unfold wpList;rw[wN _ _ _ hY.2.2,qK0 rfl];refine .inl ?_;unfold Oper.wp;rw[show(execOp (a2.put (some dE) (.tuple #[en.key,en.val])).eval oY).run P w2=.ok (.value en.key) w2 by simp[execOp,hY.1,Gu (by rw[hsz2];exact hlt.2.2.1),Instr.extract]];show wpList P _ _ [oA] ((a2.put (some dE) _).put oY.dst _) w2;rw[hY.2.1];unfold wpList;rw[wN _ _ _ hA.2.2,qK0 rfl];refine .inl ?_;unfold Oper.wp;rw[show(execOp ((a2.put (some dE) (.tuple #[en.key,en.val])).put (some dY) en.key).eval oA).run P w2=.ok (.value en.key) w2 by simp[execOp,hA.1,Gu (a:=a2.put (some dE) (.tuple #[en.key,en.val])) (d:=dY) (v:=en.key) (by rw[hsz3];exact hlt.2.2.2.1)]]
   rw[Oper.upon_value,hA.2.1];unfold wpList;show body.wp P _ _ w2;have drop:∀{a':Act} {dd:Nat} {v:Value},Sim H ι (S g) a' w2->(S g).env dd=none->dd<n->Sim H ι (S g) (a'.put (some dd) v) w2:=fun {a' dd v} k1 k2 k3=>by
    have k4:=k1.put (d:=some dd) (r:=none) (v:=v) k1.heap (qK3 _ _ _ _) (fun x e=>by cases e) (fun t e=>by cases e;rw[s1];exact k3);have e1:(⟨(S g).n,JS (S g).env (some dd) none,(S g).h⟩:Ar)=S g:=by
     show(⟨(S g).n,Te (S g).env dd,(S g).h⟩:Ar)=S g;rw[Lt k2]
    rwa[e1]at k4
   have k0:Sim H ι (S g) a w2:=⟨hs.n,hs.d,hs.env,hs2⟩;have k5:=drop (v:=en.key) (drop (v:=.tuple #[en.key,en.val]) (drop (v:=.bool true) (drop (v:=.tuple #[.bool true,en.key,en.val]) k0 s3 hlt.1) s4 hlt.2.1) s5 hlt.2.2.1) s6 hlt.2.2.2.1;have k6:=k5.put (d:=some d) (r:=some (.int K (Px en))) (v:=en.key) k5.heap (qK3 _ _ _ _) (fun x e=>by cases e;rw[hkey];exact .int _ _ _) (fun t e=>by cases e;rw[s1];exact hlt.2.2.2.2);rw[s1]at k6;rw[q1,q77,qQ0]at hJ;refine wp_mono (hround _ _ _ g hJ H ι _ w2 k6) fun e' a3 w3 hp=>?_
   obtain⟨s',H',ι',⟨rfl,g',hJ',hsb⟩,r,t⟩:=hp;have r2:=r.sub hsb;have u1:=t.unowned hs2 r.heap yc hu1;have u2:=t.unowned hs2 r.heap uO hu2;have ow:∀{x:Nat},¬EQ s'.h ι' x->¬EQ (S g').h ι' x:=fun hn ⟨b,o,r',h1,h2⟩=>hn ⟨b,o,r',hsb.2.2 b o h1,h2⟩
   have st3:Step H0 ι0 h0 w0 H' ι' (S g').h w3:=by
    have hg:Ghost s' (S g'):=Ghost.of_sub hsb;have h1:=hst2.trans hr0 hs2 t;refine⟨h1.size,h1.os,h1.out,h1.keep,h1.kle,h1.knew,h1.lle,h1.lframe,h1.newrb,fun b hb=>?_⟩
    cases e:(S g').h b with
    |none=>rfl
    |some o=>have h3:=hsb.2.2 b o e;rw[h1.dom b hb]at h3;cases h3
   have it3:q9 w3 rb mrb since (seen.push en.born) es:=by
    refine⟨?_,?_⟩
    . rw[t.keep rb yc hu1];exact hit2.it
    . rw[t.keep mrb uO hu2];exact hit2.mp
   refine⟨⟨H',ι',seen.push en.born,g',r2,st3,it3,ow u1,ow u2,by rw[hlp,q77];exact hJ',qo t.lle hl hr1,hob.mono t.kle t.lle fun hs'=>by rw[hr3,t.keep mrb uO hu2];exact hw2h _ (Ne.symm hrm)⟩,?_⟩;have hlen:(leftOf es (seen.push en.born)).size<(leftOf es seen).size:=by
    rw[<-q45,<-q45,hlp,q1];simp
   rw[it3.it,hit.it];exact hlen
theorem Jr{ops:Array Oper}{Q:Exit->Act->World->Prop}{l2:List Oper}:∀(l1:List Oper) (a:Act) (w:World),wpList P ops (Exit.then (wpList P ops Q l2) Q) l1 a w->wpList P ops Q (l1++l2) a w
 | [],a,w,h=>h
 |o::l1,a,w,h=>by
  rw[q73];unfold wpList at h|-
  by_cases hw:Region.wanted o (yielded ops a.tmps)=true
  . rw[qK0 hw]at h|-;rcases h with h|⟨h1,a2,w2,h2⟩
    . refine .inl ?_;have h':=qX8 (fun a2 w2=>Jr l1 a2 w2) h;clear h;unfold Oper.wp at h'|-;generalize(execOp a.eval o).run P w=res at h'|-
      cases res with
      |ok n w3=>
       cases n<;>simp only[Oper.upon]at h'|- <;>first
        |exact h'
        |exact Calls.mono h' (fun e w4 he=>by cases e<;>first|exact he|(obtain⟨a3,w5,hp3⟩:=he;exact⟨a3,w5,hp3⟩))
      |halt x w3=>cases x<;>simp only[Oper.upon]at h'|- <;>exact h'
    . exact .inr ⟨h1,a2,w2,h2⟩
  . rw[qZ9 hw]at h|-;exact Jr l1 _ _ h
theorem Ip{ops:Array Oper}{Q Q':Exit->Act->World->Prop}(hpost:∀e a w,Q e a w->Q' e a w):∀(l:List Oper) (a:Act) (w:World),wpList P ops Q l a w->wpList P ops Q' l a w
 | [],a,w,h=>hpost _ _ _ h
 |o::l1,a,w,h=>by
  unfold wpList at h|-
  by_cases hw:Region.wanted o (yielded ops a.tmps)=true
  . rw[qK0 hw]at h|-;rcases h with h|⟨h1,a2,w2,h2⟩
    . refine .inl ?_;have h':=qX8 (fun a2 w2=>Ip hpost l1 a2 w2) h;clear h;unfold Oper.wp at h'|-;generalize(execOp a.eval o).run P w=res at h'|-
      cases res with
      |ok n w3=>
       cases n<;>simp only[Oper.upon]at h'|- <;>first
        |exact h'
        |exact Calls.mono h' uP
      |halt x w3=>cases x<;>simp only[Oper.upon]at h'|- <;>first|exact hpost _ _ _ h'|exact h'
    . exact .inr ⟨h1,a2,w2,hpost _ _ _ h2⟩
  . rw[qZ9 hw]at h|-;exact Ip hpost l1 _ _ h
variable {t kt et : TypeId} {x : Operand} {s : Ar} {body : Code} {Q : Exit -> Ar -> Prop}
theorem bL{T:Nat->Option AC}(hT:Dz P T){n:Nat}{γ:Type}{S:Nat->γ->Ar}{J:List Int->γ->Prop}{tI dN dX dE dY bid bid2 id4 id5 id6:Nat}{ops:Array Oper}{oR oN oX oE oY oA:Oper}
 {i:AC} (g0:γ) (kp:Nat) (hops:ops.toList=ops.toList.take kp++[oR]) (hpre:AOps P ops (ops.toList.take kp) s (fun s'=>Sub ⟨n,e,h⟩ s'))
 (hR:oR.op=.range t x/\oR.dst=some tI/\oR.guard=none) (hx:At e x=some (.map b)) (hi:T t=some i) (hik:i.k=.map kt et) (hb:h b=some (.map (kvs K m)))
 (hN:oN.op=.next (.tmp tI) false/\oN.dst=some dN/\oN.guard=none) (hX:oX.op=.extract (.tmp dN) 0/\oX.dst=some dX/\oX.guard=none) (hE:oE.op=.entry (.tmp tI)/\oE.dst=some dE/\oE.guard=none)
 (hY:oY.op=.extract (.tmp dE) 0/\oY.dst=some dY/\oY.guard=none) (hA:oA.op=.assign (.tmp dY)/\oA.dst=some d/\oA.guard=none) (hlt:dN<n/\dX<n/\dE<n/\dY<n/\d<n) (hlt2:tI<n) (hne:tI≠dN/\tI≠dX/\tI≠dE/\tI≠dY)
 (hS:∀rb g,(S rb g).n=n/\(S rb g).env tI=some (.val (.pointer (some ⟨rb,0,none⟩)))/\(S rb g).env dN=none/\(S rb g).env dX=none/\(S rb g).env dE=none/\(S rb g).env dY=none/\(S rb g).env d=none)
 (hJ:J (m.map (·.1)) g0) (hsub:∀rb,Sub (S rb g0) ⟨n,Aa e tI (.val (.pointer (some ⟨rb,0,none⟩))),hrm h b⟩)
 (hround:∀rb l1 z l2 g,J (l1++z::l2) g->AGo P body ⟨n,Aa (S rb g).env d (.int K z),(S rb g).h⟩ (fun e s'=>e=.normal/\∃g',J (l1++l2) g'/\Sub (S rb g') s'))
 (hend:∀rb g,J [] g->Q .normal ⟨n,(S rb g).env,Af (S rb g).h b (.map (kvs K m))⟩):
 AGo P (.seq (.region id4 ops false) (.block bid (.loop (.seq (.region id5 #[oN,oX] false) (.seq (.cond (.tmp dX) .skip (.exit bid)) (.block bid2 (.seq (.region id6 #[oE,oY,oA] false) body))))))) s Q:=by
 intro H0 ι0 a0 w0 hs0;refine wp_seq (wp_region_list ?_);rw[hops];refine Jr _ _ _ (Ip (fun e' a w hp=>?_) _ _ _ (hpre H0 ι0 a0 w0 hs0));obtain⟨s',H,ι,q,hs',hst'⟩:=hp
 cases e' with
 |normal=>
  replace q:Sub ⟨n,e,h⟩ s':=q
  have hs:=hs'.sub q;have hst:Step H0 ι0 s.h w0 H ι h w:=⟨hst'.size,hst'.os,hst'.out,hst'.keep,hst'.kle,hst'.knew,hst'.lle,hst'.lframe,hst'.newrb,fun b hb=>by
   cases e9:h b with
   |none=>rfl
   |some o=>have h3:=q.2.2 b o e9;rw[hst'.dom b hb]at h3;cases h3⟩
  show wpList P ops _ [oR] a w;obtain⟨r,hr,hr0,hvx⟩:=(Aw hs hx).map_inv;obtain⟨r',hl,hob,r5⟩:=hs.heap.obj b _ hb rfl;rw[hr]at hl;cases hl;obtain⟨r1,r2,es,clk,r3,r4,r6⟩:=id hob;obtain⟨info,dd,e1,e2,e3,e4,e5,e6⟩:=Am (hT _ _ hi);have hd1:=Kh (P:=P) (d:=dd) (e3▸hik);subst hd1;unfold wpList;rw[show Region.wanted oR (yielded ops a.tmps)=true by unfold Region.wanted;rw[hR.2.2],qK0 rfl];refine .inl ?_;unfold Oper.wp;rw[show(execOp a.eval oR).run P w=.ok (.value (.pointer (some ⟨w.heap.size,0,none⟩))) (w.alloc (.mapIter (some r.rb) clk #[] clk)) by simp[execOp,hR.1,Instr.range,hvx,As e2,q23 r3]];rw[Oper.upon_value,hR.2.1];unfold wpList
  let w1:=w.alloc (.mapIter (some r.rb) clk #[] clk)
  have hg:∀b,b<w.heap.size->w1.heap[b]?=w.heap[b]?:=fun b hlt=>heap_alloc_old w _ hlt
  have hs1:HeapRel H ι h w1:=hs.heap.grow hg;have hst1:Step H ι h w H ι h w1:=Step.grow hg (by simp[w1]) rfl rfl;have k1:=hs.put (d:=some tI) (r:=some (.val (.pointer (some ⟨w.heap.size,0,none⟩)))) (v:=.pointer (some ⟨w.heap.size,0,none⟩)) hs1 hst1 (fun x e=>by cases e;exact .val _ _ rfl) (fun t e=>by cases e;exact hlt2);have hrm':HSub (hrm h b) h:=fun x o hx=>by
   exact iZ
  have k2:Sim H ι ⟨n,Aa e tI (.val (.pointer (some ⟨w.heap.size,0,none⟩))),hrm h b⟩ (a.put (some tI) (.pointer (some ⟨w.heap.size,0,none⟩))) w1:=k1.sub ⟨rfl,fun _ _ h=>h,hrm'⟩;have k3:=k2.sub (hsub w.heap.size);have hS0:=hS w.heap.size g0;have hsb:HSub (S w.heap.size g0).h h:=fun x o hx=>hrm' x o ((hsub w.heap.size).2.2 x o hx)
  have hu1:¬EQ (S w.heap.size g0).h ι w.heap.size:=fun⟨b',o,r',h1,h2,h3,h4,h5⟩=>Nat.lt_irrefl _ (h5▸hs.heap.lt ⟨b',o,r',hsb _ _ h1,h2,h3,h4,rfl⟩)
  have hu2:¬EQ (S w.heap.size g0).h ι r.rb:=fun⟨b',o,r',h1,h2,h3,h4,h5⟩=>by
   have h6:=(hsub w.heap.size).2.2 b' o h1
   by_cases hbb:b'=b
   . subst hbb;have h6':hrm h b' b'=some o:=h6;rw[Ib]at h6';cases h6'
   . exact hs.heap.inj b' b o _ r' r (hsb _ _ h1) h2 hb rfl h3 hr h4 r2 hbb h5
  have hkeys:=(mapCells_iff.1 r4).keys;have st0:Step H0 ι0 s.h w0 H ι (S w.heap.size g0).h w1:=by
   have h1:=hst.trans hs0.heap hs.heap hst1;refine⟨h1.size,h1.os,h1.out,h1.keep,h1.kle,h1.knew,h1.lle,h1.lframe,h1.newrb,fun b hb=>?_⟩
   cases e:(S w.heap.size g0).h b with
   |none=>rfl
   |some o=>have h3:=hsb b o e;have h4:=h1.dom b hb;rw[show h b=_ from h3]at h4;cases h4
  have hleft:(leftOf es #[]).toList=es.toList:=by unfold leftOf;rw[Array.toList_filter];exact List.filter_eq_self.2 fun _ _=>by simp
  show(Code.block bid _).wp P _ _ w1;exact Vm (S:=S w.heap.size) (J:=J) (K:=K) (tN:=0) hN hX hE hY hA hlt hne (hS _) r6 hkeys.2 (hround _) (b:=b) (m:=m) (r:=r) (fun g hg=>by rw[(hS w.heap.size g).1];exact hend _ g hg) r1 r2 rfl hs0.heap (fun e=>by have h9:h b=none:=hst.dom b e;rw[hb]at h9;cases h9) hst.size (by have:=hs.heap.lt ⟨b,_,r,hb,rfl,hr,r2,rfl⟩;omega) k3 st0 ⟨heap_alloc_new w _,by rw[hg _ (hs.heap.lt ⟨b,_,r,hb,rfl,hr,r2,rfl⟩)];exact r3⟩ hu1 hu2 (by rw[hleft,hkeys.1];exact hJ) hr (hob.mono (qK1 _) (qK2 _) fun _=>hg _ (hs.heap.lt ⟨b,_,r,hb,rfl,hr,r2,rfl⟩))
 |_=>exact q.elim
theorem bK{T:Nat->Option AC}(hT:Dz P T){n:Nat}{tI dN dX bid id4 id5:Nat}{ops:Array Oper}{oR oN oX:Oper}{i:AC}
 (kp:Nat) (hops:ops.toList=ops.toList.take kp++[oR]) (hpre:AOps P ops (ops.toList.take kp) s (fun s'=>Sub ⟨n,e,h⟩ s')) (hR:oR.op=.range t x/\oR.dst=some tI/\oR.guard=none) (hx:At e x=some (.val (.map none))) (hi:T t=some i) (hik:i.k=.map kt et)
 (hN:oN.op=.next (.tmp tI) false/\oN.dst=some dN/\oN.guard=none) (hX:oX.op=.extract (.tmp dN) 0/\oX.dst=some dX/\oX.guard=none) (hlt:tI<n/\dN<n/\dX<n) (hne:e tI=none/\e dN=none/\e dX=none) (hend:Q .normal ⟨n,e,h⟩):
 AGo P (.seq (.region id4 ops false) (.block bid (.loop (.seq (.region id5 #[oN,oX] false) (.seq (.cond (.tmp dX) .skip (.exit bid)) body))))) s Q:=by
 intro H0 ι0 a0 w0 hs0;refine wp_seq (wp_region_list ?_);rw[hops];refine Jr _ _ _ (Ip (fun e' a w hp=>?_) _ _ _ (hpre H0 ι0 a0 w0 hs0));obtain⟨s',H,ι,q,hs',hst'⟩:=hp
 cases e' with
 |normal=>
  replace q:Sub ⟨n,e,h⟩ s':=q
  have hs:=hs'.sub q;have hst:Step H0 ι0 s.h w0 H ι h w:=⟨hst'.size,hst'.os,hst'.out,hst'.keep,hst'.kle,hst'.knew,hst'.lle,hst'.lframe,hst'.newrb,fun b hb=>by
   cases e9:h b with
   |none=>rfl
   |some o=>have h3:=q.2.2 b o e9;rw[hst'.dom b hb]at h3;cases h3⟩
  show wpList P ops _ [oR] a w;have hvx:=((Aw hs hx).val_inv).1;obtain⟨info,dd,e1,e2,e3,e4,e5,e6⟩:=Am (hT _ _ hi);have hd1:=Kh (P:=P) (d:=dd) (e3▸hik);subst hd1;have wN:∀(ops:Array Oper) (o:Oper) (t:Array Value),o.guard=none->Region.wanted o (yielded ops t)=true:=fun ops o t ho=>by unfold Region.wanted;rw[ho]
  unfold wpList;rw[wN _ _ _ hR.2.2,qK0 rfl];refine .inl ?_;unfold Oper.wp;rw[show(execOp a.eval oR).run P w=.ok (.value (.pointer (some ⟨w.heap.size,0,none⟩))) (w.alloc (.mapIter none 0 #[] 0)) by simp[execOp,hR.1,Instr.range,hvx,As e2]];rw[Oper.upon_value,hR.2.1];unfold wpList
  let w1:=w.alloc (.mapIter none 0 #[] 0)
  have hg:∀b,b<w.heap.size->w1.heap[b]?=w.heap[b]?:=fun b hlt=>heap_alloc_old w _ hlt
  have hs1:HeapRel H ι h w1:=hs.heap.grow hg;have hst1:Step H ι h w H ι h w1:=Step.grow hg (by simp[w1]) rfl rfl;have drop:∀{a':Act} {dd:Nat} {v:Value},Sim H ι ⟨n,e,h⟩ a' w1->e dd=none->dd<n->Sim H ι ⟨n,e,h⟩ (a'.put (some dd) v) w1:=fun {a' dd v} k1 k2 k3=>by
   have k4:=k1.put (d:=some dd) (r:=none) (v:=v) k1.heap (qK3 _ _ _ _) (fun x e=>by cases e) (fun t e=>by cases e;exact k3);have e1:(⟨n,JS e (some dd) none,h⟩:Ar)=⟨n,e,h⟩:=by
    show(⟨n,Te e dd,h⟩:Ar)=_;rw[Lt k2]
   rwa[e1]at k4
  have k1:Sim H ι ⟨n,e,h⟩ a w1:=⟨hs.n,hs.d,hs.env,hs1⟩;have k2:=drop (v:=.pointer (some ⟨w.heap.size,0,none⟩)) k1 hne.1 hlt.1;show(Code.block bid _).wp P _ _ w1;refine wp_block (wp_loop_once ?_);have hsz:a.tmps.size=n:=hs.n
  let a1:=a.put (some tI) (.pointer (some ⟨w.heap.size,0,none⟩))
  have hsz1:a1.tmps.size=n:=by rw[<-hsz];simp[a1,Act.put]
  have hI:a1.eval (.tmp tI)=.pointer (some ⟨w.heap.size,0,none⟩):=Gu (by rw[hsz];exact hlt.1);have hit:w1.heap[w.heap.size]?=some (.mapIter none 0 #[] 0):=heap_alloc_new w _;have hgo:(getObj w.heap.size).run P w1=.ok (.mapIter none 0 #[] 0) w1:=by simp[getObj,Sem.run,hit]
  refine wp_seq (wp_region_list ?_);unfold wpList;rw[wN _ _ _ hN.2.2,qK0 rfl];refine .inl ?_;unfold Oper.wp;rw[show(execOp a1.eval oN).run P w1=.ok (.value (.tuple #[.bool false])) w1 by simp[execOp,hN.1,hI,Instr.next,hgo]];show wpList P _ _ [oX] (a1.put oN.dst _) w1;rw[hN.2.1];unfold wpList;rw[wN _ _ _ hX.2.2,qK0 rfl];refine .inl ?_;unfold Oper.wp;rw[show(execOp (a1.put (some dN) (.tuple #[.bool false])).eval oX).run P w1=.ok (.value (.bool false)) w1 by simp[execOp,hX.1,Gu (a:=a1) (d:=dN) (v:=.tuple #[.bool false]) (by rw[hsz1];exact hlt.2.1),Instr.extract]];rw[Oper.upon_value,hX.2.1];unfold wpList;show(Code.seq _ _).wp P _ _ w1;refine wp_seq (wp_cond_false (Gu (by simp[Act.put,hsz1];exact hlt.2.2)) (wp_exit ?_));show Exit.inBlock bid _ (.exit bid) _ w1;simp only[Exit.inBlock,qZ8];exact⟨_,H,ι,hend,drop (v:=.bool false) (drop (v:=.tuple #[.bool false]) k2 hne.2.1 hlt.2.1) hne.2.2 hlt.2.2,hst.trans hs0.heap hs.heap hst1⟩
 |_=>exact q.elim
variable {T : Nat -> Option AC} {o : Oper}
theorem Xx(hT:Dz P T){t':TypeId}{p:AV}{i:AC}{r:Bool}(hr:p=.val (.map none)/\r=true\/(∃b,p=.map b)/\r=false)(hi:T t=some i)(hik:i.k=.map kt et)(ho:o.op=.binOp .eql t x (.const (.map none)) t':=by exact rfl)(hx:At e x=some p:=by exact rfl):QLoc P o e h [] (.bool r):=by
 intro H ι a w s hs g1 g2;have hx':At s.env x=some p:=by rw[g1 x BY,hx]
 obtain⟨info,dd,e1,e2,e3,e4,e5,e6⟩:=Am (hT _ _ hi);have hd1:=Kh (P:=P) (d:=dd) (e3▸hik);subst hd1;have hn:a.eval (.const (.map none))=.map none:=rfl;refine⟨.bool r,.bool _ _,?_⟩;rcases hr with⟨rfl,rfl⟩|⟨⟨b,rfl⟩,rfl⟩
 . have hv:a.eval x=.map none:=((Aw hs hx').val_inv).1;have he:(Op.equalIn 10000 t (.map none) (.map none)).run P w=.ok true w:=by
    rw[Op.equalIn];simp[As e2]
   exact sl
 . obtain⟨q,hq,hq0,hv⟩:=(Aw hs hx').map_inv;have he:(Op.equalIn 10000 t (.map (some q.rb)) (.map none)).run P w=.ok false w:=by
    rw[Op.equalIn];simp[As e2]
   exact sl
def H9(l:List Int):List (List AV):=l.map fun n=>[AV.int .i64 n]
theorem H8(l:List Int):(H9 l).length=l.length:=by simp[H9]
variable {z : Int}
theorem Ny(h:0<=z/\z<l.length):(H9 l)[0+z.toNat]?=some [AV.int .i64 (Ai l z)]:=by
 grind[Ad,H9,Ai]
theorem Ls(l:List Int)(z v:Int):(H9 l).set (0+z.toNat) [AV.int .i64 v]=H9 (A4 l z v):=by
 rw[qQ8,H9,H9,A4,List.map_set]
def PO:Option Nat->List AV
  |none=>[.val (.map none)]
  |some j=>[.map (j+16)]
theorem KF{o:Option Nat}(h:to[a]?=some o):(to.map PO)[0+((a:Nat):Int).toNat]?=some (PO o):=by
 grind
theorem R6(to:List (Option Nat))(a:Nat)(o:Option Nat):(to.map PO).set (0+((a:Nat):Int).toNat) (PO o)=(to.set a o).map PO:=by
 (simp_all;done)
def Mr(maps:List (List Int))(i:Nat):AObj:=match maps[i]? with
  |some ks=>.map (kvs .i64 (WM ks))
  |none=>.free
variable {j : Nat}
theorem JR{ks:List Int}(h:maps[j]?=some ks):Mr maps j=.map (kvs .i64 (WM ks)):=by unfold Mr;rw[h]
theorem gT:Mr maps maps.length=.free:=by unfold Mr;rw[q26 (qZ0 _)]
def FH(h:Aj)(R:Nat)(fr:List Int)(to:List (Option Nat))(maps:List (List Int)):Aj:=fun x=>
  bif Nat.ble 16 x then some (Mr maps (x-16))else bif Nat.beq x 2 then some (.row false 2 [[.ref 3 R 0 R,.ref 4 R 0 R]])else bif Nat.beq x 3 then some (.row true 1 (H9 fr))else bif Nat.beq x 4 then some (.row false 1 (to.map PO))else h x
theorem KT(j:Nat):FH h R fr to maps (j+16)=some (Mr maps j):=by
 unfold FH;rw[show Nat.ble 16 (j+16)=true by rw[qZ5];omega,show j+16-16=j by omega];rfl
variable {x : Nat}
theorem wo(hx:x<16):Nat.ble 16 x=false:=by
 cases e:Nat.ble 16 x with
 |false=>rfl
 |true=>rw[qZ5]at e;omega
theorem Y4(hx:x<16):FH h R fr to maps x=bif Nat.beq x 2 then some (.row false 2 [[.ref 3 R 0 R,.ref 4 R 0 R]])else bif Nat.beq x 3 then some (.row true 1 (H9 fr))else bif Nat.beq x 4 then some (.row false 1 (to.map PO))else h x:=by
 grind[FH,wo,H9,PO]
theorem Qc(fr':List Int):Af (FH h R fr to maps) 3 (.row true 1 (H9 fr'))=FH h R fr' to maps:=by
 funext x
 by_cases hx:x=3
 . subst hx;rw[AB];rfl
 grind[Bd,Y4,KT,Af,FH,H9]
theorem ul(to':List (Option Nat)):Af (FH h R fr to maps) 4 (.row false 1 (to'.map PO))=FH h R fr to' maps:=by
 funext x
 by_cases hx:x=4
 . subst hx;rw[AB];rfl
 grind[Bd,Y4,KT,Af,FH,PO]
theorem oC{o:AObj}{maps':List (List Int)}(hj:Mr maps' j=o)(ho:∀i,i≠j->Mr maps' i=Mr maps i):Af (FH h R fr to maps) (j+16) o=FH h R fr to maps':=by
 grind[AB,KT,Bd,Y4,Mr,Af,FH]
theorem bH(ks:List Int)(hj:j<maps.length):Af (FH h R fr to maps) (j+16) (.map (kvs .i64 (WM ks)))=FH h R fr to (maps.set j ks):=
 oC (JR (by rw[q21 hj])) fun i hi=>by unfold Mr;rw[q36 (Ne.symm hi)]
theorem wE(ks:List Int):Af (FH h R fr to maps) (maps.length+16) (.map (kvs .i64 (WM ks)))=FH h R fr to (maps++[ks]):=
 oC (JR (by rw[q02 (qZ0 _)];simp)) fun i hi=>by
  grind[Mr,List.getElem?_append_left,List.getElem?_eq_none,Af,FH,kvs,WM]
theorem OG:∀(l:List Tac) (fr:List Int) (t:Tac),D1 fr (l++[t])=((D1 fr l).1++[subT (D1 fr l).2 t],DZ (D1 fr l).2 (subT (D1 fr l).2 t))
 | [],fr,t=>rfl
 |u::l,fr,t=>by
  show(subT fr u::(D1 (DZ fr (subT fr u)) (l++[t])).1,(D1 (DZ fr (subT fr u)) (l++[t])).2)=_;rw[OG l];rfl
theorem Ic:∀(l:List Tac) (fr:List Int),(D1 fr l).1.length=l.length
 | [],fr=>rfl
 |u::l,fr=>by
  show(D1 (DZ fr (subT fr u)) l).1.length+1=l.length+1;rw[Ic l]
structure bE(R:Nat)(t:Tac):Prop where
  u1:use1 t.op=true->0<=t.a/\t.a<R
  u2:use2 t.op=true->(0<=t.a/\t.a<R)/\0<=t.b/\t.b<R
  d:setsOp t.op=true->0<=t.d/\t.d<R
theorem Vx(fr:List Int)(t:Tac):(subT fr t).op=t.op/\(subT fr t).d=t.d/\(subT fr t).sets=t.sets:=by
 grind[subT,Tac.sets,use1,use2]
structure FwS(R:Nat)(l:List Tac)(i:Nat)(fr:List Int)(to:List (Option Nat))(maps:List (List Int)):Prop where
  le:i<=l.length
  pre:(D1 (LV R) (l.take i)).2=fr
  inv:FwI R fr to maps
def EC(R:Nat)(l:List Tac)(i:Nat):List (List AV):=(D1 (LV R) (l.take i)).1.map Tac.cells++List.replicate (l.length-i) [.int .i64 0,.int .i64 0,.int .i64 0,.int .i64 0,.int .i64 0,.int .i64 0,.int .i64 0,.int .u32 0]
variable {l : List Tac}
theorem Lu{i:Nat}(hi:i<=l.length):(EC R l i).length=l.length:=by
 grind[EC,List.length_append,List.length_map,Ic,List.length_replicate]
theorem bj(R:Nat)(l:List Tac):EC R l 0=List.replicate l.length [.int .i64 0,.int .i64 0,.int .i64 0,.int .i64 0,.int .i64 0,.int .i64 0,.int .i64 0,.int .u32 0]:=by
 grind[EC,D1]
theorem gZ(R:Nat)(l:List Tac):EC R l l.length=(D1 (LV R) l).1.map Tac.cells:=by
 unfold EC;simp
variable {t : Tac}
theorem bk{i:Nat}(hx:l[i]?=some t):(EC R l i).set (0+((i:Nat):Int).toNat) (subT (D1 (LV R) (l.take i)).2 t).cells=EC R l (i+1):=by
 have hi:i<l.length:=(q05.1 hx).1;rw[qQ8,show((i:Nat):Int).toNat=i from rfl];unfold EC;rw[q59,hx,Option.toList_some,OG];dsimp only;rw[q77,List.set_append_right _ _ (by rw[q76,Ic,q69];omega),q76,Ic,q69,show i-min i l.length=0 by omega,show l.length-i=(l.length-(i+1))+1 by omega,List.replicate_succ,List.set_cons_zero]
 simp
theorem NX{i:Nat}(hx:l[i]?=some t):(D1 (LV R) (l.take (i+1))).2=DZ (D1 (LV R) (l.take i)).2 (subT (D1 (LV R) (l.take i)).2 t):=by
 rw[q59,hx,Option.toList_some,OG]
def k6:Nat->Bool:=fun b=> !Nat.beq b 6
def WB(b:Block)(o5 o6:AObj):Aj:=Af (Af (Af (Af hNone 0 (.row false 5 [b.cells])) 1 (.row false 5 [[.nil,.int .i64 0,.int .i64 0,.int .i64 0,.int .i64 0]])) 5 o5) 6 o6
theorem Abm(x:Nat):k6 (x+16)=true:=by
 unfold k6
 cases e:Nat.beq (x+16) 6 with
 |false=>rfl
 |true=>have:=q25 e;omega
variable {b : Block} {o5 o6 : AObj}
theorem dU(h0:x≠0)(h1:x≠1)(h5:x≠5)(h6:x≠6):WB b o5 o6 x=none:=by
 unfold WB;rw[Bd _ _ h6,Bd _ _ h5,Bd _ _ h1,Bd _ _ h0];rfl
theorem OY(h0:h 0=some (.row false 5 [b.cells]))(h1:h 1=some (.row false 5 [[.nil,.int .i64 0,.int .i64 0,.int .i64 0,.int .i64 0]]))(h2:h 2=some (.row false 2 [[.ref 3 R 0 R,.ref 4 R 0 R]]))
 (h3:h 3=some (.row true 1 (H9 fr))) (h4:h 4=some (.row false 1 (to.map PO))) (h5:h 5=some o5) (h6:h 6=some o6) (hf:∀j,h (j+16)=some (Mr maps j)):HSub (FH (WB b o5 o6) R fr to maps) h:=fun x o hx=>by
 by_cases h16:x<16
 . rw[Y4 h16]at hx
   by_cases e2:x=2
   . (simp_all;done)
   by_cases e3:x=3
   . subst e3;rw[h3];exact hx
   by_cases e4:x=4
   . subst e4;rw[h4];exact hx
   have n2:∀{y:Nat},x≠y->Nat.beq x y=false:=fun {y} hy=>by
    exact ru
   rw[n2 e2,n2 e3,n2 e4]at hx
   replace hx:WB b o5 o6 x=some o:=hx
   by_cases e0:x=0
   . subst e0;rw[h0];exact hx
   by_cases e1:x=1
   . subst e1;rw[h1];exact hx
   by_cases e5:x=5
   . subst e5;rw[h5];exact hx
   by_cases e6:x=6
   . subst e6;rw[h6];exact hx
   rw[dU e0 e1 e5 e6]at hx;cases hx
 . obtain⟨j,rfl⟩:∃j,x=j+16:=⟨x-16,by omega⟩
   rw[KT]at hx;rw[hf,<-hx]
theorem eT(to:List (Option Nat)):(AObj.row false 1 (to.map PO)).avoid k6=true:=by
 show((to.map PO).all fun cs=>cs.all (AV.avoid k6))=true;rw[List.all_map,q67];intro o _
 cases o with
 |none=>rfl
 |some j=>show([AV.map (j+16)].all (AV.avoid k6))=true;simp[AV.avoid,AV.flat,Abm]
theorem WI{o6:AObj}(hb:(AObj.row false 5 [b.cells]).avoid k6=true)(h0:h 0=some (.row false 5 [b.cells]))(h1:h 1=some (.row false 5 [[.nil,.int .i64 0,.int .i64 0,.int .i64 0,.int .i64 0]]))(h2:h 2=some (.row false 2 [[.ref 3 R 0 R,.ref 4 R 0 R]]))
 (h3:h 3=some (.row true 1 (H9 fr))) (h4:h 4=some (.row false 1 (to.map PO))) (h5:h 5=some o5) (ha5:o5.avoid k6=true) (hf:∀j,h (j+16)=some (Mr maps j)):SQ k6 (FH (WB b o5 .free) R fr to maps) h:=fun x o hx=>by
 by_cases e6:x=6
 . subst e6;right;have:some AObj.free=some o:=hx;cases this;exact⟨rfl,rfl⟩
 left;have hx2:h x=some o:=OY (h:=Af h 6 .free) (b:=b) (o5:=o5) (o6:=.free) (R:=R) (fr:=fr) (to:=to) (maps:=maps) h0 h1 h2 h3 h4 h5 (AB _ _ _) (fun j=>(Bd _ _ Ab).trans (hf j)) x o hx|>.symm.trans (Bd _ _ e6)|>.symm;refine⟨hx2,fun _=>⟨by unfold k6;cases e:Nat.beq x 6 with|false=>rfl|true=>exact absurd (q25 e) e6,?_⟩⟩
 by_cases h16:x<16
 . rw[Y4 h16]at hx
   by_cases e2:x=2
   . subst e2;have:some (AObj.row false 2 [[.ref 3 R 0 R,.ref 4 R 0 R]])=some o:=hx;cases this;rfl
   by_cases e3:x=3
   . subst e3;have:some (AObj.row true 1 (H9 fr))=some o:=hx;cases this;rfl
   by_cases e4:x=4
   . subst e4;have:some (AObj.row false 1 (to.map PO))=some o:=hx;cases this;exact eT to
   have n2:∀{y:Nat},x≠y->Nat.beq x y=false:=fun {y} hy=>by
    exact ru
   rw[n2 e2,n2 e3,n2 e4]at hx
   replace hx:WB b o5 .free x=some o:=hx
   by_cases e0:x=0
   . subst e0;have:some (AObj.row false 5 [b.cells])=some o:=hx;cases this;exact hb
   by_cases e1:x=1
   . subst e1;have:some (AObj.row false 5 [[.nil,.int .i64 0,.int .i64 0,.int .i64 0,.int .i64 0]])=some o:=hx;cases this;rfl
   by_cases e5:x=5
   . subst e5;have:some o5=some o:=hx;cases this;exact ha5
   rw[dU e0 e1 e5 e6]at hx;cases hx
 . obtain⟨j,rfl⟩:∃j,x=j+16:=⟨x-16,by omega⟩
   rw[KT]at hx
   cases hx
   unfold Mr
   cases maps[j]?<;>rfl
variable {call : Int -> Mach -> Mach} {s : ByteArray} {fuel : Int}
def dr(K:Di)(regs:List Int):Prop:=∀z v,pget z K=some v->0<=z/\Ai regs z=v
variable {l : List Int}
theorem Ff{y v:Int}(hz:0<=z)(hy:0<=y)(h:y≠z):Ai (A4 l z v) y=Ai l y:=by
 grind[Ai,A4]
theorem Jw{v:Int}(hz:0<=z/\z<l.length):Ai (A4 l z v) z=v:=by
 grind[Ai,A4]
theorem aH(d n:Int)(regs:List Int)(m:Mach):Bb call s (KD d n) regs m=(A4 regs d n,m):=mx rfl
variable {K : Di} {regs : List Int}
theorem aI(hk:dr K regs)(t:Tac)(m:Mach):Bb call s (Dm K t) regs m=Bb call s t regs m:=by
 cases hv:(Dw t K).2 with
 |false=>simp only[Dm,hv,qZ3]
 |true=>
  have e:Dm K t=KD t.d (Dw t K).1:=by simp only[Dm,hv,qZ7]
  rw[e,aH];unfold Dw at hv|-
  cases e2:t.op==2 with
  |true=>
   rw[e2]at hv;simp only[qZ7]at hv|-;obtain⟨v,hv⟩:=Option.isSome_iff_exists.1 hv;rw[ua (by simpa using e2),(hk _ _ hv).2,hv];rfl
  |false=>
   cases e3:t.op==3 with
   |false=>rw[e2,e3]at hv;simp at hv
   |true=>
    rw[e2,e3]at hv;simp only[qZ7,qZ3]at hv|-
    cases ea:pget t.a K with
    |none=>rw[ea]at hv;simp at hv
    |some va=>
     cases eb:pget t.b K with
     |none=>rw[eb]at hv;simp at hv
     |some vb=>
      rw[ea,eb]at hv;simp only[Option.isSome_some,qQ4,qZ7,q72]at hv|-;have h1:=(hk _ _ ea).2;have h2:=(hk _ _ eb).2;rw[t9 (by simpa using e3) (by rw[h1,h2];simpa using hv),h1,h2]
theorem Ov(u:Tac)(regs:List Int)(m:Mach):(Bb call s u regs m).1=regs\/setsOp u.op=true/\∃v,(Bb call s u regs m).1=A4 regs u.d v:=by
 unfold Bb setsOp
 cases u.op==1 with
 |true=>exact .inr ⟨rfl,_,rfl⟩
 |false=>
 cases u.op==2 with
 |true=>exact .inr ⟨rfl,_,rfl⟩
 |false=>
 cases u.op==3 with
 |true=>
  simp only[qZ7,qZ3]
  cases (Cp u.k (Ai regs u.a) (Ai regs u.b)).2==0 with
  |true=>exact .inr ⟨rfl,_,rfl⟩
  |false=>exact .inl rfl
 |false=>
 cases u.op==4 with
 |true=>exact .inr ⟨rfl,_,rfl⟩
 |false=>
 cases u.op==5 with
 |true=>exact .inl rfl
 |false=>
 cases h6:u.op==6 with
 |true=>
  simp only[qZ7,qZ3]
  cases decide (Ai regs u.a>=u.size)with
  |true=>exact .inl rfl
  |false=>exact .inr ⟨rfl,_,rfl⟩
 |false=>
 cases u.op==7 with
 |true=>
  simp only[qZ7,qZ3]
  cases decide (Ai regs u.a>=u.size)<;>exact .inl rfl
 |false=>
 cases u.op==8 with
 |true=>
  simp only[qZ7,qZ3]
  cases decide (m.read<s.size)<;>exact .inr ⟨rfl,_,rfl⟩
 |false=>
 cases u.op==9 with
 |true=>
  simp only[qZ7,qZ3]
  cases decide (m.out.length>=65536)<;>exact .inl rfl
 |false=>
 cases u.op==10<;>exact .inl rfl
theorem aO(hk:dr K regs)(hu:GC K){u:Tac}(hd:setsOp u.op=true->0<=u.d/\u.d<regs.length)(m:Mach):dr (Hv K u) (Bb call s u regs m).1:=by
 unfold Hv
 cases hs:decide (u.sets<0)with
 |true=>
  have hso:setsOp u.op=false:=by
   cases e:setsOp u.op with
   |false=>rfl
   |true=>
    have:=hd e;simp[Tac.sets,e]at hs;omega
  rcases Ov (call:=call) (s:=s) u regs m with h|⟨h,_⟩
  . rw[h];exact hk
  . rw[hso]at h;cases h
 |false=>
  have hso:setsOp u.op=true:=by
   cases e:setsOp u.op with
   |true=>rfl
   |false=>simp[Tac.sets,e]at hs
  have hsd:u.sets=u.d:=by simp[Tac.sets,hso]
  obtain⟨d1,d2⟩:=hd hso;simp only[qZ3];rw[hsd]
  cases h1:u.op==1 with
  |true=>
   rw[mx JX];intro z v hz;simp only[qZ7]at hz;rw[Og]at hz
   cases e:z==u.d with
   |true=>
    rw[e]at hz;have hzd:z=u.d:=by simpa using e
    subst hzd;simp only[qZ7,q53]at hz;subst hz;exact⟨d1,Jw ⟨d1,d2⟩⟩
   |false=>
    rw[e]at hz;obtain⟨g1,g2⟩:=hk z v hz;exact⟨g1,by rw[Ff d1 g1 Mz];exact g2⟩
  |false=>
   intro z v hz;simp only[qZ3]at hz;rw[Oh _ _ hu]at hz
   cases e:z==u.d with
   |true=>rw[e]at hz;simp at hz
   |false=>
    rw[e]at hz;obtain⟨g1,g2⟩:=hk z v hz;refine⟨g1,?_⟩;rcases Ov (call:=call) (s:=s) u regs m with h|⟨_,w,h⟩
    . rw[h];exact g2
    . rw[h,Ff d1 g1 Mz];exact g2
theorem dG(K:Di)(t:Tac):(Dm K t).d=t.d:=by
 unfold Dm;cases (Dw t K).2<;>rfl
theorem JO(h:setsOp (Dm K t).op=true):setsOp t.op=true:=by
 unfold Dm at h
 cases hv:(Dw t K).2 with
 |false=>rw[hv]at h;exact h
 |true=>
  unfold Dw at hv
  cases e2:t.op==2 with
  |true=>simp[setsOp,e2]
  |false=>
   cases e3:t.op==3 with
   |true=>simp[setsOp,e3]
   |false=>rw[e2,e3]at hv;simp at hv
theorem Ry(u:Tac)(regs:List Int)(m:Mach):(Bb call s u regs m).1.length=regs.length:=by
 rcases Ov (call:=call) (s:=s) u regs m with h|⟨_,v,h⟩
 . rw[h]
 . rw[h,B3]
variable {f regs words : Int}
theorem bd(h:t.fits f regs words=true):setsOp t.op=true->A2 t.d regs=true:=by
 grind[Tac.fits,setsOp,A2]
theorem aN{d n:Int}(h:A2 d regs=true):(KD d n).fits f regs words=true:=by
 have e:(KD d n).want=KD d n:=rfl
 grind[KD,Tac.same_iff,Tac.fits,Tac.uses,use1,use2,Tac.rest,GP,EP,A2]
theorem aX(h:t.fits f regs words=true):(Dm K t).fits f regs words=true:=by
 cases hv:(Dw t K).2 with
 |false=>simp only[Dm,hv,qZ3];exact h
 |true=>
  have e:Dm K t=KD t.d (Dw t K).1:=by simp only[Dm,hv,qZ7]
  have hs:setsOp t.op=true:=JO (K:=K) (by rw[e];rfl);rw[e];exact aN (bd h hs)
theorem Nv{f regs words:Int}:∀(l:List Tac) (K:Di),(∀t∈l,t.fits f regs words=true)->∀t∈D4 K l,t.fits f regs words=true
 | [],_,_,t,ht=>by cases ht
 |u::r,K,h,t,ht=>by
  simp only[D4,q99]at ht;rcases ht with rfl|ht
  . exact aX (h u Aq)
  . exact Nv r _ (fun v hv=>h v (by simp[hv])) t ht
variable {f : BFunc} {w : Int}
theorem XP{n:Int}(h:f.one n w=true):f.fold.one n w=true:=by
 obtain⟨h1,h2,h3,h4⟩:=CR h;have hb:f.fold.blocks.length≠0:=by
  grind[BFunc.fold,List.length_map]
 rw[Iw (f:=f.fold) h1 h2 hb];rw[q67];intro x hx;simp only[BFunc.fold,qX3]at hx;obtain⟨y,hy,rfl⟩:=hx;have hl:f.fold.blocks.length=f.blocks.length:=by simp[BFunc.fold]
 simp only[Block.ok,q66,q67];refine⟨?_,Nv y.ins [] (h4 y hy).2⟩;rw[hl];exact(h4 y hy).1
theorem p9{i:Int}(h1:0<=f.regs)(h2:f.regs<=4000)(h3:f.blocks≠[])(h4:∀x∈f.blocks,x.ends f.blocks.length f.regs=true/\∀t∈x.ins,t.fits i f.regs w=true):f.one i w=true:=by
 grind[BFunc.one,List.all_eq_true,Block.ok]
theorem want_same3:t.same t.want=true↔t.want=t:=by
 grind[Tac.same_iff]
structure NL(R:Nat)(fr:List Int):Prop where
  len:fr.length=R
  ran:∀v:Int,0<=v->v<R->0<=Ai fr v/\Ai fr v<R
theorem VQ(R:Nat):NL R (LV R):=⟨dA R,fun v h0 h1=>by
 obtain⟨u,rfl⟩:∃u:Nat,v=u:=⟨v.toNat,by omega⟩
 rw[JK Ab];omega⟩
theorem Q4(h:NL R fr)(d:Int):NL R (CX d fr):=⟨by rw[DU,h.len],fun v h0 h1=>by
 obtain⟨u,rfl⟩:∃u:Nat,v=u:=⟨v.toNat,by omega⟩
 rw[DV (by rw[h.len];omega)]
 cases ((u:Int)==d||Ai fr u==d)with
 |true=>exact⟨h0,h1⟩
 |false=>exact h.ran u h0 h1⟩
theorem lc(h:NL R fr){d a:Int}(hd:0<=d/\d<R)(ha:0<=a/\a<R):NL R (A4 fr d a):=⟨by rw[Ea,h.len],fun v h0 h1=>by
 obtain⟨u,rfl⟩:∃u:Nat,v=u:=⟨v.toNat,by omega⟩
 obtain⟨e,rfl⟩:∃e:Nat,d=e:=⟨d.toNat,by omega⟩
 rw[FQ (by rw[h.len];omega)];split
 . exact ha
 . exact h.ran u h0 h1⟩
theorem Vw{n:Int}(hr:NL R fr)(h:t.fits n R w=true):(subT fr t).fits n R w=true:=by
 simp only[Tac.fits,q66]at h;obtain⟨h1,h2,h3,h4,h5,h6⟩:=h;have hw:=want_same3.1 h6;have e12:=O9 t.op;unfold subT
 cases e1:use1 t.op with
 |true=>
  rw[e1,qQ5]at e12;have h4':A2 t.a R=true:=by rw[Tac.uses,e1]at h4;simpa using h4
  simp only[A2,q66,q56]at h4';simp only[qZ7,Tac.fits,q66];refine⟨h1,h2,h3,?_,h5,want_same3.2 ?_⟩
  . show(Tac.uses _).all _=true;simp only[Tac.uses,e1,qZ7,qQ1,qX7,qQ4,A2,q66,q56];exact hr.ran _ h4'.1 h4'.2
  . have q:=congrArg Tac.b hw
    cases t
    simp only[Tac.want,e1,e12,Bool.true_or,qZ7,qZ3,Tac.mk.injEq]at hw|-;exact hw
 |false=>
  cases e2:use2 t.op with
  |true=>
   have h4':A2 t.a R=true/\A2 t.b R=true:=by rw[Tac.uses,e1,e2]at h4;simpa using h4
   simp only[A2,q66,q56]at h4';simp only[qZ7,qZ3,Tac.fits,q66];refine⟨h1,h2,h3,?_,h5,want_same3.2 ?_⟩
   . show(Tac.uses _).all _=true;simp only[Tac.uses,e1,e2,qZ7,qZ3,qQ1,qX7,qQ4,A2,q66,q56];exact⟨hr.ran _ h4'.1.1 h4'.1.2,hr.ran _ h4'.2.1 h4'.2.2⟩
   . cases t
     simp only[Tac.want,e1,e2,qX6,qZ7,qZ3,Tac.mk.injEq]at hw|-;exact hw
  |false=>
   simp only[qZ3,Tac.fits,q66];exact⟨h1,h2,h3,h4,h5,h6⟩
theorem HK{n:Int}(h:t.fits n R w=true):bE R t:=by
 simp only[Tac.fits,q66,q81,q61]at h;obtain⟨h1,h2,h3,h4,h5,h6⟩:=h;refine⟨fun e=>?_,fun e=>?_,fun e=>?_⟩
 . rw[Tac.uses,e]at h4;simpa[A2]using h4
 . have e1:use1 t.op=false:=by have:=O9 t.op;rw[e,qQ4]at this;exact this
   rw[Tac.uses,e1,e]at h4;simpa[A2]using h4
 . rw[e]at h3;rcases h3 with h3|h3
   . cases h3
   . simpa[A2]using h3
theorem Oa{n:Int}(hr:NL R fr)(h:t.fits n R w=true):NL R (DZ fr t):=by
 have hT:=HK h;unfold DZ
 cases e:decide (t.sets>=0)with
 |false=>exact hr
 |true=>
  have hs:=Gc e;have hd:t.sets=t.d:=by unfold Tac.sets;rw[hs];rfl
  cases e2:(t.op==2&&t.a !=t.sets)with
  |false=>exact Q4 hr _
  |true=>
   simp only[q66,qZ4]at e2;refine lc (Q4 hr _) (by rw[hd];exact hT.d hs) (hT.u1 (by rw[e2.1];rfl))
theorem UW{n w:Int}{R:Nat}:∀(l:List Tac) (fr:List Int),NL R fr->(∀t∈l,t.fits n R w=true)->(∀t∈(D1 fr l).1,t.fits n R w=true)/\NL R (D1 fr l).2
 | [],fr,hr,h=>⟨fun t ht=>(by cases ht),hr⟩
 |u::l,fr,hr,h=>by
  have hu:=Vw hr (h u Aq);have ih:=UW l (DZ fr (subT fr u)) (Oa hr hu) fun t ht=>h t (by simp[ht])
  grind[D1]
theorem Po{n:Int}(h:f.one n w=true):f.forward.one n w=true:=by
 obtain⟨h1,h2,h3,h4⟩:=CR h;obtain⟨R,hR⟩:∃R:Nat,f.regs=(R:Int):=⟨f.regs.toNat,by omega⟩
 refine p9 (f:=f.forward) h1 h2 (fun e=>h3 (List.map_eq_nil_iff.1 e)) fun x hx=>?_
 obtain⟨y,hy,rfl⟩:=qX3.1 hx;obtain⟨g1,g2⟩:=h4 y hy;show(y.forward _).ends (f.blocks.map _).length f.regs=true/\∀t∈(y.forward _).ins,t.fits n f.regs w=true
 rw[q76];rw[hR]at g1 g2|-;have hf:=UW (n:=n) (w:=w) y.ins (LV R) (VQ R) g2;refine⟨?_,hf.1⟩;have g1':=g1;unfold Block.ends at g1|-;show(bif y.fin==1 then A2 y.to f.blocks.length&&((Block.forward _ y).v==0&&y.els==0)else bif y.fin==2 then A2 y.to f.blocks.length&&(A2 y.els f.blocks.length&&A2 (Block.forward _ y).v R)else y.fin==3&&((Block.forward _ y).v==0&&(y.to==0&&y.els==0)))=true
 cases e2:y.fin==2 with
 |false=>
  have hv:(Block.forward R y).v=y.v:=by unfold Block.forward;rw[e2];rfl
  rw[show((R:Int)).toNat=R from rfl,hv,<-e2];exact g1
 |true=>
  have e3:y.fin=2:=by simpa using e2
  have hv:(Block.forward R y).v=Ai (D1 (LV R) y.ins).2 y.v:=by unfold Block.forward;rw[e2];rfl
  rw[e3]at g1|-;rw[show((R:Int)).toNat=R from rfl,hv];simp[A2]at g1|-;exact⟨g1.1,g1.2.1,hf.2.ran _ g1.2.2.1 g1.2.2.2⟩
theorem gD(R:Nat)(x:Block):(x.forward R).count=x.count:=by
 show 1+(D1 (LV R) x.ins).1.length=1+x.ins.length;rw[Ic]
theorem Td(f:BFunc):f.forward.count=f.count:=by
 show((f.blocks.map _).map Block.count).sum=_;rw[List.map_map];exact congrArg List.sum (q42 fun x _=>gD _ x)
theorem vj(fr:List Int)(t:Tac):(subT fr t).n=t.n:=by
 grind[subT,use1,use2]
theorem UV:∀(l:List Tac) (fr:List Int),GL l->GL (D1 fr l).1
 | [],fr,h=>h
 |u::l,fr,h=>fun t ht=>by
  rcases q99.1 ht with rfl|ht
  . grind[vj,GL,D1]
  . exact UV l _ (fun t ht=>h t (by simp[ht])) t ht
def isBeen(l:List Bool)(k:Int):Prop:=0<=k/\l[k.toNat]?=some true
structure Y6(next:List (List Int))(s:DS):Prop where
  seen:∀p∈s.way,∀(j:Nat) (t:Int),(j:Int)<p.2->(Cl next p.1)[j]?=some t->isBeen s.been t
  all:∀k,isBeen s.been k->(∀t∈Cl next k,isBeen s.been t)\/∃i,(k,i)∈s.way
variable {b k : Int} {s : DS}
theorem JU(h:isBeen s.been k):isBeen (Cu b s).been k:=by
 grind[Cu,notBeen,FV,isBeen]
theorem Sm(h:0<=b/\b<s.been.length):isBeen (Cu b s).been b:=by
 grind[Cu,notBeen,Ad,isBeen]
variable {next : List (List Int)}
theorem g9(h:Y6 next s):Y6 next (Cu b s):=by
 refine⟨fun p hp j t hj ht=>?_,fun k hk=>?_⟩
 . have hp':p∈s.way\/p=(b,0):=by
    grind[Cu,notBeen]
   rcases hp' with hp'|rfl
   . exact JU (h.seen p hp' j t hj ht)
   . simp only at hj;omega
 . by_cases hold:isBeen s.been k
   . rcases h.all k hold with h1|⟨i,h1⟩
     . exact .inl fun t ht=>JU (h1 t ht)
     . refine .inr ⟨i,?_⟩;unfold Cu
       cases notBeen s.been b with
       |false=>exact h1
       |true=>simp only[qZ7];exact List.mem_append_left _ h1
   . right;unfold Cu at hk|-
     cases e:notBeen s.been b with
     |false=>rw[e]at hk;exact absurd hk hold
     |true=>
      rw[e]at hk;simp only[qZ7]at hk|-;obtain⟨k1,k2⟩:=hk;obtain⟨h1,h2,h3⟩:=FV e;rw[q60]at k2
      by_cases hh:b.toNat=k.toNat
      . have:k=b:=by omega
        subst this;exact⟨0,by simp⟩
      . rw[qZ9 hh]at k2;exact absurd ⟨k1,k2⟩ hold
theorem gY(hok:s.ok next)(hlead:∀l∈next,∀t∈l,0<=t/\t<next.length)(h:Y6 next s):Y6 next (Ha next s):=by
 unfold Ha;split
 . exact h
 . rename_i b i e;have hw:=IW e;have hmem:(b,i)∈s.way:=by rw[hw];simp
   have hb:=hok.way (b,i) hmem;simp only at hb
   cases hi:decide (i<(Cl next b).length)with
   |false=>
    have hi':¬i<(Cl next b).length:=by simpa using hi
    simp only[qZ3];refine⟨fun p hp=>h.seen p (q39 _ hp),fun k hk=>?_⟩;rcases h.all k hk with h1|⟨j,h1⟩
    . exact .inl h1
    . rw[hw]at h1;rcases q78.1 h1 with h1|h1
      . exact .inr ⟨j,h1⟩
      . simp only[q47,q98]at h1;obtain⟨rfl,rfl⟩:=h1;left;intro t ht;obtain⟨x,hx⟩:=q35 ht;have hxl:=(q05.1 hx).1;exact h.seen (k,j) hmem x t (by simp only;omega) hx
   |true=>
    have hi':i<(Cl next b).length:=by simpa using hi
    obtain⟨t0,ht0⟩:=Ad (l:=Cl next b) (k:=i.toNat) Ab;have hrow:Cl next b∈next:=by
     obtain⟨l,hl⟩:=Ad (l:=next) (k:=b.toNat) Ab;rw[Cl,hl];exact q33 hl
    have ht0r:=hlead _ hrow t0 (q33 ht0);simp only[qZ7,ht0,q72]
    -- the way with one more looked at, where that one is been already
    have key:Y6 next ⟨(Cu t0 ⟨s.been,s.way.dropLast++[(b,i+1)]⟩).been,(Cu t0 ⟨s.been,s.way.dropLast++[(b,i+1)]⟩).way⟩:=by
     have hself:isBeen (Cu t0 ⟨s.been,s.way.dropLast++[(b,i+1)]⟩).been t0:=Sm (by show 0<=t0/\t0<s.been.length;rw[hok.len];exact ht0r);have hbeen:∀{k},isBeen s.been k->isBeen (Cu t0 ⟨s.been,s.way.dropLast++[(b,i+1)]⟩).been k:=fun hk=>JU (s:=⟨s.been,s.way.dropLast++[(b,i+1)]⟩) hk
     have hway:∀p∈(Cu t0 ⟨s.been,s.way.dropLast++[(b,i+1)]⟩).way,p∈s.way.dropLast\/p=(b,i+1)\/p=(t0,0):=fun p hp=>by
      unfold Cu at hp
      cases e2:notBeen s.been t0 with
      |false=>rw[e2]at hp;simp only[qZ3,q78,q47]at hp;rcases hp with hp|hp<;>simp[hp]
      |true=>rw[e2]at hp;simp only[qZ7,q78,q47]at hp;rcases hp with(hp|hp)|hp<;>simp[hp]
     have hway2:∀p,p∈s.way.dropLast\/p=(b,i+1)->p∈(Cu t0 ⟨s.been,s.way.dropLast++[(b,i+1)]⟩).way:=fun p hp=>by
      unfold Cu
      cases notBeen s.been t0<;>simp only[qZ7,qZ3,q78,q47]<;>rcases hp with hp|hp<;>simp[hp]
     refine⟨fun p hp j t hj ht=>?_,fun k hk=>?_⟩
     . rcases hway p hp with hp|rfl|rfl
       . exact hbeen (h.seen p (q39 _ hp) j t hj ht)
       . simp only at hj ht
         by_cases hji:(j:Int)<i
         . exact hbeen (h.seen (b,i) hmem j t hji ht)
         . have:j=i.toNat:=by omega
           subst this;rw[ht0]at ht
           cases ht
           exact hself
       . simp only at hj;omega
     . by_cases hold:isBeen s.been k
       . rcases h.all k hold with h1|⟨j,h1⟩
         . exact .inl fun t ht=>hbeen (h1 t ht)
         . right;rw[hw]at h1;rcases q78.1 h1 with h1|h1
           . exact⟨j,hway2 _ (.inl h1)⟩
           . simp only[q47,q98]at h1;obtain⟨rfl,rfl⟩:=h1;exact⟨_,hway2 _ (.inr rfl)⟩
       . right;unfold Cu at hk|-
         cases e2:notBeen s.been t0 with
         |false=>rw[e2]at hk;exact absurd hk hold
         |true=>
          rw[e2]at hk;simp only[qZ7]at hk|-;obtain⟨k1,k2⟩:=hk;rw[q60]at k2
          by_cases hh:t0.toNat=k.toNat
          . have:k=t0:=by omega
            subst this;exact⟨0,by simp⟩
          . rw[qZ9 hh]at k2;exact absurd ⟨k1,k2⟩ hold
    exact key
theorem YE{next:List (List Int)}(hlead:∀l∈next,∀t∈l,0<=t/\t<next.length):∀(g:Nat) (s:DS),s.ok next->Y6 next s->Ws next s<g->Y6 next (KK next g s)/\(KK next g s).way=[]
 |0,_,_,_,h=>absurd h Ab
 |g+1,s,hok,h,hg=>by
  by_cases hne:s.way=[]
  . grind[YF,Ws,KK]
  . rw[U5 hne];have:=YC hok hne;exact YE hlead g _ (YB hok) (gY hok hlead h) Ab
theorem U6{next:List (List Int)}{k:Int}:∀(g:Nat) (s:DS),isBeen s.been k->isBeen (KK next g s).been k
 |0,_,h=>h
 |g+1,s,h=>by
  unfold KK;split
  . exact h
  . refine U6 g _ ?_;unfold Ha;split
    . exact h
    . rename_i b i e
      cases decide (i<((Cl next b).length:Int))with
      |true=>exact JU (s:=⟨s.been,s.way.dropLast++[(b,i+1)]⟩) h
      |false=>exact h
theorem VP(hn:next≠[])(hlead:∀l∈next,∀t∈l,0<=t/\t<next.length):
 isBeen (IP next (List.replicate next.length false)) 0/\∀k,isBeen (IP next (List.replicate next.length false)) k->∀t∈Cl next k,isBeen (IP next (List.replicate next.length false)) t:=by
 have hpos:=q43.2 hn;have hok0:(DS.mk (List.replicate next.length false) []).ok next:=⟨by simp,fun p hp=>by cases hp⟩;have h0:Y6 next (DS.mk (List.replicate next.length false) []):=⟨fun p hp=>(by cases hp),fun k hk=>by
  have h2:(List.replicate next.length false)[k.toNat]?=some true:=hk.2;have h3:(true:Bool)∈List.replicate next.length false:=q33 h2;have:=q15 h3
  cases this⟩
 have key:=YE hlead (Ws next (GM (List.replicate next.length false))+1) (GM (List.replicate next.length false)) (Sn hok0) (g9 h0) (Nat.lt_succ_self _);refine⟨U6 _ _ (Sm (by show(0:Int)<=0/\(0:Int)<((List.replicate next.length false).length:Int);simp;omega)),fun k hk t ht=>?_⟩;rcases key.1.all k hk with h1|⟨i,h1⟩
 . exact h1 t ht
 . rw[key.2]at h1;cases h1
theorem UM{y v:Int}(hz:0<=z/\z<l.length)(hy:0<=y):iget (Wc l z v) y=bif y==z then v else iget l y:=by
 grind[iget,Wc]
theorem PE:∀(l:List Int) (w:List Int) (k:Int),(∀t∈l,0<=t/\t<w.length)->0<=k->iget (l.foldl LH w) k=iget w k+(l.count k:Int)
 | [],w,k,_,_=>by simp
 |t::r,w,k,h,hk=>by
  rw[q85,PE r (LH w t) k (fun x hx=>by rw[PF];exact h x IT) hk,LH,UM (h t Aq) hk,List.count_cons]
  grind
theorem cm{next:List (List Int)}{reach:List Bool}(hlead:∀l∈next,∀t∈l,0<=t/\t<next.length){k:Int}(hk:0<=k):∀(m:Nat),m<=next.length->
 0<=iget (Cr next reach m) k/\(∀i,i<m->reach[i]?=some true->k∈(next[i]?).getD []->1<=iget (Cr next reach m) k)/\
 (∀i j,i<j->j<m->reach[i]?=some true->reach[j]?=some true->k∈(next[i]?).getD []->k∈(next[j]?).getD []->2<=iget (Cr next reach m) k)
 |0,_=>by
  grind[Cr,iget]
 |m+1,hm=>by
  obtain⟨h0,h1,h2⟩:=cm (reach:=reach) hlead hk m Ab;obtain⟨l,hl⟩:=Ad (l:=next) (k:=m) Ab;have hlen:=C0 next reach m;have hcount:=PE l (Cr next reach m) k (fun t ht=>by rw[hlen];exact hlead l (q33 hl) t ht) hk;have e:Cr next reach (m+1)=bif (reach[m]?).getD false then l.foldl LH (Cr next reach m)else Cr next reach m:=by
   rw[Cr,hl];rfl
  have hge:iget (Cr next reach m) k<=iget (Cr next reach (m+1)) k:=by
   rw[e]
   cases (reach[m]?).getD false with
   |true=>rw[qZ7,hcount];omega
   |false=>exact Int.le_refl _
  have hmk:reach[m]?=some true->k∈l->iget (Cr next reach (m+1)) k=iget (Cr next reach m) k+(l.count k:Int)/\1<=l.count k:=fun hr hkl=>by
   rw[e,hr];exact⟨hcount,List.count_pos_iff.2 hkl⟩
  refine⟨by omega,fun i hi hr hki=>?_,fun i j hij hj hri hrj hki hkj=>?_⟩
  . by_cases him:i=m
    . subst him;rw[hl]at hki;obtain⟨a,b⟩:=hmk hr hki;omega
    . have:=h1 i Ab hr hki;omega
  . by_cases hjm:j=m
    . subst hjm;rw[hl]at hkj;obtain⟨a,b⟩:=hmk hrj hkj;have:=h1 i Ab hri hki;omega
    . have:=h2 i j hij Ab hri hrj hki hkj;omega
theorem HD{n:Int}(h:f.one n w=true):f.leads:=fun l hl k hk=>by
 simp only[BFunc.nexts,qX3]at hl;obtain⟨x,hx,rfl⟩:=hl;have he:=((CR h).2.2.2 x hx).1
 grind[Block.ends,Block.nexts,A2]
theorem ub(hle:f.leads):∀l∈f.nexts,∀t∈l,0<=t/\t<f.nexts.length:=fun l hl t ht=>by
 rw[AZ];exact hle l hl t ht
theorem kR(hle:f.leads){i:Int}(hi:0<=i/\i<f.blocks.length):Cl f.nexts i=(f.blockAt i).nexts:=by
 grind[Cl,C8,Bp]
theorem Gy(hle:f.leads)(h:isBeen f.reach k):0<=k/\k<f.blocks.length:=by
 grind[List.getElem?_eq_some_iff,M4,isBeen]
theorem kd(hle:f.leads){i:Int}(hi:0<=i/\i<f.blocks.length):iget f.tk i=takeOf f.nexts f.reach i.toNat (f.blockAt i):=by
 rw[iget,BFunc.tk,NW (Bp hi)];rfl
theorem Hx(hle:f.leads){i:Int}(hi:0<=i/\i<f.blocks.length)(h:iget f.tk i≠ -1):iget f.tk i=(f.blockAt i).to/\isBeen f.reach i/\(f.blockAt i).fin=1/\(f.blockAt i).to≠0/\iget (Iq f.nexts f.reach) (f.blockAt i).to=1/\0<=(f.blockAt i).to/\(f.blockAt i).to<f.blocks.length:=by
 rw[kd hle hi]at h|-;unfold takeOf at h|-
 cases e:(f.reach[i.toNat]?).getD false&&((f.blockAt i).fin==1&&((f.blockAt i).to !=0&&((f.blockAt i).to !=(i.toNat:Int)&&iget (Iq f.nexts f.reach) (f.blockAt i).to==1)))with
 |false=>rw[e]at h;exact absurd rfl h
 |true=>
  simp only[q66,qZ4,bne_iff_ne,ne_eq]at e;obtain⟨e1,e2,e3,e4,e5⟩:=e;have hto:=KB hle (Bp hi) (.inl e2);refine⟨rfl,⟨hi.1,?_⟩,e2,e3,e5,hto.1,hto.2⟩
  cases hr:f.reach[i.toNat]? with
  |none=>rw[hr]at e1;cases e1
  |some v=>rw[hr]at e1;simp at e1;rw[e1]
theorem Vv(hle:f.leads){i l:Int}(hi:0<=i/\i<f.blocks.length)(hk:iget f.tk i=k)(hne:k≠ -1)(hl:isBeen f.reach l)(hm:k∈(f.blockAt l).nexts):l=i:=by
 obtain⟨a1,a2,a3,a4,a5,a6,a7⟩:=Hx hle hi (by rw[hk];exact hne);rw[hk]at a1;have hlr:=Gy hle hl;have hnl:=AZ f;have hki:k∈(f.blockAt i).nexts:=by simp[Block.nexts,a3,a1]
 have gi:(f.nexts[i.toNat]?).getD []=(f.blockAt i).nexts:=by rw[C8 (Bp hi)];rfl
 have gl:(f.nexts[l.toNat]?).getD []=(f.blockAt l).nexts:=by rw[C8 (Bp hlr)];rfl
 have w:=(cm (reach:=f.reach) (ub hle) (k:=k) (by rw[a1];exact a6) f.nexts.length (qZ0 _)).2.2;rw[<-a1]at a5;unfold Iq at a5
 by_cases h1:i.toNat<l.toNat
 . have:=w i.toNat l.toNat h1 Ab a2.2 hl.2 (by rw[gi];exact hki) (by rw[gl];exact hm);omega
 . by_cases h2:l.toNat<i.toNat
   . have:=w l.toNat i.toNat h2 Ab hl.2 a2.2 (by rw[gl];exact hm) (by rw[gi];exact hki);omega
   . omega
theorem QF(hle:f.leads):∀(m:Nat),m<=f.blocks.length->∀(k:Nat),(f.takenAt f.reach m)[k]?=some true->∃i:Int,0<=i/\i<m/\iget f.tk i=k
 |0,_,k,h=>by
  grind[BFunc.takenAt,List.mem_of_getElem?,iget]
 |m+1,hm,k,h=>by
  obtain⟨x,hx⟩:=Ad (l:=f.blocks) (k:=m) Ab;rw[Hy hx]at h;have hxm:f.blockAt m=x:=by simp[BFunc.blockAt,hx]
  have hi:0<=(m:Int)/\(m:Int)<f.blocks.length:=by omega
  have ht:=kd hle hi;rw[q55,hxm]at ht
  cases e:takeOf f.nexts f.reach m x== -1 with
  |true=>
   rw[e]at h;obtain⟨i,i1,i2,i3⟩:=QF hle m Ab k h;exact⟨i,i1,by omega,i3⟩
  |false=>
   rw[e]at h;simp only[qZ3]at h;rw[q60]at h;have hne:takeOf f.nexts f.reach m x≠ -1:=by simpa using e
   have hs:=Hx hle hi (by rw[ht];exact hne);rw[hxm]at hs
   by_cases h2:x.to.toNat=k
   . exact⟨m,hi.1,by omega,by rw[hs.1];omega⟩
   . rw[qZ9 h2]at h;obtain⟨i,i1,i2,i3⟩:=QF hle m Ab k h;exact⟨i,i1,by omega,i3⟩
theorem W8(hle:f.leads):∀(m:Nat),m<=f.blocks.length->∀(i:Int),0<=i->i<m->iget f.tk i≠ -1->(f.takenAt f.reach m)[(iget f.tk i).toNat]?=some true
 |0,_,i,h1,h2,_=>absurd h2 Ab
 |m+1,hm,i,h1,h2,hne=>by
  obtain⟨x,hx⟩:=Ad (l:=f.blocks) (k:=m) Ab;rw[Hy hx];have hxm:f.blockAt m=x:=by simp[BFunc.blockAt,hx]
  have hi:0<=(m:Int)/\(m:Int)<f.blocks.length:=by omega
  have ht:=kd hle hi;rw[q55,hxm]at ht;have hlen:=C3 f f.reach m
  by_cases him:i=m
  . subst him;rw[ht]at hne|-;have e:(takeOf f.nexts f.reach m x== -1)=false:=by simpa using hne
    have hs:=Hx hle hi (by rw[ht];exact hne);rw[hxm,ht]at hs;rw[e,qZ3,hs.1,q21 Ab]
  . have ih:=W8 hle m Ab i h1 Ab hne
    cases e:takeOf f.nexts f.reach m x== -1 with
    |true=>exact ih
    |false=>
     simp only[qZ3];rw[q60]
     by_cases h3:x.to.toNat=(iget f.tk i).toNat
     . rw[qK0 h3,qK0 (by rw[h3];exact(q05.1 ih).1)]
     . rw[qZ9 h3];exact ih
theorem EK(hle:f.leads){k:Nat}(h:f.headOf k=true):isBeen f.reach k/\∀i:Int,0<=i/\i<f.blocks.length->iget f.tk i≠(k:Int):=by
 grind[BFunc.headOf,W8,isBeen,iget]
theorem dC(hle:f.leads){t:Int}(h:isBeen f.reach t)(hn:∀i:Int,0<=i/\i<f.blocks.length->iget f.tk i≠t):f.headOf t.toNat=true:=by
 have ht:=Gy hle h;obtain⟨v,hv⟩:=Ad (l:=f.takenAt f.reach f.blocks.length) (k:=t.toNat) (by rw[C3];omega);rw[US h.2 hv]
 cases v with
 |false=>rfl
 |true=>
  obtain⟨i,i1,i2,i3⟩:=QF hle f.blocks.length (qZ0 _) t.toNat hv;exact absurd (by rw[i3];omega) (hn i ⟨i1,i2⟩)
theorem nr(hle:f.leads)(hk:∀i:Int,0<=i/\i<f.blocks.length->iget f.tk i≠k):∀(g:Nat) (c:Int) (marks:List Bool),marks.length=f.blocks.length->isBeen marks c->
 (∀w,isBeen marks w->w=k\/∃u,isBeen marks u/\u≠c/\iget f.tk u=w)->cr marks<=g->ends f.tk g c=true:=by
 have step:∀(c:Int) (marks:List Bool),marks.length=f.blocks.length->isBeen marks c->(∀w,isBeen marks w->w=k\/∃u,isBeen marks u/\u≠c/\iget f.tk u=w)->iget f.tk c≠ -1->0<=iget f.tk c/\iget f.tk c<f.blocks.length/\marks[(iget f.tk c).toNat]?=some false:=fun c marks hl hc hw hne=>by
  have hin:∀{u},isBeen marks u->0<=u/\u<f.blocks.length:=fun {u} hu=>by
   grind[List.getElem?_eq_some_iff,iget,isBeen,cr,ends]
  obtain⟨a1,a2,a3,a4,a5,a6,a7⟩:=Hx hle (hin hc) hne;rw[<-a1]at a6 a7;refine⟨a6,a7,?_⟩;obtain⟨v,hv⟩:=Ad (l:=marks) (k:=(iget f.tk c).toNat) Ab
  cases v with
  |false=>exact hv
  |true=>
   exfalso;rcases hw (iget f.tk c) ⟨a6,hv⟩with h|⟨u,u1,u2,u3⟩
   . exact hk c (hin hc) h
   . refine u2 ?_;have hs:=Hx hle (hin u1) (by rw[u3];exact hne);refine Vv hle (hin hc) rfl hne hs.2.1 ?_;rw[<-u3,hs.1];simp[Block.nexts,hs.2.2.1]
 intro g
 induction g with
 |zero=>
  grind[iget,ends,MJ,isBeen,cr,Block.nexts]
 |succ g ih=>
  intro c marks hl hc hw hu
  by_cases hne:iget f.tk c= -1
  . simp[ends,hne]
  . obtain⟨a,b,e⟩:=step c marks hl hc hw hne;have hus:=MJ e;have hnew:∀w,isBeen (marks.set (iget f.tk c).toNat true) w↔w=iget f.tk c\/isBeen marks w:=fun w=>by
     constructor
     . rintro⟨h1,h2⟩
       rw[q60]at h2
       by_cases h3:(iget f.tk c).toNat=w.toNat
       . exact .inl Ab
       . rw[qZ9 h3]at h2;exact .inr ⟨h1,h2⟩
     . rintro(rfl|⟨h1,h2⟩)
       . exact⟨a,q21 Ab⟩
       . refine⟨h1,?_⟩;rw[q60]
         by_cases h3:(iget f.tk c).toNat=w.toNat
         . rw[qK0 h3,qK0 Ab]
         . rw[qZ9 h3];exact h2
    have hcc:c≠iget f.tk c:=fun h=>by
     have:=hc.2;rw[h,e]at this;cases this
    have:=ih (iget f.tk c) (marks.set (iget f.tk c).toNat true) (by simpa using hl) ((hnew _).2 (.inl rfl)) (fun w hw2=>?_) Ab
    . unfold ends;rw[this];simp
    . rcases(hnew w).1 hw2 with rfl|hw3
      . exact .inr ⟨c,(hnew c).2 (.inr hc),hcc,rfl⟩
      . rcases hw w hw3 with h|⟨u,u1,u2,u3⟩
        . exact .inl h
        . refine .inr ⟨u,(hnew u).2 (.inr u1),fun h=>?_,u3⟩;have:=u1.2;rw[h,e]at this;cases this
theorem UR(hle:f.leads){k:Nat}(h:f.headOf k=true):ends f.tk f.tk.length k=true:=by
 obtain⟨h1,h2⟩:=EK hle h;have hk:=Gy hle h1;have hl:f.tk.length=f.blocks.length:=Bc f _;have hget:(List.replicate f.blocks.length false)[k]?=some false:=by
  rw[q19,qK0 Ab]
 have hu:=MJ hget;have hr:cr (List.replicate f.blocks.length false)=f.blocks.length:=by simp[cr]
 refine nr hle h2 f.tk.length k ((List.replicate f.blocks.length false).set k true) Aq ⟨by omega,by rw[q55,q21 Em]⟩ (fun w hw=>?_) Ab;left;obtain⟨w1,w2⟩:=hw;rw[q60]at w2
 by_cases h3:k=w.toNat
 . omega
 . rw[qZ9 h3]at w2;have:=q15 (q33 w2)
   cases this
theorem UY(hle:f.leads):∀(g:Nat) (c:Int),0<=c/\c<f.blocks.length->fol f (c::Ej f.tk g c)
 |0,c,_=>trivial
 |g+1,c,hc=>by
  unfold Ej
  cases e:iget f.tk c== -1 with
  |true=>exact trivial
  |false=>
   have hne:iget f.tk c≠ -1:=by simpa using e
   obtain⟨a1,a2,a3,a4,a5,a6,a7⟩:=Hx hle hc hne;exact⟨a3,a1.symm,UY hle g _ (by rw[a1];exact⟨a6,a7⟩)⟩
theorem SD(hle:f.leads)(hR:∀k,isBeen f.reach k->∀t∈Cl f.nexts k,isBeen f.reach t):∀(g:Nat) (c:Int),isBeen f.reach c->∀x∈Ej f.tk g c,isBeen f.reach x
 |0,c,_=>fun x hx=>by cases hx
 |g+1,c,hc=>fun x hx=>by
  unfold Ej at hx
  cases e:iget f.tk c== -1 with
  |true=>rw[e]at hx;cases hx
  |false=>
   rw[e]at hx;have hcr:=Gy hle hc;obtain⟨a1,a2,a3,a4,a5,a6,a7⟩:=Hx hle hcr Mz;have hb:isBeen f.reach (iget f.tk c):=hR c hc _ (by rw[kR hle hcr,a1];simp[Block.nexts,a3]);simp only[qZ3,q99]at hx;rcases hx with rfl|hx
   . exact hb
   . exact SD hle hR g _ hb x hx
theorem RX(hle:f.leads):∀(g:Nat) (c:Int),ends f.tk g c=true->iget f.tk (A7 (c::Ej f.tk g c))= -1
 |0,c,h=>by simpa[ends,Ej,A7]using h
 |g+1,c,h=>by
  unfold ends at h;unfold Ej
  cases e:iget f.tk c== -1 with
  |true=>simpa[A7]using e
  |false=>
   rw[e]at h;simp only[qQ6]at h;have:=RX hle g _ h;simpa[A7]using this
theorem Ld(hle:f.leads):∀(m:Nat) {p:List Int},p∈f.pathsTo m->∃k,k<m/\f.headOf k=true/\p=BC f.tk k
 |0,p,h=>by cases h
 |m+1,p,h=>by
  unfold BFunc.pathsTo at h
  cases e:f.headOf m with
  |false=>
   rw[e]at h;obtain⟨k,k1,k2⟩:=Ld hle m h;exact⟨k,by omega,k2⟩
  |true=>
   rw[e]at h;simp only[qZ7,q78,q47]at h;rcases h with h|rfl
   . obtain⟨k,k1,k2⟩:=Ld hle m h;exact⟨k,by omega,k2⟩
   . exact⟨m,by omega,e,rfl⟩
theorem Oo(hle:f.leads):∀(m:Nat),m<=f.blocks.length->∀k,k<m->f.headOf k=true->∃i:Nat,iget (f.numsTo m) k=i/\(f.pathsTo m)[i]?=some (BC f.tk k)
 |0,_,k,h,_=>absurd h Ab
 |m+1,hm,k,hk,hh=>by
  have hlen:=CD f m
  cases e:f.headOf m with
  |false=>
   have hkm:k≠m:=fun h=>by rw[h,e]at hh;cases hh
   rw[Ul e,H4 e];exact Oo hle m Ab k Ab hh
  |true=>
   rw[Rq e,FSq e,UM (by rw[hlen];omega) Ab]
   by_cases hkm:k=m
   . subst hkm;refine⟨(f.pathsTo k).length,by simp,?_⟩;rw[q02 (qZ0 _),Nat.sub_self];rfl
   . obtain⟨i,i1,i2⟩:=Oo hle m Ab k Ab hh;have hne:((k:Int)==(m:Int))=false:=by simp;omega
     rw[hne];exact⟨i,i1,by rw[q06 (q05.1 i2).1];exact i2⟩
theorem Pm(hle:f.leads)(h0:f.headOf 0=true):∀(m:Nat),0<m->(f.pathsTo m)[0]?=some (BC f.tk 0)
 |0,h=>absurd h Ab
 |1,_=>by rw[FSq h0];rfl
 |m+2,_=>by
  have ih:=Pm hle h0 (m+1) Ab
  cases e:f.headOf (m+1)with
  |false=>rw[H4 e];exact ih
  |true=>rw[FSq e,q06 (q05.1 ih).1];exact ih
theorem target(hle:f.leads){l t:Int}(hR:∀k,isBeen f.reach k->∀t∈Cl f.nexts k,isBeen f.reach t)(hl:isBeen f.reach l)(hlast:iget f.tk l= -1)(ht:t∈(f.blockAt l).nexts):Ew f.tpaths (iget f.nums t) t=true:=by
 have hlr:=Gy hle hl;have htb:isBeen f.reach t:=hR l hl t (by rw[kR hle hlr];exact ht);have htr:=Gy hle htb;have hh:f.headOf t.toNat=true:=dC hle htb (fun i hi e=>by
  have hne:t≠ -1:=by omega
  have:=Vv hle hi e hne hl ht;subst this;rw[hlast]at e;omega)
 obtain⟨i,i1,i2⟩:=Oo hle f.blocks.length (qZ0 _) t.toNat Ab hh;have et:((t.toNat:Nat):Int)=t:=q41 htr.1;rw[et]at i1 i2;have hil:=(q05.1 i2).1;have hp:DM f.tpaths (iget f.nums t)=BC f.tk t:=by
  rw[show iget f.nums t=i from i1,DM,q55];show((f.pathsTo f.blocks.length)[i]?).getD []=_;rw[i2];rfl
 refine bv (by rw[show iget f.nums t=i from i1];omega) (by rw[show iget f.nums t=i from i1];show(i:Int)<((f.pathsTo f.blocks.length).length:Int);omega) ?_;rw[hp];rfl
theorem L6(hle:f.leads)(hn:f.blocks≠[]):YZ f f.tidy f.tpaths:=by
 have hnn:f.nexts≠[]:=by simpa[BFunc.nexts]using hn
 obtain⟨r0,rc⟩:=VP hnn (ub hle);have hR:∀k,isBeen f.reach k->∀t∈Cl f.nexts k,isBeen f.reach t:=rc
 have hpos:=q43.2 hn;have h0:f.headOf 0=true:=dC hle (t:=0) r0 (fun i hi e=>by
  have:=Hx hle hi (by rw[e];decide);rw[e]at this;exact this.2.2.2.1 this.1.symm)
 have hfirst:=Pm hle h0 f.blocks.length hpos;have hmem:∀(k:Nat) (p:List Int),f.tpaths[k]?=some p->∃c:Nat,f.headOf c=true/\p=BC f.tk c:=fun k p hp=>by
  obtain⟨c,_,c2,c3⟩:=Ld hle _ (q33 hp);exact⟨c,c2,c3⟩
 have hblk:∀(k:Nat) (p:List Int),f.tpaths[k]?=some p->f.tidy.blockAt k=f.newBlock p:=fun k p hp=>by
  simp[BFunc.blockAt,BFunc.tidy,hp]
 refine⟨fun h=>?_,by simp[BFunc.tidy],rfl,Ku hle _ (qZ0 _),?_,fun k p hp=>?_,fun k p hp=>?_,fun k p hp=>?_⟩
 . have:=(q05.1 hfirst).1;have h':(f.pathsTo f.blocks.length).length=0:=h;omega
 . have:DM f.tpaths 0=BC f.tk 0:=by
    show((f.pathsTo f.blocks.length)[0]?).getD []=_;rw[hfirst];rfl
   rw[this];rfl
 . obtain⟨c,c1,rfl⟩:=hmem k p hp;exact UY hle _ _ (Gy hle (EK hle c1).1)
 . rw[hblk k p hp];rfl
 . obtain⟨c,c1,rfl⟩:=hmem k p hp;have hcb:=(EK hle c1).1;have hne:BC f.tk c≠[]:=by simp[BC]
   have hlb:isBeen f.reach (A7 (BC f.tk c)):=by
    have:=Jg hne;simp only[BC,q99]at this;rcases this with h|h
    . show isBeen f.reach (A7 (↑c::Ej f.tk f.tk.length ↑c));rw[h];exact hcb
    . exact SD hle hR _ _ hcb _ h
   have hlast:iget f.tk (A7 (BC f.tk c))= -1:=RX hle _ _ (UR hle c1);rw[hblk k _ hp];refine gq rfl rfl (fun e=>?_) (fun e=>?_) (fun e=>?_) (fun e=>?_)
   . have e':((f.blockAt (A7 (BC f.tk c))).fin==1||(f.blockAt (A7 (BC f.tk c))).fin==2)=true:=by
      have:(f.blockAt (A7 (BC f.tk c))).fin=1\/(f.blockAt (A7 (BC f.tk c))).fin=2:=e;simpa using this
     have hto:(f.newBlock (BC f.tk c)).to=iget f.nums (f.blockAt (A7 (BC f.tk c))).to:=by simp only[BFunc.newBlock,e',qZ7]
     rw[hto];refine target hle hR hlb hlast ?_;have:(f.blockAt (A7 (BC f.tk c))).fin=1\/(f.blockAt (A7 (BC f.tk c))).fin=2:=e;rcases this with e|e<;>simp[Block.nexts,e]
   . have e':((f.blockAt (A7 (BC f.tk c))).fin==1||(f.blockAt (A7 (BC f.tk c))).fin==2)=false:=by
      have:¬((f.blockAt (A7 (BC f.tk c))).fin=1\/(f.blockAt (A7 (BC f.tk c))).fin=2):=e;simpa using this
     simp only[BFunc.newBlock,e',qZ3]
   . have e':(f.blockAt (A7 (BC f.tk c))).fin=2:=e;have hel:(f.newBlock (BC f.tk c)).els=iget f.nums (f.blockAt (A7 (BC f.tk c))).els:=by simp[BFunc.newBlock,e']
     rw[hel];exact target hle hR hlb hlast (by simp[Block.nexts,e'])
   . have e':((f.blockAt (A7 (BC f.tk c))).fin==2)=false:=by
      have:(f.blockAt (A7 (BC f.tk c))).fin≠2:=e;simpa using this
     simp only[BFunc.newBlock,e',qZ3]
theorem KP{tk:List Int}:∀(g:Nat) (c x:Int),x∈Ej tk g c->∃u,u∈c::Ej tk g c/\iget tk u=x/\x≠ -1
 |0,c,x,hx=>by cases hx
 |g+1,c,x,hx=>by
  unfold Ej at hx|-
  cases e:iget tk c== -1 with
  |true=>rw[e]at hx;cases hx
  |false=>
   rw[e]at hx;simp only[qZ3]at hx|-;rcases q99.1 hx with rfl|hx
   . exact⟨c,by simp,rfl,by simpa using e⟩
   . obtain⟨u,u1,u2⟩:=KP g _ x hx;exact⟨u,List.mem_cons_of_mem _ u1,u2⟩
variable {c : Nat}
theorem qA(hle:f.leads)(hc:f.headOf c=true)(hd:f.headOf d=true)(h:(d:Int)∈BC f.tk c):d=c:=by
 rcases q99.1 h with h|h
 . omega
 . exfalso;obtain⟨u,u1,u2,u3⟩:=KP _ _ _ h;have hcr:=Gy hle (EK hle hc).1;have hur:0<=u/\u<f.blocks.length:=by
    have hl:f.tk.length=f.blocks.length:=Bc f _;rcases q99.1 u1 with rfl|hu
    . exact hcr
    . have hl':((f.takes f.reach).length:Int)=f.blocks.length:=by rw[Bc]
      have:=NE (Kj hle f.reach) f.tk.length c (by rw[hl'];exact hcr) u hu;rw[hl']at this;exact this
   exact(EK hle hd).2 u hur u2
variable {g : BFunc}
variable {u : Int}
theorem j9(hle:f.leads){v:Int}(hu:0<=u/\u<f.blocks.length)(hv:0<=v/\v<f.blocks.length)(h:iget f.tk u=iget f.tk v)(hne:iget f.tk u≠ -1):u=v:=by
 obtain⟨h1,h2,h3,h4⟩:=Hx hle hu hne;exact Vv hle hv h.symm hne h2 (by rw[h1];simp[Block.nexts,h3])
theorem tV(hle:f.leads)(hne:iget f.tk u≠ -1)(hu:0<=u/\u<f.blocks.length):0<=iget f.tk u/\iget f.tk u<f.blocks.length:=by
 have hl:f.tk.length=f.blocks.length:=Bc f _;obtain⟨v,hv⟩:=Ad (l:=f.tk) (k:=u.toNat) Ab;have hi:iget f.tk u=v:=by simp[iget,hv]
 rcases Kj hle f.reach v (q33 hv)with e|e
 . rw[hi]at hne;exact absurd e hne
 . rw[hi];have:(f.takes f.reach).length=f.blocks.length:=Bc f _;omega
theorem cY(hle:f.leads)(hc:f.headOf c=true):∀x∈BC f.tk c,0<=x/\x<f.blocks.length:=fun x hx=>by
 have hl:f.tk.length=f.blocks.length:=Bc f _;have hb:=Gy hle (EK hle hc).1;rcases q99.1 hx with rfl|hx
 . exact hb
 . have:=NE (Kj hle f.reach) _ _ (by rw[show(f.takes f.reach).length=f.blocks.length from hl];exact hb) x hx;rw[show(f.takes f.reach).length=f.blocks.length from hl]at this;exact this
theorem fR(hle:f.leads)(hc:f.headOf c=true)(hd:f.headOf d=true):∀x,x∈BC f.tk c->x∈BC f.tk d->c=d:=by
 have gen:∀(g:Nat) (a:Int),0<=a/\a<f.blocks.length->(a∈BC f.tk d->c=d)->∀x∈a::Ej f.tk g a,x∈BC f.tk d->c=d:=by
  intro g
  induction g with
  |zero=>intro a ha h x hx;simp[Ej]at hx;subst hx;exact h
  |succ g ih=>
   intro a ha h x hx;rcases q99.1 hx with rfl|hx
   . exact h
   . unfold Ej at hx
     by_cases e:iget f.tk a= -1
     . rw[show(iget f.tk a== -1)=true by simpa using e]at hx;cases hx
     . rw[show(iget f.tk a== -1)=false by simpa using e]at hx;refine ih (iget f.tk a) (tV hle e ha) (fun h2=>?_) x hx;rcases q99.1 h2 with e2|h2
       . exact absurd e2 ((EK hle hd).2 a ha)
       . obtain⟨u,hu,hu2,_⟩:=KP _ _ _ h2;have hur:=cY hle hd u hu;have:=j9 hle hur ha hu2 (by rw[hu2];exact e);subst this;exact h hu
 grind[Gy,EK,qA,BC]
theorem ar(hle:f.leads)(hc:f.headOf c=true):(BC f.tk c).Nodup:=by
 have gen:∀(g:Nat) (a:Int) (pre:List Int),(pre++[a]).Nodup->(∀y∈pre++[a],y=(c:Int)\/∃u∈pre,iget f.tk u=y)->(∀y∈pre++[a],0<=y/\y<f.blocks.length)->(pre++(a::Ej f.tk g a)).Nodup:=by
  intro g
  induction g with
  |zero=>intro a pre h1 _ _;exact h1
  |succ g ih=>
   intro a pre h1 h2 h3;unfold Ej
   by_cases e:iget f.tk a= -1
   . rw[show(iget f.tk a== -1)=true by simpa using e];exact h1
   . rw[show(iget f.tk a== -1)=false by simpa using e];have ha:=h3 a Aq;have hy:iget f.tk a∉pre++[a]:=fun hm=>by
      rcases h2 _ hm with e2|⟨u,hu,hu2⟩
      . exact(EK hle hc).2 a ha e2
      . have:=j9 hle (h3 u IR) ha hu2 (by rw[hu2];exact e);subst this;rw[q65]at h1;exact h1.2.2 u hu u Aq rfl
     have:=ih (iget f.tk a) (pre++[a]) (q65.2 ⟨h1,by simp,fun x hx y hy2 e2=>by rw[q47.1 hy2]at e2;subst e2;exact hy hx⟩) (fun y hy2=>by
      rcases q78.1 hy2 with h|h
      . rcases h2 y h with e2|⟨u,hu,hu2⟩
        . exact .inl e2
        . exact .inr ⟨u,by simp[hu],hu2⟩
      . rw[q47.1 h];exact .inr ⟨a,by simp,rfl⟩) (fun y hy2=>by
      rcases q78.1 hy2 with h|h
      . exact h3 y h
      . rw[q47.1 h];exact tV hle e ha)
     rw[q63]at this;exact this
 have:=gen f.tk.length c [] Aq (fun y hy=>.inl (by simpa using hy)) (fun y hy=>by rw[show y=(c:Int) by simpa using hy];exact Gy hle (EK hle hc).1);exact this
theorem Rf(hle:f.leads):∀m,(f.pathsTo m).flatten.Nodup/\∀x∈(f.pathsTo m).flatten,∃k,k<m/\f.headOf k=true/\x∈BC f.tk k
 |0=>⟨by simp[BFunc.pathsTo],fun x hx=>by simp[BFunc.pathsTo]at hx⟩
 |m+1=>by
  obtain⟨i1,i2⟩:=Rf hle m
  cases e:f.headOf m with
  |false=>rw[H4 e];exact⟨i1,fun x hx=>by obtain⟨k,k1,k2,k3⟩:=i2 x hx;exact⟨k,by omega,k2,k3⟩⟩
  |true=>
   rw[FSq e,List.flatten_append];refine⟨q65.2 ⟨i1,by simpa using ar hle e,fun x hx y hy e2=>?_⟩,fun x hx=>?_⟩
   . subst e2;obtain⟨k,k1,k2,k3⟩:=i2 x hx;have:=fR hle k2 e x k3 (by simpa using hy);omega
   . rcases q78.1 hx with hx|hx
     . obtain⟨k,k1,k2,k3⟩:=i2 x hx;exact⟨k,by omega,k2,k3⟩
     . exact⟨m,by omega,e,by simpa using hx⟩
def L2(w:Int->Nat)(l:List Int):Nat:=(l.map w).sum
theorem Qm{w:Int->Nat}{x:Int}:∀{m:List Int},x∈m->w x+L2 w (m.erase x)=L2 w m
 | [],h=>by cases h
 |y::m,h=>by
  rw[List.erase_cons]
  by_cases e:y=x
  . subst e;simp[L2]
  . rw[show(y==x)=false by simpa using e];have hxm:x∈m:=(q99.1 h).resolve_left (fun h=>e h.symm);have:=Qm (w:=w) hxm;simp only[L2,qQ0,qQ2]at this|-;simp only[qZ9 Bool.false_ne_true,qQ0,qQ2];omega
theorem cj{w:Int->Nat}:∀(l m:List Int),l.Nodup->(∀x∈l,x∈m)->L2 w l<=L2 w m
 | [],m,_,_=>qZ1 _
 |x::l,m,h1,h2=>by
  obtain⟨g1,g2⟩:=q93.1 h1;have hx:=h2 x Aq;have:=cj (w:=w) l (m.erase x) g2 fun y hy=>(List.mem_erase_of_ne (fun e=>g1 (by subst e;exact hy))).2 (h2 y (by simp[hy]))
  grind[Qm,L2]
theorem Ts{w:Int->Nat}:∀(ps:List (List Int)),L2 w ps.flatten=(ps.map (L2 w)).sum
 | []=>rfl
 |p::ps=>by
  rw[List.flatten_cons,qQ0,qQ2,<-Ts ps];simp[L2]
theorem Yh(p:List Int):(f.joined p).length+p.length=L2 (fun i=>(f.blockAt i).count) p:=by
 induction p with
 |nil=>rfl
 |cons i r ih=>
  grind[BFunc.joined,List.length_append,L2,Block.count]
theorem Z5(f:BFunc):L2 (fun i=>(f.blockAt i).count) ((List.range f.blocks.length).map fun(k:Nat)=>(k:Int))=f.count:=by
 unfold L2 BFunc.count;rw[List.map_map];congr 1;apply q62;intro k;rw[q54,q54]
 by_cases hk:k<f.blocks.length
 . obtain⟨x,hx⟩:=Ad hk;rw[q44 hk,hx];simp[BFunc.blockAt,hx]
 . rw[q26 Em,q26 Ab];rfl
theorem ZC(hle:f.leads):f.tidy.count<=f.count:=by
 obtain⟨h1,h2⟩:=Rf hle f.blocks.length;rw[<-Z5 f];refine qX2 ?_ (cj (w:=fun i=>(f.blockAt i).count) f.tpaths.flatten _ h1 fun x hx=>?_)
 . rw[Ts];show((f.tpaths.map f.newBlock).map Block.count).sum<=_;rw[List.map_map];have key:∀(ps:List (List Int)),(∀p∈ps,p≠[])->(ps.map (Block.count∘f.newBlock)).sum<=(ps.map (L2 fun i=>(f.blockAt i).count)).sum:=by
    intro ps
    induction ps with
    |nil=>intro _;exact qZ0 _
    |cons p ps ih=>
     intro hp;simp only[qQ0,qQ2];have h3:=ih fun q hq=>hp q (by simp[hq])
     have h4:=Yh (f:=f) p;have h5:p.length≠0:=fun e=>hp p Aq (q18.1 e)
     have h6:(Block.count∘f.newBlock) p=1+(f.joined p).length:=rfl;omega
   refine key _ fun p hp=>?_
   obtain⟨k,_,_,rfl⟩:=Ld hle _ hp;exact List.cons_ne_nil _ _
 . obtain⟨k,k1,k2,k3⟩:=h2 x hx;have:=cY hle k2 x k3;exact qX3.2 ⟨x.toNat,q94.2 Ab,by omega⟩
def need(v:Nat):List Tac->Bool->Bool
  | [],z=>z
  |t::r,z=>t.uses.contains (v:Int)||(!(t.sets==(v:Int))&&need v r z)
theorem Kx(v:Nat)(l2:List Tac)(z:Bool):∀l1,need v (l1++l2) z=need v l1 (need v l2 z)
 | []=>rfl
 |t::r=>by rw[q73,need,need,Kx v l2 z r]
theorem BW{v:Nat}{z z':Bool}(h:z=true->z'=true):∀{l},need v l z=true->need v l z'=true
 | [],e=>h e
 |t::r,e=>by
  have ih:=BW (v:=v) h (l:=r)
  grind[need]
theorem db(v:Nat)(a b:Bool):∀l,need v l (a||b)=(need v l a||need v l b)
 | []=>rfl
 |t::r=>by
  unfold need;rw[db v a b r]
  grind
variable {z : Bool} {l1 l2 : List Tac}
theorem Ru(h:t.sets=(v:Int)->need v l2 z=false)(hn:need v (l1++l2) z=true):need v (l1++t::l2) z=true:=by
 grind[Kx,BW,need]
theorem Ou(h:t.uses.contains (v:Int)=false)(hn:need v (l1++t::l2) z=true):need v (l1++l2) z=true:=by
 grind[Kx,BW,need]
def Ei(x:Block)(v:Nat):Bool:=x.fin==2&&x.v==(v:Int)
inductive Fa(f:BFunc)(v:Nat):Nat->Prop
  |here {c:Nat} {x:Block}:f.blocks[c]?=some x->need v x.ins (Ei x v)=true->Fa f v c
  |thru {c:Nat} {d:Int} {x:Block}:f.blocks[c]?=some x->need v x.ins true=true->d∈x.nexts->Fa f v d.toNat->Fa f v c
open Classical in
noncomputable def Za(f:BFunc)(v c:Nat):Bool:=decide (Fa f v c)
noncomputable def outB(f:BFunc)(x:Block)(v:Nat):Bool:=x.nexts.any fun d=>Za f v d.toNat
noncomputable def ET(f:BFunc)(x:Block)(v:Nat):Bool:=Ei x v||outB f x v
theorem inB_iff:Za f v c=true↔Fa f v c:=by unfold Za;simp
variable {x : Block}
theorem outB_iff:outB f x v=true↔ ∃d∈x.nexts,Fa f v d.toNat:=by
 grind[outB,List.any_eq_true,inB_iff]
theorem aT(hx:f.blocks[c]?=some x):Za f v c=need v x.ins (ET f x v):=by
 rw[Bool.eq_iff_iff,inB_iff];constructor
 . intro h
   cases h with
   |here h1 h2=>rw[hx]at h1;cases h1;exact BW (fun e=>by unfold ET;rw[e];rfl) h2
   |thru h1 h2 h3 h4=>rw[hx]at h1;cases h1;exact BW (fun _=>by unfold ET;rw[outB_iff.2 ⟨_,h3,h4⟩,qX6]) h2
 . intro h;unfold ET at h;rw[db,q81]at h;rcases h with h|h
   . exact .here hx h
   . cases ho:outB f x v with
     |true=>rw[ho]at h;obtain⟨d,h1,h2⟩:=outB_iff.1 ho;exact .thru hx h h1 h2
     |false=>rw[ho]at h;exact .here hx (BW Ti h)
theorem RM{I:Nat->Bool}(hc:∀c x,f.blocks[c]?=some x->need v x.ins (Ei x v||x.nexts.any fun d=>I d.toNat)=true->I c=true):∀{c},Fa f v c->I c=true:=by
 intro c h
 induction h with
 |here h1 h2=>exact hc _ _ h1 (BW (fun e=>by rw[e];rfl) h2)
 | @thru c d x h1 h2 h3 _ ih=>exact hc _ _ h1 (BW (fun _=>by rw[q74.2 ⟨d,h3,ih⟩,qX6]) h2)
def Tac.pure(t:Tac):Bool:=t.op==1||(t.op==2||(t.op==4||(t.op==3&&(!(t.k==7)&& !(t.k==8)))))
def Block.mid(x:Block)(l:List Tac):Block:={x with ins:=l}
def BFunc.putB(f:BFunc)(c:Nat)(x:Block):BFunc:={f with blocks:=f.blocks.set c x}
structure He(f g:BFunc)(c:Nat)(x:Block)(l1:List Tac)(t:Tac)(l2:List Tac)(v:Nat):Prop where
  hx:f.blocks[c]?=some x
  hi:x.ins=l1++t::l2
  pure:t.pure=true
  hv:t.sets=(v:Int)
  dead:need v l2 (ET f x v)=false
  hg:g=f.putB c (x.mid (l1++l2))
def iF(f g:BFunc):Prop:=∃c x l1 t l2 v,He f g c x l1 t l2 v
variable {y : Block}
theorem Fi(hx:f.blocks[c]?=some x):(f.putB c y).blocks[c]?=some y:=by
 have hc:=(q05.1 hx).1;exact q21 hc
theorem Iv(h:c≠d):(f.putB c y).blocks[d]?=f.blocks[d]?:=q36 h
theorem Na(f:BFunc)(c:Nat)(y:Block):(f.putB c y).blocks.length=f.blocks.length:=q83
variable {w : Nat}
theorem So(h:He f g c x l1 t l2 v)(hz:z=true->ET f x w=true):t.sets=(w:Int)->need w l2 z=false:=by
 intro e;have hvw:v=w:=by have:=h.hv.symm.trans e;omega
 subst hvw
 cases hn:need v l2 z with
 |false=>rfl
 |true=>exact(h.dead.symm.trans (BW hz hn)).symm▸rfl
theorem Uy(h:He f g c x l1 t l2 v)(hl:Fa g w d):Fa f w d:=by
 have hg:=h.hg
 induction hl with
 | @here d y h1 h2=>
  by_cases hcd:c=d
  . subst hcd;rw[hg,Fi h.hx]at h1;cases h1;refine .here h.hx ?_;rw[h.hi];exact Ru (So h (fun e=>by unfold ET;rw[show Ei x w=true from e];rfl)) h2
  . rw[hg,Iv hcd]at h1;exact .here h1 h2
 | @thru d e y h1 h2 h3 h4 ih=>
  by_cases hcd:c=d
  . subst hcd;rw[hg,Fi h.hx]at h1;cases h1;refine .thru h.hx ?_ h3 ih;rw[h.hi];have h3':e∈x.nexts:=h3;exact Ru (So h (fun _=>by unfold ET;rw[outB_iff.2 ⟨_,h3',ih⟩,qX6])) h2
  . rw[hg,Iv hcd]at h1;exact .thru h1 h2 h3 ih
theorem dh(h:He f g c x l1 t l2 v)(hw:t.uses.contains (w:Int)=false)(hl:Fa f w d):Fa g w d:=by
 have hg:=h.hg
 induction hl with
 | @here d y h1 h2=>
  by_cases hcd:c=d
  . subst hcd;rw[h.hx]at h1;cases h1;rw[h.hi]at h2;exact .here (x:=x.mid (l1++l2)) (by rw[hg];exact Fi h.hx) (Ou hw h2)
  . exact .here (by rw[hg,Iv hcd];exact h1) h2
 | @thru d e y h1 h2 h3 h4 ih=>
  by_cases hcd:c=d
  . subst hcd;rw[h.hx]at h1;cases h1;rw[h.hi]at h2;exact .thru (x:=x.mid (l1++l2)) (by rw[hg];exact Fi h.hx) (Ou hw h2) h3 ih
  . exact .thru (by rw[hg,Iv hcd];exact h1) h2 h3 ih
variable {y' : Block}
theorem Jj(h:He f g c x l1 t l2 v)(hy:y'.fin=y.fin/\y'.v=y.v/\y'.nexts=y.nexts)(e:ET g y' w=true):ET f y w=true:=by
 grind[ET,Ei,outB_iff,Uy]
theorem P7(h:He f g c x l1 t l2 v)(hy:y'.fin=y.fin/\y'.v=y.v/\y'.nexts=y.nexts)(hw:t.uses.contains (w:Int)=false)(e:ET f y w=true):ET g y' w=true:=by
 grind[ET,Ei,outB_iff,dh]
theorem RB(x:Block)(l:List Tac):(x.mid l).fin=x.fin/\(x.mid l).v=x.v/\(x.mid l).nexts=x.nexts:=⟨rfl,rfl,rfl⟩
theorem Gt{a b:Bool}(h:a=true->b=true)(hb:b=false):a=false:=by cases a with|false=>rfl|true=>rw[h rfl]at hb;cases hb
variable {g1 g2 : BFunc}
theorem Va{c1 c2:Nat}{x1 x2:Block}{m1 m2:List Tac}{u:Tac}(h1:He f g1 c1 x1 l1 t l2 v)(h2:He f g2 c2 x2 m1 u m2 w)(hne:c1≠c2):
 He g1 (g1.putB c2 (x2.mid (m1++m2))) c2 x2 m1 u m2 w where
 hx:=by rw[h1.hg,Iv hne];exact h2.hx
 hi:=h2.hi
 pure:=h2.pure
 hv:=h2.hv
 dead:=Gt (BW (Jj h1 ⟨rfl,rfl,rfl⟩)) h2.dead
 hg:=rfl
theorem Sp{k m2:List Tac}{u:Tac}(h1:He f g1 c x l1 t (k++u::m2) v)(h2:He f g2 c x (l1++t::k) u m2 w):
 He g1 (f.putB c (x.mid (l1++k++m2))) c (x.mid (l1++(k++u::m2))) (l1++k) u m2 w/\He g2 (f.putB c (x.mid (l1++k++m2))) c (x.mid ((l1++t::k)++m2)) l1 t (k++m2) v:=by
 have hpp:∀(y z:Block),(f.putB c y).putB c z=f.putB c z:=fun y z=>by unfold BFunc.putB;rw[List.set_set]
 constructor
 . exact {hx:=by rw[h1.hg];exact Fi h1.hx,hi:=by simp[Block.mid],pure:=h2.pure,hv:=h2.hv,dead:=Gt (BW (Jj h1 (RB _ _))) h2.dead,hg:=by rw[h1.hg,hpp];rfl}
 . refine {hx:=by rw[h2.hg];exact Fi h1.hx,hi:=by simp[Block.mid],pure:=h1.pure,hv:=h1.hv,dead:=?_,hg:=by rw[h2.hg,hpp];simp[Block.mid]};refine Gt (fun e=>?_) h1.dead
   grind[Ru,So,BW,Jj,RB,BFunc.putB,Block.mid]
theorem YL(h1:iF f g1)(h2:iF f g2):g1=g2\/∃h,iF g1 h/\iF g2 h:=by
 obtain⟨c1,x1,l1,t,l2,v,h1⟩:=h1;obtain⟨c2,x2,m1,u,m2,w,h2⟩:=h2
 by_cases hc:c1=c2
 . subst hc;have hx:=h1.hx.symm.trans h2.hx;cases hx;have he:=h1.hi.symm.trans h2.hi;rcases List.append_eq_append_iff.1 he with⟨k,hk1,hk2⟩|⟨k,hk1,hk2⟩
   . cases k with
     |nil=>
      exact sG
     |cons a k=>
      simp only[q73,q88]at hk2;obtain⟨e1,e2⟩:=hk2;subst e1;subst e2;subst hk1;have:=Sp h1 h2;exact .inr ⟨_,⟨_,_,_,_,_,_,this.1⟩,⟨_,_,_,_,_,_,this.2⟩⟩
   . cases k with
     |nil=>
      exact sG
     |cons a k=>
      simp only[q73,q88]at hk2;obtain⟨e1,e2⟩:=hk2;subst e1;subst e2;subst hk1;have:=Sp h2 h1;exact .inr ⟨_,⟨_,_,_,_,_,_,this.2⟩,⟨_,_,_,_,_,_,this.1⟩⟩
 . have a1:=Va h1 h2 hc;have a2:=Va h2 h1 (Ne.symm hc);refine .inr ⟨_,⟨_,_,_,_,_,_,a1⟩,?_⟩;have e:g1.putB c2 (x2.mid (m1++m2))=g2.putB c1 (x1.mid (l1++l2)):=by
    rw[h1.hg,h2.hg];unfold BFunc.putB;simp only;rw[List.set_comm _ _ hc]
   rw[e];exact⟨_,_,_,_,_,_,a2⟩
def mN(f:BFunc):Nat:=(f.blocks.map fun x=>x.ins.length).sum
theorem cy{α:Type}{p:α->Nat}{y:α}:∀{l:List α} {c:Nat} {x:α},l[c]?=some x->((l.set c y).map p).sum+p x=(l.map p).sum+p y
 | [],c,x,h=>by simp at h
 |a::l,0,x,h=>by simp at h;subst h;simp;omega
 |a::l,c+1,x,h=>by
  have ih:=cy (p:=p) (y:=y) (l:=l) (c:=c) (x:=x) HN
  grind
theorem IB(h:iF f g):mN g+1=mN f:=by
 obtain⟨c,x,l1,t,l2,v,h⟩:=h;have:=cy (p:=fun(x:Block)=>x.ins.length) (y:=x.mid (l1++l2)) h.hx;have hl:=congrArg List.length h.hi;rw[h.hg];unfold mN BFunc.putB;simp only[Block.mid,q48,q70]at this hl|-;omega
inductive Cuts:BFunc->BFunc->Prop
  |refl (f:BFunc):Cuts f f
  |step {f g h:BFunc}:iF f g->Cuts g h->Cuts f h
theorem Cuts.trans{h:BFunc}(h1:Cuts f g)(h2:Cuts g h):Cuts f h:=by
 induction h1 with
 |refl=>exact h2
 |step a _ ih=>exact .step a (ih h2)
theorem Cuts.one(h:iF f g):Cuts f g:=.step h (.refl g)
def Clean(f:BFunc):Prop:=∀g,¬iF f g
theorem Ms:∀(n:Nat) (f:BFunc),mN f<=n->∃g,Cuts f g/\Clean g
 |0,f,h=>⟨f,.refl f,fun g hg=>by have:=IB hg;omega⟩
 |n+1,f,h=>by
  by_cases hc:Clean f
  . exact⟨f,.refl f,hc⟩
  . have⟨g,hg⟩:∃g,iF f g:=Classical.not_forall_not.1 hc
    obtain⟨k,h1,h2⟩:=Ms n g (by have:=IB hg;omega);exact⟨k,.step hg h1,h2⟩
theorem Ww:∀(n:Nat) (f:BFunc),mN f<=n->∀{g h},Cuts f g->Clean g->Cuts f h->Clean h->g=h:=by
 intro n
 induction n with
 |zero=>
  intro f hn g h h1 c1 h2 c2
  cases h1 with
  |step a _=>have:=IB a;omega
  |refl=>
   cases h2 with
   |refl=>rfl
   |step a _=>have:=IB a;omega
 |succ n ih=>
  intro f hn g h h1 c1 h2 c2
  cases h1 with
  |refl=>
   cases h2 with
   |refl=>rfl
   |step a _=>exact absurd a (c1 _)
  | @step _ g' _ a1 b1=>
   cases h2 with
   |refl=>exact absurd a1 (c2 _)
   | @step _ h' _ a2 b2=>
    have i1:=IB a1;have i2:=IB a2;rcases YL a1 a2 with e|⟨k,k1,k2⟩
    . subst e;exact ih g' Ab b1 c1 b2 c2
    . obtain⟨m,m1,m2⟩:=Ms _ k (qZ0 _);exact(ih g' Ab b1 c1 (.step k1 m1) m2).trans (ih h' Ab (.step k2 m1) m2 b2 c2)
theorem bl(f:BFunc):∃g,Cuts f g/\Clean g:=Ms _ f (qZ0 _)
noncomputable def NP(f:BFunc):BFunc:=Classical.choose (bl f)
theorem Hb(f:BFunc):Cuts f (NP f):=(Classical.choose_spec (bl f)).1
theorem g7(f:BFunc):Clean (NP f):=(Classical.choose_spec (bl f)).2
theorem nB(h1:Cuts f g)(h2:Clean g):g=NP f:=Ww _ f (qZ0 _) h1 h2 (Hb f) (g7 f)
variable {call' : Int -> Mach -> Mach} {s : ByteArray}
theorem QX(l:List Int)(z v:Int):(A4 l z v).length=l.length:=q83
theorem XX(t:Tac){r r':List Int}(ha:use1 t.op=true\/use2 t.op=true->Ai r t.a=Ai r' t.a)(hb:use2 t.op=true->Ai r t.b=Ai r' t.b)(m:Mach):
 (Bb call s t r m).2=(Bb call s t r' m).2/\((setsOp t.op=true/\∃v,(Bb call s t r m).1=A4 r t.d v/\(Bb call s t r' m).1=A4 r' t.d v)\/((Bb call s t r m).1=r/\(Bb call s t r' m).1=r'/\(setsOp t.op=false\/(Bb call s t r m).2.fin≠0))):=by
 unfold Bb
 cases e1:t.op==1 with
 |true=>exact⟨rfl,.inl ⟨by simp[setsOp,e1],_,rfl,rfl⟩⟩
 |false=>
 cases e2:t.op==2 with
 |true=>rw[ha (.inl (by simp[use1,e2]))];exact⟨rfl,.inl ⟨by simp[setsOp,e2],_,rfl,rfl⟩⟩
 |false=>
 cases e3:t.op==3 with
 |true=>
  grind[use2,Cp,Ai,setsOp,use1,Bb,A4]
 |false=>
 cases e4:t.op==4 with
 |true=>exact⟨rfl,.inl ⟨by simp[setsOp,e4],_,rfl,rfl⟩⟩
 |false=>
 cases e5:t.op==5 with
 |true=>rw[ha (.inl (by simp[use1,e5]))];exact⟨rfl,.inr ⟨rfl,rfl,.inl (by rw[eq_of_beq e5];rfl)⟩⟩
 |false=>
 cases e6:t.op==6 with
 |true=>
  grind[use1,Ai,setsOp,use2,Bb,A4,Cp]
 |false=>
 cases e7:t.op==7 with
 |true=>
  grind[use2,Ai,use1,Bb,setsOp,A4,Cp]
 |false=>
 cases e8:t.op==8 with
 |true=>
  grind[setsOp,use1,use2,Ai,Bb,A4,Cp]
 |false=>
 have hs:setsOp t.op=false:=by simp[setsOp,e1,e2,e3,e4,e6,e8]
 cases e9:t.op==9 with
 |true=>
  grind[use1,use2,Ai,Bb,setsOp,A4,Cp]
 |false=>
 cases t.op==10<;>exact⟨rfl,.inr ⟨rfl,rfl,.inl hs⟩⟩
theorem N6{z:Int}{v:Int}(hz:0<=z):Ai (A4 l z v) (w:Int)=if z=(w:Int)/\z.toNat<l.length then v else Ai l (w:Int):=by
 grind[Ai,A4]
def Tac.low(t:Tac):Prop:=(setsOp t.op=true->0<=t.d)/\(use1 t.op=true\/use2 t.op=true->0<=t.a)/\(use2 t.op=true->0<=t.b)
def GQ(p:Nat->Bool)(r r':List Int):Prop:=r.length=r'.length/\∀v:Nat,p v=true->Ai r (v:Int)=Ai r' (v:Int)
theorem K1(h:setsOp t.op=true):t.sets=t.d:=by unfold Tac.sets;rw[h];rfl
theorem fk(h:setsOp t.op=false):t.sets= -1:=by unfold Tac.sets;rw[h];rfl
def Np(z:Nat->Bool)(X Y:Bool×List Int×Mach):Prop:=X.1=false/\X.2.2.fin=5\/X.1=Y.1/\X.2.2.Le Y.2.2/\(X.1=true->X.2.2.fin=0/\GQ z X.2.1 Y.2.1)/\(X.1=false->X.2.2.fin≠0)
variable {b a : List Int} {r : List Tac} {z : Nat -> Bool}
theorem bz(h:GQ (fun v=>need v (t::r) (z v)) a b)(hl:t.low):(use1 t.op=true\/use2 t.op=true->Ai a t.a=Ai b t.a)/\(use2 t.op=true->Ai a t.b=Ai b t.b):=by
 have key:∀u,0<=u->t.uses.contains u=true->Ai a u=Ai b u:=fun u hu hc=>by
  grind[need,GQ,use1,use2,Ai]
 have e12:=O9 t.op;constructor
 . intro e;refine key t.a (hl.2.1 e) ?_;rcases e with e|e<;>simp[Tac.uses,e]<;>cases use1 t.op<;>simp
 . intro e;rw[e,qQ4]at e12;exact key t.b (hl.2.2 e) (by simp[Tac.uses,e,e12])
variable {ok : Int -> Prop}
theorem gc(hc:E9 call call' ok)(ht:t.op=10->ok t.base)(hl:t.low)(h:GQ (fun v=>need v (t::r) (z v)) a b){m m':Mach}(h0:m.fin=0)(hm:m.Le m'):
 (Bb call s t a m).2.Sim (Bb call' s t b m').2/\((Bb call s t a m).2.fin=0->GQ (fun v=>need v r (z v)) (Bb call s t a m).1 (Bb call' s t b m').1):=by
 obtain⟨u1,u2⟩:=bz h hl;obtain⟨e1,e2⟩:=XX (call:=call) (s:=s) t u1 u2 m;obtain⟨s1,s2⟩:=XY (s:=s) hc t ht b h0 hm;rw[e1,<-s1];refine⟨s2,fun hf=>?_⟩;rcases e2 with⟨hs,v,a1,a2⟩|⟨a1,a2,a3⟩
 . rw[a1,a2];refine⟨by rw[QX,QX];exact h.1,fun w hw=>?_⟩;rw[N6 (hl.1 hs),N6 (hl.1 hs),h.1]
   by_cases hd:t.d=(w:Int)
   . by_cases hlen:t.d.toNat<b.length
     . rw[qK0 ⟨hd,hlen⟩,qK0 ⟨hd,hlen⟩]
     . rw[qZ9 (fun e=>hlen e.2),qZ9 (fun e=>hlen e.2)];have hw2:w>=b.length:=by omega
       unfold Ai;rw[q55,q09.2 hw2,q09.2 (by rw[h.1];exact hw2)]
   . rw[qZ9 (fun e=>hd e.1),qZ9 (fun e=>hd e.1)];refine h.2 w ?_;show need w (t::r) (z w)=true;unfold need;rw[K1 hs,show(t.d==(w:Int))=false by simpa using hd,show need w r (z w)=true from hw]
     simp
 . grind[need,fk,E9,GQ,Bb,Ai]
theorem ph{a b:Int}(hk:4<=k/\k<=15)(h7:k≠7)(h8:k≠8):(Cp k a b).2=0:=by
 grind[Cp]
theorem gb(hp:t.pure=true)(hk:t.op=3->4<=t.k/\t.k<=15)(r:List Int)(m:Mach):∃v,Bb call s t r m=(A4 r t.d v,m):=by
 unfold Tac.pure at hp;simp only[q81,q66,q61,q40,qZ4]at hp;unfold Bb;rcases hp with h|h|h|⟨h,h7,h8⟩
 . rw[h];exact⟨_,rfl⟩
 . rw[h];exact⟨_,rfl⟩
 . rw[h];exact⟨_,rfl⟩
 . have:=ph (a:=Ai r t.a) (b:=Ai r t.b) (hk h) h7 h8;rw[h,this];exact⟨_,rfl⟩
theorem fP(hp:t.pure=true):setsOp t.op=true:=by
 grind[Tac.pure,setsOp]
structure oz(ok:Int->Prop)(f:BFunc):Prop where
  ins:∀x∈f.blocks,∀t∈x.ins,(t.op=10->ok t.base)/\t.low/\(t.op=3->4<=t.k/\t.k<=15)
  fin:∀x∈f.blocks,(x.fin=1\/x.fin=2\/x.fin=3)/\(x.fin=2->0<=x.v)
variable {k : Block}
theorem mh(hf:k.fin=1\/k.fin=2\/k.fin=3)(h3:(k.fin==3)=false)(regs:List Int):k.next regs∈k.nexts:=by
 grind[Block.next,Block.nexts,Ai]
theorem aF(hv:k.fin=2->0<=k.v)(h:GQ (ET f k) a b):k.next a=k.next b:=by
 unfold Block.next
 cases h2:k.fin==2 with
 |false=>rfl
 |true=>
  have h0:=hv Ke;have:=h.2 k.v.toNat (by unfold ET Ei;rw[h2,q41 h0];simp);rw[q41 h0]at this;rw[this]
theorem bA(hf:k.fin=1\/k.fin=2\/k.fin=3)(h3:(k.fin==3)=false)(h:GQ (ET f k) a b):GQ (fun v=>Za f v (k.next a).toNat) a b:=
 ⟨h.1,fun v hv=>h.2 v (by unfold ET;rw[outB_iff.2 ⟨_,mh hf h3 a,inB_iff.1 hv⟩,qX6])⟩
theorem ni(h:iF f g)(hf:oz ok f):oz ok g:=by
 obtain⟨c,x,l1,t,l2,v,h⟩:=h;have key:∀y∈g.blocks,y∈f.blocks\/y=x.mid (l1++l2):=fun y hy=>by
  rw[h.hg]at hy;exact q08 hy
 have hxm:=q33 h.hx;constructor
 . intro y hy u hu;rcases key y hy with hy|rfl
   . exact hf.ins y hy u hu
   . refine hf.ins x hxm u ?_;exact jh
 . intro y hy;rcases key y hy with hy|rfl
   . exact hf.fin y hy
   . exact hf.fin x hxm
variable {w : Int}
theorem lX{n:Int}(h:f.one n w=true):oz (fun j=>0<=j/\j<n) f:=by
 have hs:=CR h;constructor
 . intro x hx t ht;have ht':=(hs.2.2.2 x hx).2 t ht;have hI:=QH ht';refine⟨fun ho=>by have:=hI.call ho;omega,⟨fun e=>(hI.d e).1,fun e=>(hI.a e).1,fun e=>(hI.b e).1⟩,fun ho=>?_⟩;simp only[Tac.fits,q66]at ht';have h5:=ht'.2.2.2.2.1;unfold Tac.rest at h5;rw[ho]at h5;simpa using h5
 grind[Block.ends,A2]
theorem KN(h:Cuts f g):g.regs=f.regs/\g.blocks.length=f.blocks.length:=by
 induction h with
 |refl=>exact⟨rfl,rfl⟩
 |step a _ ih=>
  obtain⟨c,x,l1,t,l2,v,a⟩:=a;rw[a.hg]at ih;exact⟨ih.1,by rw[ih.2,Na]⟩
theorem qQ{n:Int}(h:iF f g)(h1:f.one n w=true):g.one n w=true:=by
 obtain⟨c,x,l1,t,l2,v,h⟩:=h;have hxm:=q33 h.hx;have hlen:g.blocks.length=f.blocks.length:=by rw[h.hg,Na]
 have hreg:g.regs=f.regs:=by rw[h.hg];rfl
 simp only[BFunc.one,q66,q56,q61,q10,q67]at h1|-;refine⟨by rw[hreg];exact h1.1,by rw[hreg];exact h1.2.1,fun e=>h1.2.2.1 (by rw[<-q18,<-hlen,e];rfl),fun y hy=>?_⟩;rw[hlen,hreg];rw[h.hg]at hy;rcases q08 hy with hy|rfl
 . exact h1.2.2.2 y hy
 . have hx1:=h1.2.2.2 x hxm;simp only[Block.ok,q66,q67]at hx1|-;refine⟨hx1.1,fun u hu=>hx1.2 u ?_⟩;exact jh
theorem nE{n:Int}(h:Cuts f g)(h1:f.one n w=true):g.one n w=true:=by
 induction h with
 |refl=>exact h1
 |step a _ ih=>exact ih (qQ a h1)
theorem dM{n:Int}(h1:f.one n w=true):(NP f).one n w=true:=nE (Hb f) h1
noncomputable def Blocks.dnf(b:Blocks):Blocks:=⟨b.words,b.funcs.map Sv.NP⟩
def H7(R:Nat)(p:Nat->Bool):List Bool:=(List.range R).map p
theorem Jd(R:Nat)(p:Nat->Bool):(H7 R p).length=R:=by simp[H7]
variable {p : Nat -> Bool}
theorem XW(h:v<R):(H7 R p)[v]?=some (p v):=by simp[H7,h]
variable {q : Nat -> Bool}
theorem Mj(h:∀v,v<R->p v=q v):H7 R p=H7 R q:=by
 unfold H7;exact q42 fun v hv=>h v (q94.1 hv)
def nd(R:Nat)(x:Block)(p:Nat->Bool)(i:Nat):List Bool:=H7 R (fun v=>need v (x.ins.drop i) (Ei x v||p v))
noncomputable def LU(f:BFunc)(c:Nat):List Bool:=H7 f.regs.toNat (fun v=>Za f v c)
noncomputable def V2(f:BFunc)(x:Block):List Bool:=H7 f.regs.toNat (outB f x)
noncomputable def Fx(f:BFunc):List (List Bool):=(List.range f.blocks.length).map (LU f)
noncomputable def JC(f:BFunc):List (List Bool):=f.blocks.map (V2 f)
structure BFunc.sane(f:BFunc):Prop where
  regs:0<=f.regs
  low:∀x∈f.blocks,∀t∈x.ins,t.inR f.regs
  fin:∀x∈f.blocks,x.fin=2->0<=x.v/\x.v<f.regs
  next:∀x∈f.blocks,∀d∈x.nexts,0<=d/\d<f.blocks.length
abbrev BB:=Nat->Nat->Bool
def SN(f:BFunc)(I:BB):Prop:=∀b v,I b v=true->Fa f v b
def JW(f:BFunc)(O:BB):Prop:=∀b v,O b v=true->∃x,f.blocks[b]?=some x/\outB f x v=true
def NN(f:BFunc)(R:Nat)(I O:BB)(b:Nat):Prop:=∀x,f.blocks[b]?=some x->∀v,v<R->(∀d∈x.nexts,I d.toNat v=true->O b v=true)/\(need v x.ins (Ei x v||O b v)=true->I b v=true)
def KG(n R:Nat)(I:BB):Nat:=((List.range n).map fun b=>((List.range R).map fun v=>if I b v then 0 else 1).sum).sum
def lG(I:BB)(b v:Nat)(z:Bool):BB:=fun b' v'=>if b'=b/\v'=v then z else I b' v'
theorem km{n:Nat}{p q:Nat->Nat}(h:∀k,k<n->p k<=q k)(hj:j<n)(hlt:p j<q j):((List.range n).map p).sum<((List.range n).map q).sum:=by
 induction n with
 |zero=>omega
 |succ n ih=>
  rw[q79,q77,q77,q82,q82];simp only[qQ0,qX9,qQ2,List.sum_nil];have hle:∀m,m<=n->((List.range m).map p).sum<=((List.range m).map q).sum:=by
   intro m
   induction m with
   |zero=>intro _;exact qZ0 _
   |succ m im=>
    intro hm;rw[q79,q77,q77,q82,q82];simp only[qQ0,qX9,qQ2,List.sum_nil];have:=im Ab;have:=h m Ab;omega
  have h1:=h n Ab
  by_cases hjn:j=n
  . subst hjn;have:=hle j (qZ0 _);omega
  . have:=ih (fun k hk=>h k Ab) Ab;omega
variable {b : Nat} {O : BB}
theorem Xc{I:BB}(hO:JW f O)(hx:f.blocks[b]?=some x)(hn:need v x.ins (Ei x v||O b v)=true):Fa f v b:=by
 rw[<-inB_iff,aT hx];refine BW (fun e=>?_) hn;unfold ET;rw[q81]at e|-;rcases e with e|e
 . exact .inl e
 . obtain⟨y,hy,h⟩:=hO b v e;rw[hx]at hy;cases hy;exact .inr h
variable {d : Int} {I : BB}
theorem ZL(hI:SN f I)(hO:JW f O)(hx:f.blocks[b]?=some x)(hd:d∈x.nexts):JW f (lG O b v (O b v||I d.toNat v)):=by
 intro b' v' h;unfold lG at h;split at h
 . rename_i e;obtain⟨rfl,rfl⟩:=e;rw[q81]at h;rcases h with h|h
   . exact hO _ _ h
   . exact⟨x,hx,outB_iff.2 ⟨d,hd,hI _ _ h⟩⟩
 . exact hO _ _ h
theorem Vb(hs:f.sane)(hI:SN f I)(hO:JW f O)(hc:∀b,b<f.blocks.length->NN f f.regs.toNat I O b)(hb:b<f.blocks.length)(hv:v<f.regs.toNat):I b v=Za f v b:=by
 rw[Bool.eq_iff_iff,inB_iff];refine⟨hI b v,fun h=>?_⟩;refine RM (I:=fun b=>I b v) (fun c x hx hn=>?_) h;have hcl:=hc c (q05.1 hx).1 x hx v hv;refine hcl.2 (BW (fun e=>?_) hn);rw[q81]at e|-;rcases e with e|e
 . exact .inl e
 . obtain⟨d,h1,h2⟩:=q74.1 e;exact .inr (hcl.1 d h1 h2)
theorem bm(hs:f.sane)(hI:SN f I)(hO:JW f O)(hc:∀b,b<f.blocks.length->NN f f.regs.toNat I O b)(hx:f.blocks[b]?=some x)(hv:v<f.regs.toNat):O b v=outB f x v:=by
 have hb:=(q05.1 hx).1;rw[Bool.eq_iff_iff,outB_iff];constructor
 . intro h;obtain⟨y,hy,h'⟩:=hO b v h;rw[hx]at hy;cases hy;exact outB_iff.1 h'
 . rintro⟨d,h1,h2⟩
   have hd:=hs.next x (q33 hx) d h1;have:=Vb hs hI hO hc (b:=d.toNat) (v:=v) Ab hv;exact(hc b hb x hx v hv).1 d h1 (by rw[this];exact inB_iff.2 h2)
variable {es : List (List AV)} {sz : Nat}
theorem cA{n:Nat}{p:Bool}(hb:h b=some (.row p sz es))(hn:n=es.length):SrcOf h (.ref b n 0 n) [b] es:=by
 subst hn;have:=SrcOf.ref b es.length 0 es.length p sz es hb rfl;rwa[q95,q71]at this
theorem Qb(φ:Nat->Nat)(m:List Nat):Bs φ [] m:=fun _ h=>by cases h
variable {m : List Nat} {φ : Nat -> Nat}
theorem AX(h:φ b∈m):Bs φ [b] m:=fun c hc=>by rw[q47]at hc;subst hc;exact h
theorem Qa(h:φ b∈m)(h':φ c∈m):Bs φ [b,c] m:=fun d hd=>by
 simp only[q99,List.not_mem_nil,or_false]at hd;rcases hd with rfl|rfl
 . exact h
 . exact h'
theorem kZ{v:Value}(h:Rel H ι .nil v):Rel H ι (.lst true []) v:=by
 rw[h.nil_inv];exact .lst0 _ _ none 0 (fun _=>rfl) (qZ1 _) (fun _=>rfl) trivial
theorem Ot(x:Block):x.nexts.length<=2:=by
 grind[Block.nexts]
def b2n(b:Bool):Nat:=bif b then 1 else 0
variable {cs : List AV}
theorem Ghost.endCell{n:Nat}(b0 j b:Nat){sz0:Nat}(hb0:h b0=some (.row false sz0 [cs]))(hj:cs[j]?=some (Bo b es))(hb:h b=some (BU sz es))(hne:b0≠b):
 Ghost ⟨n,e,h⟩ ⟨n,e,Af (hrm h b) b0 (.row false sz0 [cs.set j (.lst false es)])⟩:=by
 cases hes:es.isEmpty with
 |false=>
  have e1:Bo b es=.ref b es.length 0 es.length:=by simp[Bo,hes,UJ]
  have e2:BU sz es=.row true sz es:=by simp[BU,hes,Oz]
  rw[e1]at hj;rw[e2]at hb;have:=Ghost.freezeCell (n:=n) (e:=e) b0 0 j b hb0 rfl hj hb rfl hne;rwa[q95,q71]at this
 |true=>
  have e0:es=[]:=List.isEmpty_iff.1 hes;subst e0;have hj':cs[j]?=some (.lst true []):=hj;refine(qV5 b0 (es':=[cs.set j (.lst false [])]) hb0 rfl ?_).trans (.of_sub ⟨rfl,fun _ _ h=>h,fun c x hx=>?_⟩)
  . intro i ds ds' h1 h2
    cases i with
    |zero=>
     simp only[List.getElem?_cons_zero,q53]at h1 h2;subst h1;subst h2;refine⟨by simp,fun k x y hx hy=>?_⟩;rw[q60]at hy
     by_cases hk:j=k
     . subst hk;rw[hj']at hx;cases hx;have hlt:=(q05.1 hj').1;rw[qK0 rfl,qK0 hlt]at hy;cases hy;exact⟨fun _=>rfl,fun H ι v h=>Q1 h⟩
     . rw[qZ9 hk,hx]at hy;cases hy;exact⟨fun h=>h,fun _ _ _ h=>h⟩
    |succ i=>simp at h1
  . have h1:Af (hrm h b) b0 (.row false sz0 [cs.set j (.lst false [])]) c=some x:=hx;show Af h b0 _ c=some x
    by_cases hc:c=b0
    . subst hc;rw[AB]at h1|-;exact h1
    . rw[Bd _ _ hc]at h1|-
      by_cases hcb:c=b
      . subst hcb;have:hrm h c c=some x:=h1;unfold hrm at this;rw[show Nat.beq c c=true from Nat.beq_refl c]at this
        cases this
      . rwa[Hm _ hcb]at h1
theorem nF(h:iF f g)(hs:f.sane):g.sane:=by
 obtain⟨c,x,l1,t,l2,v,h⟩:=h;have hxm:=q33 h.hx;have hlen:g.blocks.length=f.blocks.length:=by rw[h.hg,Na]
 have hreg:g.regs=f.regs:=by rw[h.hg];rfl
 have key:∀y∈g.blocks,y∈f.blocks\/y=x.mid (l1++l2):=fun y hy=>by
  rw[h.hg]at hy;exact q08 hy
 refine⟨by rw[hreg];exact hs.regs,fun y hy u hu=>?_,fun y hy=>?_,fun y hy d hd=>?_⟩
 . rw[hreg];rcases key y hy with hy|rfl
   . exact hs.low y hy u hu
   . refine hs.low x hxm u ?_;exact jh
 . rw[hreg];rcases key y hy with hy|rfl
   . exact hs.fin y hy
   . exact hs.fin x hxm
 . rw[hlen];rcases key y hy with hy|rfl
   . exact hs.next y hy d hd
   . exact hs.next x hxm d hd
theorem ic(h:Cuts f g)(hs:f.sane):g.sane:=by
 induction h with
 |refl=>exact hs
 |step a _ ih=>exact ih (nF a hs)
def KJ(p:Nat->Bool):Nat->Nat
  |0=>0
  |n+1=>KJ p n+(if p n then 2^n else 0)
theorem Wp(p:Nat->Bool):∀n,KJ p n<2^n
 |0=>by simp[KJ]
 |n+1=>by
  have ih:=Wp p n
  grind[KJ]
theorem KI(p:Nat->Bool):∀n i,(KJ p n).testBit i=(decide (i<n)&&p i)
 |0,i=>by simp[KJ]
 |n+1,i=>by
  have ih:=KI p n i;have hlt:=Wp p n;unfold KJ
  by_cases hp:p n=true
  . rw[qK0 hp,Nat.add_comm]
    by_cases h1:i<n
    . rw[Nat.testBit_two_pow_add_gt h1,ih];simp[h1];omega
    . by_cases h2:i=n
      . subst h2;rw[Nat.testBit_two_pow_add_eq,ih];simp[hp]
      . have h3:2^n+KJ p n<2^i:=by
         have:2^(n+1)<=2^i:=Nat.pow_le_pow_right Ab Ab;rw[Nat.pow_succ]at this;omega
        rw[Nat.testBit_lt_two_pow h3];have:¬i<n+1:=by omega
        simp[this]
  . rw[qZ9 hp,qX5,ih]
    by_cases h2:i=n
    . subst h2;simp[hp]
    . by_cases h1:i<n
      . have:i<n+1:=by omega
        simp[h1,this]
      . have:¬i<n+1:=by omega
        simp[h1,this]
theorem NA{n x:Nat}(h:∀i,x.testBit i=(decide (i<n)&&p i)):x=KJ p n:=Nat.eq_of_testBit_eq fun i=>by rw[h,KI]
theorem If{n:Nat}(h:∀i,i<n->p i=q i):KJ p n=KJ q n:=NA fun i=>by
 grind[KI,KJ]
theorem nt{n:Nat}(h:KJ p n=KJ q n):∀i,i<n->p i=q i:=fun i hi=>by
 have:=congrArg (fun x=>x.testBit i) h
 grind[KI,KJ]
theorem MB{x:Nat}(h:x<18446744073709551616):IntKind.u64.wrap (x:Int)=(x:Int):=C6 h
theorem Ja(w x:Nat):BitVec.ofInt w (x:Int)=BitVec.ofNat w x:=by
 grind
def wd(p:Nat->Bool):Nat:=KJ p 64
theorem WY(p:Nat->Bool):wd p<18446744073709551616:=Wp p 64
theorem Vp(p:Nat->Bool)(i:Nat):(wd p).testBit i=(decide (i<64)&&p i):=KI p 64 i
theorem jI(p:Nat->Bool):wd p%2^64=wd p:=Nat.mod_eq_of_lt (WY p)
theorem jG(p q:Nat->Bool):A8 .or (.int .u64 (wd p:Int)) (.int .u64 (wd q:Int))=some (.int .u64 (wd (fun v=>p v||q v):Int)):=by
 have e:(BitVec.ofInt 64 (wd p:Int)|||BitVec.ofInt 64 (wd q:Int)).toNat=wd (fun v=>p v||q v):=by
  rw[Ja,Ja,BitVec.toNat_or,BitVec.toNat_ofNat,BitVec.toNat_ofNat,jI,jI];refine NA fun i=>?_
  grind[Vp,A8,wd]
 show some (AV.int .u64 (IntKind.u64.wrap ((BitVec.ofInt 64 (wd p:Int)|||BitVec.ofInt 64 (wd q:Int)).toNat:Int)))=_;rw[e,MB (WY _)]
theorem Tu(p q:Nat->Bool):A8 .andNot (.int .u64 (wd p:Int)) (.int .u64 (wd q:Int))=some (.int .u64 (wd (fun v=>p v&& !q v):Int)):=by
 have e:(BitVec.ofInt 64 (wd p:Int)&&& ~~~BitVec.ofInt 64 (wd q:Int)).toNat=wd (fun v=>p v&& !q v):=by
  refine NA fun i=>?_
  rw[Ja,Ja];rw[<-BitVec.getLsbD.eq_1,BitVec.getLsbD_and,BitVec.getLsbD_not,BitVec.getLsbD_ofNat,BitVec.getLsbD_ofNat,Vp,Vp]
  cases decide (i<64)<;>simp
 show some (AV.int .u64 (IntKind.u64.wrap ((BitVec.ofInt 64 (wd p:Int)&&& ~~~BitVec.ofInt 64 (wd q:Int)).toNat:Int)))=_;rw[e,MB (WY _)]
theorem jH{i:Nat}(h:i<64):A8 .shl (.int .u64 1) (.int .i64 (i:Int))=some (.int .u64 (wd (fun v=>v==i):Int)):=by
 have e:(2:Nat)^i=wd (fun v=>v==i):=NA fun k=>by
  grind
 have hl:(2:Nat)^i<18446744073709551616:=by rw[e];exact WY _
 have h1:min ((i:Int).toNat) IntKind.u64.bits=i:=by rw[q55];show min i 64=i;omega
 have h2:A8 .shl (.int .u64 1) (.int .i64 (i:Int))=some (.int .u64 (IntKind.u64.wrap (1*2^(min ((i:Int).toNat) IntKind.u64.bits)))):=by
  have hn:¬((i:Int)<0):=by omega
  simp[A8,isShift,BP,hn]
 rw[h2,h1,Int.one_mul,show((2:Int)^i)=(((2:Nat)^i:Nat):Int) by simp,MB hl,e]
theorem uY{i:Nat}(h:i<64):A8 .shr (.int .u64 (wd p:Int)) (.int .i64 (i:Int))=some (.int .u64 ((wd p/2^i:Nat):Int)):=by
 have h1:min ((i:Int).toNat) IntKind.u64.bits=i:=by rw[q55];show min i 64=i;omega
 grind[A8,wd,isShift,BP]
theorem pf(p:Nat->Bool){i:Nat}(h:i<64):A8 .and (.int .u64 ((wd p/2^i:Nat):Int)) (.int .u64 1)=some (.int .u64 ((b2n (p i):Nat):Int)):=by
 have hb:=Vp p i;have e:(BitVec.ofInt 64 ((wd p/2^i:Nat):Int)&&&BitVec.ofInt 64 (1:Int)).toNat=b2n (p i):=by
  have e1:BitVec.ofInt 64 (1:Int)=BitVec.ofNat 64 1:=by decide
  rw[Ja,e1,BitVec.toNat_and,BitVec.toNat_ofNat,BitVec.toNat_ofNat];have hl:wd p/2^i<2^64:=Nat.lt_of_le_of_lt (Nat.div_le_self _ _) (WY p);rw[Nat.mod_eq_of_lt hl,show 1%2^64=1 from rfl,Nat.and_one_is_mod];rw[Nat.testBit_eq_decide_div_mod_eq]at hb;simp only[h,decide_true,qQ5]at hb
  cases hp:p i with
  |true=>rw[hp]at hb;simp at hb;simp[b2n,hb]
  |false=>rw[hp]at hb;simp at hb;simp[b2n];omega
 show some (AV.int .u64 (IntKind.u64.wrap ((BitVec.ofInt 64 ((wd p/2^i:Nat):Int)&&&BitVec.ofInt 64 (1:Int)).toNat:Int)))=_
 grind[MB,b2n,A8,wd]
theorem uZ(b:Bool):A8 .eql (.int .u64 ((b2n b:Nat):Int)) (.int .u64 1)=some (.bool b):=by cases b<;>rfl
def nw(R:Nat):Nat:=(R+63)/64
def B6(p:Nat->Bool)(j:Nat):List AV:=[AV.int .u64 ((wd (fun v=>p (64*j+v)):Nat):Int)]
def B1(R:Nat)(p:Nat->Bool):List (List AV):=(List.range (nw R)).map (B6 p)
theorem BJ(R:Nat)(p:Nat->Bool):(B1 R p).length=nw R:=by simp[B1]
theorem FA(h:j<nw R):(B1 R p)[j]?=some (B6 p j):=by simp[B1,h]
theorem XT{i:Nat}(h:i<R):i/64<nw R:=by unfold nw;omega
theorem Fc(h:∀v,v<64->p (64*j+v)=q (64*j+v)):B6 p j=B6 q j:=by
 grind[B6,wd,If]
theorem EY(h:∀v,p v=q v):B1 R p=B1 R q:=q42 fun j _=>Fc fun v _=>h _
theorem fD(R:Nat):List.replicate (nw R) [AV.int .u64 0]=B1 R (fun _=>false):=by
 have e:∀j,B6 (fun _=>false) j=[AV.int .u64 0]:=fun j=>by
  unfold B6 wd;have:KJ (fun _=>false) 64=0:=(NA (p:=fun _=>false) (n:=64) (x:=0) (fun i=>by simp)).symm;rw[this];rfl
 refine q62 fun i=>?_
 grind[nw,FA,List.length_replicate,BJ,B1]
theorem MV(h1:∀v,v/64≠j->q v=p v):(B1 R p).set j (B6 q j)=B1 R q:=by
 refine q62 fun i=>?_
 grind[nw,FA,BJ,Fc,B1,B6]
theorem n8{i:Nat}(hv:v<64):(64*(i/64)+v==i)=(v==i%64):=by
 grind
theorem Zp(p:Nat->Bool)(i:Nat):B6 (fun v=>p v||v==i) (i/64)=[AV.int .u64 ((wd (fun v=>p (64*(i/64)+v)||v==i%64):Nat):Int)]:=by
 grind[B6,wd,If,n8]
theorem eA(p:Nat->Bool)(i:Nat):B6 (fun v=>p v&& !(v==i)) (i/64)=[AV.int .u64 ((wd (fun v=>p (64*(i/64)+v)&& !(v==i%64)):Nat):Int)]:=by
 grind[B6,wd,If,n8]
theorem cS{i:Nat}(h:i<=1000000000):A8 .quo (.int .i64 (i:Int)) (.int .i64 64)=some (.int .i64 ((i/64:Nat):Int)):=NB (b:=64) Al (KW Ab)
theorem kY{i:Nat}:A8 .rem (.int .i64 (i:Int)) (.int .i64 64)=some (.int .i64 ((i%64:Nat):Int)):=G9 (b:=64) Al
def D2(v:Nat)(l:List Tac):Bool:=l.any fun t=>t.sets==(v:Int)
theorem Rt(v:Nat)(z:Bool):∀l,need v l z=(need v l false||(z&& !D2 v l))
 | []=>by simp[need,D2]
 |t::r=>by
  have ih:=Rt v z r
  grind[need,D2]
def M3(x:Block)(v:Nat):Bool:=need v x.ins (Ei x v)
theorem aG(x:Block)(v:Nat)(o:Bool):need v x.ins (Ei x v||o)=(M3 x v||(o&& !D2 v x.ins)):=by
 grind[M3,Rt,Ei,need,D2]
def cM(t:Tac)(p:Nat->Bool):Nat->Bool:=fun v=>p v&& !(t.sets==(v:Int))
def IF(us:List Int)(p:Nat->Bool):Nat->Bool:=fun v=>us.contains (v:Int)||p v
def PK(t:Tac)(q:Nat->Bool):Nat->Bool:=fun v=>q v||t.sets==(v:Int)
def tR(x:Block)(pre:List Nat):Nat->Bool:=pre.foldl (fun p k=>match x.ins[k]? with
  |some t=>IF t.uses (cM t p)
  |none=>p) (Ei x)
def tS(x:Block)(pre:List Nat):Nat->Bool:=pre.foldl (fun p k=>match x.ins[k]? with
  |some t=>PK t p
  |none=>p) (fun _=>false)
variable {k : Nat} {pre : List Nat}
theorem pr(h:x.ins[k]?=some t):tR x (pre++[k])=IF t.uses (cM t (tR x pre)):=by
 grind[tR,IF,cM]
theorem pq(h:x.ins[k]?=some t):tS x (pre++[k])=PK t (tS x pre):=by
 grind[tS,PK]
theorem TX(k:Nat):(List.range (k+1)).reverse=k::(List.range k).reverse:=by
 rw[q79,List.reverse_append];rfl
theorem ug(x:Block)(v:Nat):∀(m:Nat) (p:Nat->Bool),m<=x.ins.length->((List.range m).reverse.foldl (fun p k=>match x.ins[k]? with
 |some t=>IF t.uses (cM t p)
 |none=>p) p) v=need v (x.ins.take m) (p v)
 |0,p,_=>by simp[need]
 |m+1,p,h=>by
  obtain⟨t,ht⟩:=Ad (l:=x.ins) (k:=m) Ab;rw[TX,q85,ug x v m _ Ab,ht];have e:x.ins.take (m+1)=x.ins.take m++[t]:=by
   rw[q59,ht];rfl
  rw[e,Kx];congr 1;unfold IF cM;simp[need,Bool.and_comm]
theorem uf(x:Block)(v:Nat):∀(m:Nat) (p:Nat->Bool),m<=x.ins.length->((List.range m).reverse.foldl (fun p k=>match x.ins[k]? with
 |some t=>PK t p
 |none=>p) p) v=(p v||D2 v (x.ins.take m))
 |0,p,_=>by simp[D2]
 |m+1,p,h=>by
  obtain⟨t,ht⟩:=Ad (l:=x.ins) (k:=m) Ab;rw[TX,q85,uf x v m _ Ab,ht];have e:x.ins.take (m+1)=x.ins.take m++[t]:=by
   rw[q59,ht];rfl
  rw[e];unfold PK D2;rw[List.any_append];simp only[List.any_cons,List.any_nil,Bool.or_false]
  cases p v<;>cases t.sets==(v:Int)<;>cases (List.any (List.take m x.ins) fun t=>t.sets==(v:Int))<;>rfl
theorem vh(x:Block)(v:Nat):tR x (List.range x.ins.length).reverse v=M3 x v:=by
 have:=ug x v x.ins.length (Ei x) (qZ0 _);rw[q71]at this;exact this
theorem vf(x:Block)(v:Nat):tS x (List.range x.ins.length).reverse v=D2 v x.ins:=by
 have:=uf x v x.ins.length (fun _=>false) (qZ0 _);rw[q71]at this;exact this.trans Aq
def F8(R:Nat)(p:Nat->Bool):AObj:=.row true 1 (B1 R p)
theorem DT(h:∀v,p v=q v):some (F8 R p)=some (F8 R q):=congrArg (fun es=>some (AObj.row true 1 es)) (EY h)
theorem OU(h:0<=d)(v:Nat):(v==d.toNat)=(d==(v:Int)):=by
 grind
theorem pJ(h:0<=t.sets)(v:Nat):(p v&& !(v==t.sets.toNat))=cM t p v:=by unfold cM;rw[OU h]
theorem kw(h:0<=t.sets)(v:Nat):(p v||v==t.sets.toNat)=PK t p v:=by unfold PK;rw[OU h]
theorem pK(h:¬0<=t.sets)(v:Nat):p v=cM t p v:=by
 grind[cM]
theorem kx(h:¬0<=t.sets)(v:Nat):p v=PK t p v:=by
 grind[PK]
theorem iD(v:Nat):p v=IF [] p v:=by simp[IF]
theorem bD{us:List Int}(h:us[k]?=some u)(hu:0<=u)(v:Nat):(IF (us.take k) p v||v==u.toNat)=IF (us.take (k+1)) p v:=by
 unfold IF;have e:us.take (k+1)=us.take k++[u]:=by rw[q59,h];rfl
 grind
theorem nq(h:x.fin=2)(h0:0<=x.v)(v:Nat):(false||v==x.v.toNat)=Ei x v:=by
 grind[OU,Ei]
theorem qK(h:¬x.fin=2)(v:Nat):false=Ei x v:=by
 simp[Ei,h]
def AH(g:Nat->AV)(n:Nat):List (List AV):=(List.range n).map fun b=>[g b]
theorem Av(g:Nat->AV)(n:Nat):(AH g n).length=n:=by simp[AH]
variable {g : Nat -> AV}
theorem EE{n:Nat}(h:b<n):(AH g n)[b]?=some [g b]:=by simp[AH,h]
theorem Lv(g:Nat->AV)(n:Nat):AH g (n+1)=AH g n++[[g n]]:=by
 unfold AH;rw[q79,q77];rfl
theorem DY{g':Nat->AV}{n:Nat}(h:∀b,b<n->g b=g' b):AH g n=AH g' n:=q42 fun b hb=>by rw[h b (q94.1 hb)]
theorem Jm{n:Nat}(x:AV):(AH g n).set b [x]=AH (fun c=>if c=b then x else g c) n:=by
 refine q62 fun i=>?_
 grind[EE,Av,AH]
theorem YN{n:Nat}(h:cs∈AH g n):∃b,b<n/\cs=[g b]:=by
 grind[AH]
theorem Jn(x:AV)(n:Nat):List.replicate n [x]=AH (fun _=>x) n:=by
 refine q62 fun i=>?_
 grind[EE,List.length_replicate,Av,AH]
variable {k : Nat -> Bool}
theorem Ak{p:Bool}{n:Nat}(h:∀b,b<n->(g b).avoid k=true):(AObj.row p sz (AH g n)).avoid k=true:=by
 cases p with
 |true=>rfl
 |false=>
  show(AH g n).all (fun cs=>cs.all (AV.avoid k))=true;refine q67.2 fun cs hc=>?_
  obtain⟨b,hb,rfl⟩:=YN hc;simp[h b hb]
theorem K0{n:Nat}(h:∀b,b<n->(g b).avoid k=true):(SX sz (AH g n)).avoid k=true:=by
 unfold SX
 cases (AH g n).isEmpty with
 |true=>rfl
 |false=>exact Ak h
theorem cB(sz:Nat)(g:Nat->AV)(n:Nat):SX sz (AH g (n+1))=.row false sz (AH g n++[[g n]]):=by
 rw[Lv];simp[SX,PQ]
theorem cD{t:Nat}{n:Nat}(h:0<n):Bo t (AH g n)=.ref t n 0 n:=by
 grind[QL,AH,Av,Bo]
theorem Xe{n:Nat}(h:0<n):SX sz (AH g n)=.row false sz (AH g n):=by
 obtain⟨m,rfl⟩:∃m,n=m+1:=⟨n-1,by omega⟩
 rw[cB,Lv]
def rG(q m:Nat):Nat->AV:=fun b=>.ref (3*b+q+16) m 0 m
theorem Eb(k0 q m b:Nat):(rG q m b).avoid (kf k0)=true:=by
 simp[rG,AV.avoid,AV.flat,Yb]
def F3(r0 r1 r2:Nat->AObj):Nat->AObj:=fun x=>if x%3=0 then r0 (x/3)else if x%3=1 then r1 (x/3)else r2 (x/3)
theorem AbE(r0 r1 r2:Nat->AObj)(b:Nat):F3 r0 r1 r2 (3*b+0)=r0 b:=by
 grind[F3]
theorem AbD(r0 r1 r2:Nat->AObj)(b:Nat):F3 r0 r1 r2 (3*b+1)=r1 b:=by
 grind[F3]
theorem Adn(r0 r1 r2:Nat->AObj)(b:Nat):F3 r0 r1 r2 (3*b+2)=r2 b:=by
 grind[F3]
def L5(r:Nat->AObj)(b:Nat)(o:AObj):Nat->AObj:=fun c=>if c=b then o else r c
theorem ut(r0 r1 r2:Nat->AObj)(b:Nat)(o:AObj)(x:Nat):F3 (L5 r0 b o) r1 r2 x=if x=3*b+0 then o else F3 r0 r1 r2 x:=by
 grind[F3,L5]
theorem ur(r0 r1 r2:Nat->AObj)(b:Nat)(o:AObj)(x:Nat):F3 r0 (L5 r1 b o) r2 x=if x=3*b+1 then o else F3 r0 r1 r2 x:=by
 grind[F3,L5]
theorem AbC(r0 r1 r2:Nat->AObj)(b:Nat)(o:AObj)(x:Nat):F3 r0 r1 (L5 r2 b o) x=if x=3*b+2 then o else F3 r0 r1 r2 x:=by
 grind[F3,L5]
variable {r0 r1 r2 : Nat -> AObj}
theorem CV(h0:∀b,(r0 b).avoid k=true)(h1:∀b,(r1 b).avoid k=true)(h2:∀b,(r2 b).avoid k=true)(x:Nat):(F3 r0 r1 r2 x).avoid k=true:=by
 grind[F3]
def Ev(b:Nat):Nat:=if b<16 then b else 16+(b-16)%3
theorem nQ(i:Nat):Ev (3*i+0+16)=16:=by unfold Ev;rw[qZ9 Ab];omega
theorem nP(i:Nat):Ev (3*i+1+16)=17:=by unfold Ev;rw[qZ9 Ab];omega
theorem nO(i:Nat):Ev (3*i+2+16)=18:=by unfold Ev;rw[qZ9 Ab];omega
def DD(k:Nat)(o:Nat->AObj):Nat->AObj:=fun b=>if b<k then o b else .free
variable {o : Nat -> AObj} {k : Nat}
theorem FR(h:b<k):DD k o b=o b:=by unfold DD;rw[qK0 h]
theorem L9(h:k<=b):DD k o b=.free:=by unfold DD;rw[qZ9 Ab]
theorem Kr(k:Nat)(o:Nat->AObj):DD (k+1) o=L5 (DD k o) k (o k):=funext fun b=>by
 grind[DD,L5]
theorem HX{o':Nat->AObj}(h:b<k)(ho:∀c,c≠b->o' c=o c):DD k o'=L5 (DD k o) b (o' b):=funext fun c=>by
 grind[DD,L5]
theorem Ge{k:Nat->Bool}{m:Nat}(h:∀b,(o b).avoid k=true)(b:Nat):(DD m o b).avoid k=true:=by
 unfold DD;split
 . exact h b
 . rfl
def Be(I:BB)(b:Nat)(p:Nat->Bool):BB:=fun c=>if c=b then p else I c
theorem Cy(I:BB)(b:Nat)(p:Nat->Bool):Be I b p b=p:=by unfold Be;rw[qK0 rfl]
theorem EI(p:Nat->Bool)(h:c≠b):Be I b p c=I c:=by unfold Be;rw[qZ9 h]
theorem setRow_self(I:BB)(b:Nat):Be I b (I b)=I:=funext fun c=>by
 unfold Be;split
 . subst_vars;rfl
 . rfl
def fX(p q:Nat->Bool)(k:Nat):Nat->Bool:=fun v=>p v||(decide (v/64<k)&&q v)
theorem lR(p q:Nat->Bool)(v:Nat):p v=fX p q 0 v:=by simp[fX]
theorem YJ(hv:v<64):(64*k+v)/64=k:=by omega
theorem lT(p q:Nat->Bool)(k:Nat):B6 (fX p q (k+1)) k=[AV.int .u64 ((wd (fun v=>p (64*k+v)||q (64*k+v)):Nat):Int)]:=by
 grind[B6,wd,If,fX,YJ]
theorem p4(p q:Nat->Bool)(k:Nat):B6 (fX p q k) k=B6 p k:=Fc fun v hv=>by
 grind[fX,YJ,B6]
theorem lS(p q:Nat->Bool)(k:Nat):(B1 R (fX p q k)).set k [AV.int .u64 ((wd (fun v=>p (64*k+v)||q (64*k+v)):Nat):Int)]=B1 R (fX p q (k+1)):=by
 grind[lT,MV,fX,B1,wd]
theorem QY(h:∀v,v/64<nw R->p v=q v):B1 R p=B1 R q:=by
 refine q62 fun i=>?_
 grind[nw,FA,Fc,YJ,BJ,B1]
theorem p5(p q:Nat->Bool)(h:nw R<=k):B1 R (fX p q k)=B1 R (fun v=>p v||q v):=QY fun v hv=>by
 grind[fX,nw,B1]
def Oi(I:BB)(p:Nat->Bool)(x:Block)(j:Nat):Nat->Bool:=fun v=>p v||(x.nexts.take j).any fun d=>I d.toNat v
theorem fU(I:BB)(p:Nat->Bool)(x:Block)(v:Nat):p v=Oi I p x 0 v:=by simp[Oi]
theorem fV(h:x.nexts[j]?=some d)(v:Nat):(Oi I p x j v||I d.toNat v)=Oi I p x (j+1) v:=by
 unfold Oi;have e:x.nexts.take (j+1)=x.nexts.take j++[d]:=by rw[q59,h];rfl
 grind
def E3(I:BB)(p:Nat->Bool)(x:Block):Nat->Bool:=fun v=>p v||x.nexts.any fun d=>I d.toNat v
theorem lP(h:x.nexts.length<=j):Oi I p x j=E3 I p x:=by
 unfold Oi E3;rw[q20 h]
def inN(x:Block)(o:Nat->Bool):Nat->Bool:=fun v=>M3 x v||(o v&& !D2 v x.ins)
theorem Nq(x:Block)(o:Nat->Bool)(v:Nat):inN x o v=need v x.ins (Ei x v||o v):=(aG x v (o v)).symm
def JE(p q:Nat->Bool)(k:Nat):Nat->Bool:=fun v=>if v/64<k then p v else q v
theorem gd(p q:Nat->Bool)(v:Nat):q v=JE p q 0 v:=by simp[JE]
theorem gh(p q:Nat->Bool)(k:Nat):B6 (JE p q (k+1)) k=B6 p k:=Fc fun v hv=>by
 grind[JE,YJ,B6]
theorem mz(p q:Nat->Bool)(k:Nat):B6 (JE p q k) k=B6 q k:=Fc fun v hv=>by
 grind[JE,YJ,B6]
theorem de(p q:Nat->Bool)(hv:v/64≠k):JE p q (k+1) v=JE p q k v:=by
 grind[JE]
theorem my(p q:Nat->Bool)(k:Nat):(B1 R (JE p q k)).set k (B6 p k)=B1 R (JE p q (k+1)):=by
 grind[gh,MV,de,B1,JE,B6]
def SW(p:Nat->Bool)(k:Nat):Nat:=wd (fun v=>p (64*k+v))
theorem WZ(h:SW p k=SW q k)(v:Nat)(hv:v/64=k):p v=q v:=by
 have:=nt (n:=64) h (v%64) (Nat.mod_lt _ Al)
 grind
theorem ge(h:SW p k=SW q k)(v:Nat):JE p q k v=JE p q (k+1) v:=by
 grind[JE,WZ,de,SW]
theorem mA(p q:Nat->Bool)(h:nw R<=k):B1 R (JE p q k)=B1 R p:=QY fun v hv=>by
 grind[JE,nw,B1]
def chg(p q:Nat->Bool)(k:Nat):Bool:=(List.range k).any fun i=>SW p i !=SW q i
theorem qT(h:(SW p k !=SW q k)=true):true=chg p q (k+1):=by
 grind[chg,SW]
theorem wm(h:SW p k=SW q k):chg p q k=chg p q (k+1):=by
 grind[chg,SW]
theorem nR(h:chg p q (nw R)=false)(v:Nat)(hv:v<R):p v=q v:=by
 unfold chg at h;rw[List.any_eq_false]at h;have:=h (v/64) (q94.2 (XT hv))
 grind[WZ,chg,nw]
theorem qU(h:chg p q (nw R)=true):∃v,v<64*nw R/\p v≠q v:=by
 unfold chg at h;obtain⟨i,hi,h2⟩:=q74.1 h;have hi:=q94.1 hi
 by_cases hex:∃v,v<64/\p (64*i+v)≠q (64*i+v)
 . obtain⟨v,hv,hne⟩:=hex;exact⟨64*i+v,by omega,hne⟩
 . exfalso;have:SW p i=SW q i:=If fun v hv=>Classical.byContradiction fun hne=>hex ⟨v,hv,hne⟩
   simp[this]at h2
variable {I' : BB}
theorem U3{n:Nat}(hm:∀b v,I b v=true->I' b v=true)(hb:b<n)(hv:v<R)(h:I b v=false)(h':I' b v=true):KG n R I'<KG n R I:=by
 have hle:∀c v,(if I' c v then 0 else 1)<=(if I c v then 0 else 1:Nat):=fun c v=>by
  grind
 refine km (fun c _=>?_) hb ?_
 . exact Nat.le_of_not_lt fun hlt=>by
    have:∀m,((List.range m).map fun v=>if I' c v then 0 else 1).sum<=((List.range m).map fun v=>if I c v then 0 else 1).sum:=fun m=>by
     induction m with
     |zero=>simp
     |succ m ih=>
      rw[q79,q77,q77,q82,q82];have:=hle c m;simp only[qQ0,qX9,qQ2,List.sum_nil,qX5];omega
    have:=this R;omega
 . refine km (fun u _=>hle b u) hv ?_;rw[h,h'];simp
structure WaitI(n:Nat)(waits:Nat->Bool)(ws:List Nat):Prop where
  nod:ws.Nodup
  mem:∀b,b∈ws↔b<n/\waits b=true
  cnt:((List.range n).map fun b=>if waits b then 1 else 0).sum=ws.length
def Dn(w:Nat->Bool)(b:Nat)(z:Bool):Nat->Bool:=fun c=>if c=b then z else w c
theorem D9(w:Nat->Bool)(b:Nat)(z:Bool):Dn w b z b=z:=by unfold Dn;rw[qK0 rfl]
variable {w : Nat -> Bool}
theorem DK(z:Bool)(h:c≠b):Dn w b z c=w c:=by unfold Dn;rw[qZ9 h]
theorem Wv(w:Nat->Bool)(b:Nat):∀n,((List.range n).map fun c=>if Dn w b true c then 1 else 0).sum=((List.range n).map fun c=>if Dn w b false c then 1 else 0).sum+(if b<n then 1 else 0)
 |0=>by simp
 |n+1=>by
  rw[q79,q77,q77,q82,q82,Wv w b n]
  grind[D9,DK,Dn]
variable {z : Bool}
theorem IY(h:w b=z):Dn w b z=w:=funext fun c=>by
 grind[D9,DK,Dn]
variable {ws : List Nat}
theorem WaitI.push{n:Nat}(h:WaitI n w ws)(hb:b<n)(hw:w b=false):WaitI n (Dn w b true) (ws++[b]):=by
 refine⟨?_,fun c=>?_,?_⟩
 . rw[q65];refine⟨h.nod,by simp,fun x hx y hy=>?_⟩;rw[q47]at hy;subst hy;intro e;subst e;have:=((h.mem x).1 hx).2;rw[hw]at this;cases this
 . rw[q78,q47,h.mem]
   by_cases hc:c=b
   . subst hc;rw[D9];exact⟨fun _=>⟨hb,rfl⟩,fun _=>.inr rfl⟩
   . rw[DK _ hc];exact⟨fun h=>h.elim id fun e=>absurd e hc,.inl⟩
 . rw[Wv,IY hw,h.cnt,qK0 hb];simp
theorem WaitI.pop{n:Nat}(h:WaitI n w (ws++[b])):WaitI n (Dn w b false) ws/\b<n/\w b=true:=by
 have hb:=(h.mem b).1 (q78.2 (.inr (q47.2 rfl)));have hn:=q65.1 h.nod;have hnb:b∉ws:=fun hx=>hn.2.2 b hx b (q47.2 rfl) rfl
 refine⟨⟨hn.1,fun c=>?_,?_⟩,hb.1,hb.2⟩
 . by_cases hc:c=b
   . subst hc;rw[D9];exact⟨fun h=>absurd h hnb,fun h=>by cases h.2⟩
   . rw[DK _ hc,<-h.mem,q78,q47];exact⟨.inl,fun h=>h.elim id fun e=>absurd e hc⟩
 . have e:=Wv w b n;rw[IY hb.2,qK0 hb.1,h.cnt]at e;simp at e;omega
theorem WaitI.le{n:Nat}(h:WaitI n w ws):ws.length<=n:=by
 rw[<-h.cnt];have:∀m,((List.range m).map fun b=>if w b then 1 else 0).sum<=m:=fun m=>by
  induction m with
  |zero=>simp
  |succ m ih=>
   rw[q79,q77,q82];simp only[qQ0,qX9,qQ2,List.sum_nil,qX5];split<;>omega
 exact this n
def LN(w:Nat->Bool)(b:Nat):Nat->Bool:=Dn w b true
def IX(w:Nat->Bool)(ws:List Nat)(b:Nat):List Nat:=bif w b then ws else ws++[b]
theorem WaitI.wait{n:Nat}(h:WaitI n w ws)(hb:b<n):WaitI n (LN w b) (IX w ws b):=by
 unfold LN IX
 cases hw:w b with
 |true=>rw[IY hw];exact h
 |false=>exact h.push hb hw
structure LInv(f:BFunc)(R:Nat)(I O:BB)(w:Nat->Bool)(rest:List Nat):Prop where
  si:SN f I
  so:JW f O
  mono:∀b x,f.blocks[b]?=some x->∀v,I b v=true->need v x.ins (Ei x v||O b v)=true
  cl:∀b,b<f.blocks.length->w b=false->b∈rest\/NN f R I O b
def S9(f:BFunc)(c a:Nat):List Nat:=((f.blocks[a]?).map fun x=>(x.nexts.filter (· ==(c:Int))).map fun _=>a).getD []
def aheadP(f:BFunc)(k j c:Nat):List Nat:=(List.range k).flatMap (S9 f c)++((f.blocks[k]?).map fun x=>((x.nexts.take j).filter (· ==(c:Int))).map fun _=>k).getD []
def AM(f:BFunc)(c:Nat):List Nat:=(List.range f.blocks.length).flatMap (S9 f c)
theorem Ep(f:BFunc)(k c:Nat):aheadP f k 0 c=(List.range k).flatMap (S9 f c):=by
 unfold aheadP
 cases f.blocks[k]?<;>simp
theorem ID(hx:f.blocks[k]?=some x)(hd:x.nexts[j]?=some d)(h0:0<=d)(c:Nat):aheadP f k (j+1) c=if c=d.toNat then aheadP f k j c++[k]else aheadP f k j c:=by
 unfold aheadP;rw[hx];have e:x.nexts.take (j+1)=x.nexts.take j++[d]:=by rw[q59,hd];rfl
 grind
theorem IE(hx:f.blocks[k]?=some x)(h:x.nexts.length<=j)(c:Nat):aheadP f k j c=aheadP f (k+1) 0 c:=by
 rw[Ep,q79,List.flatMap_append];unfold aheadP;congr 1;rw[hx];simp only[q80,q72];rw[q20 h];simp[S9,hx]
variable {a : Nat}
theorem SH(hx:f.blocks[a]?=some x)(h:x.nexts.contains (c:Int)=true):a∈AM f c:=by
 unfold AM;rw[List.mem_flatMap];refine⟨a,q94.2 (q05.1 hx).1,?_⟩;unfold S9;rw[hx];simp only[q80,q72,qX3,q90];exact⟨(c:Int),⟨q31.1 h,by simp⟩,trivial⟩
theorem Lx(h:a∈AM f c):a<f.blocks.length:=by
 grind[AM,S9]
theorem Mv(f:BFunc)(k j c:Nat):(aheadP f k j c).length<=2*k+2:=by
 have h1:∀k,((List.range k).flatMap (S9 f c)).length<=2*k:=fun k=>by
  induction k with
  |zero=>simp
  |succ k ih=>
   rw[q79,List.flatMap_append,q48];have:(S9 f c k).length<=2:=by
    unfold S9
    cases e:f.blocks[k]? with
    |none=>simp
    |some x=>
     simp only[q80,q72,q76];exact qX2 (List.length_filter_le _ _) (Ot x)
   simp only[List.flatMap_cons,List.flatMap_nil,q91];omega
 have h2:=h1 k;unfold aheadP;rw[q48];have:(((f.blocks[k]?).map fun x=>((x.nexts.take j).filter (· ==(c:Int))).map fun _=>k).getD []).length<=2:=by
  cases e:f.blocks[k]? with
  |none=>simp
  |some x=>
   simp only[q80,q72,q76];refine qX2 (List.length_filter_le _ _) ?_;rw[q69];have:=Ot x;omega
 omega
theorem LInv.first(hw:∀b,b<f.blocks.length->w b=true):LInv f R (fun _ _=>false) (fun _ _=>false) w []:=
 ⟨fun _ _ h=>(by cases h),fun _ _ h=>(by cases h),fun _ _ _ _ h=>(by cases h),fun b hb h=>(by rw[hw b hb]at h;cases h)⟩
theorem LInv.wait{rest:List Nat}(h:LInv f R I O w (a::rest)):LInv f R I O (LN w a) rest:=
 ⟨h.si,h.so,h.mono,fun b hb hw=>by
  unfold LN at hw
  by_cases hba:b=a
  . subst hba;rw[D9]at hw;cases hw
  . rw[DK _ hba]at hw;rcases h.cl b hb hw with h1|h1
    . exact(q99.1 h1).elim (fun e=>absurd e hba) .inl
    . exact .inr h1⟩
theorem au(hI:SN f I)(hO:JW f O)(hx:f.blocks[b]?=some x):JW f (Be O b (E3 I (O b) x)):=by
 have hx1:∀v,E3 I (O b) x v=true->outB f x v=true:=fun v hv=>by
  unfold E3 at hv;rcases Bool.or_eq_true_iff.1 hv with h|h
  . obtain⟨y,hy,e⟩:=hO b v h;rw[hx]at hy;cases hy;exact e
  . obtain⟨d,hd,hv2⟩:=q74.1 h;have hp:=ZL (v:=v) hI hO hx hd b v (by unfold lG;rw[qK0 ⟨rfl,rfl⟩,hv2,qX6]);obtain⟨y,hy,e⟩:=hp;rw[hx]at hy;cases hy;exact e
 intro c v hv
 by_cases hc:c=b
 . subst hc;rw[Cy]at hv;exact⟨x,hx,hx1 v hv⟩
 . rw[EI _ hc]at hv;exact hO c v hv
theorem LInv.grow(hs:f.sane)(hx:f.blocks[b]?=some x)(h:LInv f R I O w [])
 (hR:R=f.regs.toNat):let o:=E3 I (O b) x
 LInv f R (Be I b (inN x o)) (Be O b o) (Dn w b false) (bif chg (inN x o) (I b) (nw R)then AM f b else [])/\
 (chg (inN x o) (I b) (nw R)=true->KG f.blocks.length (64*nw R) (Be I b (inN x o))<KG f.blocks.length (64*nw R) I)/\KG f.blocks.length (64*nw R) (Be I b (inN x o))<=KG f.blocks.length (64*nw R) I:=by
 intro o;have hbl:b<f.blocks.length:=(q05.1 hx).1;have hso:JW f (Be O b o):=au h.si h.so hx;have hle:∀v,I b v=true->inN x o v=true:=fun v hv=>by
  rw[Nq];refine BW ?_ (h.mono b x hx v hv);intro e;rcases Bool.or_eq_true_iff.1 e with e|e
  . rw[e];rfl
  . have:o v=true:=by show(O b v||_)=true;rw[e];rfl
    rw[this,qX6]
 have hmon:∀c v,I c v=true->Be I b (inN x o) c v=true:=fun c v hv=>by
  by_cases hc:c=b
  . subst hc;rw[Cy];exact hle v hv
  . rw[EI _ hc];exact hv
 refine⟨⟨?_,hso,?_,?_⟩,?_,?_⟩
 . intro c v hv
   by_cases hc:c=b
   . subst hc;rw[Cy,Nq]at hv;exact Xc (I:=I) hso hx (by rw[Cy];exact hv)
   . rw[EI _ hc]at hv;exact h.si c v hv
 . intro c y hy v hv
   by_cases hc:c=b
   . subst hc;rw[hx]at hy;cases hy;rw[Cy]at hv|-;rw[<-Nq];exact hv
   . rw[EI _ hc]at hv|-;exact h.mono c y hy v hv
 . intro c hc hw;obtain⟨y,hy⟩:=Ad hc;have hnx:∀d∈y.nexts,0<=d:=fun d hd=>(hs.next y (q33 hy) d hd).1
   -- either nothing new is ahead of b, or c doesn't lead to b, or it is to wait
   by_cases hin:(chg (inN x o) (I b) (nw R)=true/\y.nexts.contains (b:Int)=true)
   . left;rw[hin.1];show c∈AM f b;exact SH hy hin.2
   . right;have hsame:∀d∈y.nexts,∀v,v<R->Be I b (inN x o) d.toNat v=I d.toNat v:=fun d hd v hv=>by
      by_cases hdb:d.toNat=b
      . have hcon:y.nexts.contains (b:Int)=true:=by
         rw[q31];have:d=(b:Int):=by have:=hnx d hd;omega
         rw[<-this];exact hd
        have hch:chg (inN x o) (I b) (nw R)=false:=by
         cases e:chg (inN x o) (I b) (nw R)with
         |false=>rfl
         |true=>exact absurd ⟨e,hcon⟩ hin
        rw[hdb,Cy];exact nR hch v hv
      . rw[EI _ hdb]
     intro y' hy' v hv;rw[hy]at hy';cases hy'
     by_cases hcb:c=b
     . subst hcb;rw[hx]at hy;cases hy;rw[Cy,Cy];refine⟨fun d hd hid=>?_,fun hn=>?_⟩
       . rw[hsame d hd v hv]at hid;show(O c v||x.nexts.any fun d=>I d.toNat v)=true;rw[q74.2 ⟨d,hd,hid⟩,qX6]
       . rw[Nq];exact hn
     . have hwc:w c=false:=by rw[DK _ hcb]at hw;exact hw
       have hcl:=(h.cl c hc hwc).elim Ti id y hy v hv;rw[EI _ hcb,EI _ hcb];exact⟨fun d hd hid=>hcl.1 d hd (by rw[hsame d hd v hv]at hid;exact hid),hcl.2⟩
 . intro hch;obtain⟨v,hv,hne⟩:=qU hch;have h1:I b v=false:=by
    grind
   refine U3 hmon hbl hv h1 ?_;exact rR
 . by_cases hex:∃v,v<64*nw R/\inN x o v≠I b v
   . obtain⟨v,hv,hne⟩:=hex;have h1:I b v=false:=by
      cases e:I b v with
      |false=>rfl
      |true=>exact absurd (by rw[hle v e,e]) hne
     refine qX0 (U3 hmon hbl hv h1 ?_);exact rR
   . refine Nat.le_of_eq ?_;unfold KG;congr 1;refine q42 fun c _=>?_
     congr 1;refine q42 fun v hv=>?_
     by_cases hc:c=b
     . subst hc;rw[Cy];rw[show inN x o v=I c v from Classical.byContradiction fun hne=>hex ⟨v,q94.1 hv,hne⟩]
     . rw[EI _ hc]
theorem LInv.closed(h:LInv f R I O w [])(hw:WaitI f.blocks.length w [])(b:Nat)(hb:b<f.blocks.length):NN f R I O b:=
 (h.cl b hb (by
  cases e:w b with
  |false=>rfl
  |true=>exact absurd ((hw.mem b).2 ⟨hb,e⟩) Aq)).elim Ti id
theorem LInv.inRow(hs:f.sane)(hR:R=f.regs.toNat)(h:LInv f R I O w [])(hw:WaitI f.blocks.length w [])(hb:b<f.blocks.length):H7 R (I b)=LU f b:=by
 subst hR;exact Mj fun v hv=>Vb hs h.si h.so (fun c hc=>h.closed hw c hc) hb hv
theorem LInv.outRow(hs:f.sane)(hR:R=f.regs.toNat)(h:LInv f R I O w [])(hw:WaitI f.blocks.length w [])(hx:f.blocks[b]?=some x):H7 R (O b)=V2 f x:=by
 subst hR;exact Mj fun v hv=>bm hs h.si h.so (fun c hc=>h.closed hw c hc) hx hv
def Cg(a:Nat):List AV:=[AV.int .i64 (a:Int)]
def Y8(R:Nat)(x:Block):List AV:=[AV.lst false (B1 R (M3 x))]
def Y7(R:Nat)(x:Block):List AV:=[AV.lst false (B1 R (fun v=>D2 v x.ins))]
def SJ(A:Nat->List Nat)(c:Nat):AV:=Bo (3*c+2+16) ((A c).map Cg)
abbrev oM(f:BFunc)(m len:Nat):List AV:=[Ax f.nexts,.ref 7 f.blocks.length 0 f.blocks.length,.ref 8 f.blocks.length 0 f.blocks.length,.ref 9 f.blocks.length 0 f.blocks.length,.ref 3 f.blocks.length 0 f.blocks.length,.ref 4 f.blocks.length 0 f.blocks.length,.ref 6 m 0 len,.ref 5 f.blocks.length 0 f.blocks.length]
abbrev bC(n:Nat)(w:Nat->Bool):List (List AV):=AH (fun b=>.bool (w b)) n
def rI(n R:Nat)(I:BB):Nat->AObj:=DD n (fun b=>F8 R (I b))
def rA(n:Nat)(A:Nat->List Nat):Nat->AObj:=DD n (fun c=>BU 1 ((A c).map Cg))
abbrev ra(f:BFunc)(R:Nat)(es:List (List AV))(len:Nat)(w:Nat->Bool):List AObj:=
  [.row false 8 [oM f es.length len],.row false 1 (AH (rG 0 (nw R)) f.blocks.length),.row false 1 (AH (rG 1 (nw R)) f.blocks.length),.row true 1 (bC f.blocks.length w),.row true 1 es,
   .row false 1 (AH (SJ (AM f)) f.blocks.length),.row true 1 (f.blocks.map (Y8 R)),.row true 1 (f.blocks.map (Y7 R))]
abbrev HS(f:BFunc)(R:Nat)(es:List (List AV))(len:Nat)(w:Nat->Bool)(F:Nat->AObj):Aj:=Jq (nb (.free:: .free::ra f R es len w)) F
theorem DI(k0:Nat)(A:Nat->List Nat)(c:Nat):(SJ A c).avoid (kf k0)=true:=Cb _ (Yb _ _)
theorem Dt{k:Nat->Bool}{n:Nat}{A:Nat->List Nat}(b:Nat):(rA n A b).avoid k=true:=Ge (fun _=>C7 _ _) b
def D7(w:Nat->Bool)(es:List (List AV))(len b:Nat):List (List AV):=bif w b then es else Eo es len (Cg b)
def EN(w:Nat->Bool)(len b:Nat):Nat:=bif w b then len else len+1
theorem wz{n:Nat}(z:Bool):(bC n w).set b [AV.bool z]=bC n (Dn w b z):=by
 show(AH _ n).set b _=_;rw[Jm];refine DY fun c _=>?_
 unfold Dn;split<;>rfl
theorem Lw{n:Nat}(z:Bool):(bC n w).set (0+((b:Nat):Int).toNat) [AV.bool z]=bC n (Dn w b z):=by
 rw[qQ8,q55];exact wz z
structure StackI(n:Nat)(es:List (List AV))(ws:List Nat):Prop where
  top:es.take ws.length=ws.map Cg
  le:ws.length<=es.length
  max:es.length<=n
theorem Ub{n:Nat}{len:Nat}(h:len<=es.length)(hn:es.length<=n)(hl:len<n):(Eo es len cs).length<=n:=by
 grind[Eo,List.length_set,List.length_append]
theorem Qq:EN w ws.length b=(IX w ws b).length:=by
 grind[EN,IX]
theorem StackI.wait{n:Nat}{es:List (List AV)}{ws:List Nat}{w:Nat->Bool}(h:StackI n es ws)(hw:WaitI n w ws){b:Nat}(hb:b<n):StackI n (D7 w es ws.length b) (IX w ws b):=by
 unfold D7 IX
 cases e:w b with
 |true=>exact h
 |false=>
  have hlt:=(hw.wait hb).le;unfold IX at hlt;rw[e]at hlt;simp only[qZ3,q48,q70,q84]at hlt;refine⟨?_,?_,Ub h.le h.max Ab⟩
  . simp only[qZ3,q48,q70,q84];rw[Me h.le,h.top,q77];rfl
  . simp only[qZ3,q48,q70,q84];exact Of h.le
theorem StackI.get{n:Nat}(h:StackI n es (ws++[b])):es[ws.length]?=some (Cg b):=by
 have h1:=congrArg (fun l=>l[ws.length]?) h.top
 grind
theorem StackI.pop{n:Nat}(h:StackI n es (ws++[b])):StackI n es ws:=by
 refine⟨?_,by have:=h.le;simp at this;omega,h.max⟩;have h1:=congrArg (List.take ws.length) h.top
 grind
theorem Xv{n:Nat}(h:∀b,b<n->B1 R (I b)=B1 R (I' b)):rI n R I=rI n R I':=funext fun b=>by
 unfold rI DD
 by_cases hb:b<n
 . rw[qK0 hb,qK0 hb];show AObj.row true 1 _=AObj.row true 1 _;rw[h b hb]
 grind
theorem lv{n:Nat}(h:B1 R p=B1 R q):rI n R (Be I b p)=rI n R (Be I b q):=Xv fun c _=>by
 unfold Be;split
 . exact h
 . rfl
theorem cR{n:Nat}(h:B1 R (I b)=B1 R p):rI n R I=rI n R (Be I b p):=Xv fun c _=>by
 unfold Be;split
 . subst_vars;exact h
 . rfl
theorem pS{n:Nat}(h:b<n):F3 (rI n R I) r1 r2 (3*b+0)=.row true 1 (B1 R (I b)):=(AbE _ _ _ _).trans (FR h)
theorem Aa9{n:Nat}(h:b<n):F3 r0 (rI n R O) r2 (3*b+1)=.row true 1 (B1 R (O b)):=(AbD _ _ _ _).trans (FR h)
theorem cQ{n:Nat}(h:b<n):F3 (rI n R (Be I b p)) r1 r2 (3*b+0)=.row true 1 (B1 R p):=by rw[pS h,Cy]
theorem T9{n:Nat}(h:b<n):F3 r0 (rI n R (Be O b p)) r2 (3*b+1)=.row true 1 (B1 R p):=by rw[Aa9 h,Cy]
variable {p' : Nat -> Bool}
theorem lq{n:Nat}(hb:b<n):rI n R (Be I b p')=L5 (rI n R (Be I b p)) b (.row true 1 (B1 R p')):=by
 have:=HX (k:=n) (o:=fun c=>F8 R (Be I b p c)) (o':=fun c=>F8 R (Be I b p' c)) hb (fun c hc=>by rw[EI _ hc,EI _ hc]);refine this.trans ?_;rw[Cy];rfl
theorem ln{n:Nat}(h:b<n)(hs:(B1 R p).set k cs=B1 R p')(x:Nat):
 F3 r0 (rI n R (Be O b p')) r2 x=if x=3*b+1 then .row true 1 ((B1 R p).set (0+((k:Nat):Int).toNat) cs)else F3 r0 (rI n R (Be O b p)) r2 x:=by
 rw[lq (p:=p) h,ur,qQ8,q55,hs]
theorem lp{n:Nat}(h:b<n)(hs:(B1 R p).set k cs=B1 R p')(x:Nat):
 F3 (rI n R (Be I b p')) r1 r2 x=if x=3*b+0 then .row true 1 ((B1 R p).set (0+((k:Nat):Int).toNat) cs)else F3 (rI n R (Be I b p)) r1 r2 x:=by
 rw[lq (p:=p) h,ut,qQ8,q55,hs]
theorem Bf{k:Nat->Bool}{n:Nat}(b:Nat):(rI n R I b).avoid k=true:=Ge (fun _=>rfl) b
theorem Aa8{n:Nat}(h:∀v,I b v=p v)(x:Nat):F3 (rI n R I) r1 r2 x=F3 (rI n R (Be I b p)) r1 r2 x:=by rw[cR (EY h)]
theorem Aa7{n:Nat}(h:∀v,O b v=p v)(x:Nat):F3 r0 (rI n R O) r2 x=F3 r0 (rI n R (Be O b p)) r2 x:=by rw[cR (EY h)]
theorem kQ{n:Nat}(h:B1 R p=B1 R q)(x:Nat):F3 (rI n R (Be I b p)) r1 r2 x=F3 (rI n R (Be I b q)) r1 r2 x:=by rw[lv h]
theorem kP{n:Nat}(h:B1 R p=B1 R q)(x:Nat):F3 r0 (rI n R (Be O b p)) r2 x=F3 r0 (rI n R (Be O b q)) r2 x:=by rw[lv h]
theorem ml(h:((((wd (fun v=>p (64*k+v)):Nat):Int)) !=((wd (fun v=>q (64*k+v)):Nat):Int))=z):(SW p k !=SW q k)=z:=by
 rw[<-h]
 grind[wd,SW]
theorem iv(h:(a !=b)=false):a=b:=by simpa using h
end Go.Proofs.YtbbfelelocccmaaGreat.Sv
